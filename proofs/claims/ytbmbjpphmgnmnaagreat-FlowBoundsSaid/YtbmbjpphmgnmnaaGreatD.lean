/- As VlX, with operations that look at memory of one's own which effects turn: such a look stands ahead of every effect that comes behind it. -/
import Derived.Test.YtbmbjpphmgnmnaaGreatC
import Derived.Maps.RangeRun
import Derived.Sort.Row
import Derived.Sort.Grow
import Derived.KernelRfl
import Derived.Test.YtbmbjpphmgnmnaaGreatProg
import Derived.Sort.AssemblyPlain
import Derived.Sort.LotC
import Derived.Ground.NamesProg
import Derived.Shelf.Lay
import Derived.Shelf.Small.Bits
import Derived.Lib.ItoaNum
set_option linter.unusedVariables false
set_option linter.unusedSimpArgs false
namespace Go.Vl
open Go.RowKit
variable {P : Program}

def PureNow (P : Program) (ops : Array Oper) (o : Oper) (E : Env) (r : AV) : Prop :=
  ∀ E' : Env, E'.h = E.h → (∀ k, k ∈ o.looksAt ops → E'.t k = E.t k) → GY P ops o E' r
theorem PureNow.congr {ops : Array Oper} {o : Oper} {E E' : Env} {r : AV} (h : PureNow P ops o E r) (hh : E'.h = E.h) (ht : ∀ k, k ∈ o.looksAt ops → E'.t k = E.t k) : PureNow P ops o E' r :=
  fun E'' h1 h2 => h E'' (h1.trans hh) fun k hk => (h2 k hk).trans (ht k hk)
def MixL3 (P : Program) (ops : Array Oper) (B : List (Id × Own)) (eff ld : Nat → Bool) : List Nat → Env → (Env → Prop) → Prop
  | [], E, K => K E
  | i :: l, E, K => ∃ o, ops[i]? = some o ∧ (match eff i with
    | true => ∃ R, Eff P ops B o E R ∧ ∀ r h', R r h' → MixL3 P ops B eff ld l (({ E with h := h' } : Env).set o.dst r) K
    | false => match ld i with
      | true => ∃ r, PureNow P ops o E r ∧ MixL3 P ops B eff ld l (E.set o.dst r) K
      | false => ∃ r, PureAll P ops B o E r ∧ MixL3 P ops B eff ld l (E.set o.dst r) K)
theorem MixL3.front {ops : Array Oper} {B : List (Id × Own)} {eff ld : Nat → Bool} {K : Env → Prop} {j : Nat} {oj : Oper} (hj : ops[j]? = some oj) : ∀ (l1 l2 : List Nat) (E : Env),
    (∀ i ∈ l1, eff i = false ∧ (ld i = true → eff j = false) ∧ ∀ oi, ops[i]? = some oi → oi.apart ops oj = true) → MixL3 P ops B eff ld (l1 ++ j :: l2) E K → MixL3 P ops B eff ld (j :: (l1 ++ l2)) E K
  | [], l2, E, _, h => h
  | i :: l1, l2, E, hap, h => by
    obtain ⟨oi, h1, h2⟩ := h
    obtain ⟨he, hld, ha⟩ := hap i (by simp)
    obtain ⟨a1, a2, a3⟩ := Oper.apart_spec (ha oi h1)
    have back : ∀ {ri : AV} {E1 : Env}, E1.h = E.h ∨ ld i = false → (∀ k, k ∈ oi.looksAt ops → E1.t k = E.t k) → (match ld i with | true => PureNow P ops oi E ri | false => PureAll P ops B oi E ri) →
        (match ld i with | true => PureNow P ops oi E1 ri | false => PureAll P ops B oi E1 ri) := fun hh ht hp => by
      cases hli : ld i with
      | true => simp only [hli] at hp ⊢; exact hp.congr (hh.resolve_right (by rw [hli]; simp)) ht
      | false => simp only [hli] at hp ⊢; exact hp.congr ht
    simp only [he] at h2
    have h2' : ∃ ri, (match ld i with | true => PureNow P ops oi E ri | false => PureAll P ops B oi E ri) ∧ MixL3 P ops B eff ld (l1 ++ j :: l2) (E.set oi.dst ri) K := by
      cases hli : ld i with
      | true => simp only [hli] at h2 ⊢; exact h2
      | false => simp only [hli] at h2 ⊢; exact h2
    obtain ⟨ri, h3, h4⟩ := h2'
    have close : ∀ {E1 : Env}, (match ld i with | true => PureNow P ops oi E1 ri | false => PureAll P ops B oi E1 ri) → MixL3 P ops B eff ld (l1 ++ l2) (E1.set oi.dst ri) K → MixL3 P ops B eff ld (i :: (l1 ++ l2)) E1 K := fun hp hk => by
      refine ⟨oi, h1, ?_⟩
      simp only [he]
      cases hli : ld i with
      | true => simp only [hli] at hp ⊢; exact ⟨ri, hp, hk⟩
      | false => simp only [hli] at hp ⊢; exact ⟨ri, hp, hk⟩
    obtain ⟨o, h5, h6⟩ := MixL3.front hj l1 l2 _ (fun i' hi' => hap i' (List.mem_cons_of_mem _ hi')) h4
    rw [hj] at h5
    cases h5
    refine ⟨oj, hj, ?_⟩
    cases hej : eff j with
    | true =>
      have hli : ld i = false := by
        cases h : ld i with
        | false => rfl
        | true => rw [hld h] at hej; cases hej
      simp only [hej] at h6 ⊢
      obtain ⟨R, q1, q2⟩ := h6
      refine ⟨R, q1.congr (by rw [Env.set_h]) fun k hk => (Env.set_other (fun e => a1 k e hk)).symm, fun r h' hr => ?_⟩
      have q3 := q2 r h' hr
      refine close (back (.inr hli) (fun k hk => Env.set_other (fun e => a3 k e hk)) h3) ?_
      rw [set_heap, Env.set_comm (d := oi.dst) (d' := oj.dst) (fun k hk => a2 k hk)] at q3
      exact q3
    | false =>
      simp only [hej] at h6 ⊢
      cases hlj : ld j with
      | true =>
        simp only [hlj] at h6 ⊢
        obtain ⟨rj, q1, q2⟩ := h6
        refine ⟨rj, q1.congr (by rw [Env.set_h]) fun k hk => (Env.set_other (fun e => a1 k e hk)).symm, close (back (.inl (by rw [Env.set_h])) (fun k hk => Env.set_other (fun e => a3 k e hk)) h3) ?_⟩
        rw [Env.set_comm (d := oi.dst) (d' := oj.dst) (fun k hk => a2 k hk)] at q2
        exact q2
      | false =>
        simp only [hlj] at h6 ⊢
        obtain ⟨rj, q1, q2⟩ := h6
        refine ⟨rj, q1.congr fun k hk => (Env.set_other (fun e => a1 k e hk)).symm, close (back (.inl (by rw [Env.set_h])) (fun k hk => Env.set_other (fun e => a3 k e hk)) h3) ?_⟩
        rw [Env.set_comm (d := oi.dst) (d' := oj.dst) (fun k hk => a2 k hk)] at q2
        exact q2
/-- What is looked up of an order: each operation once; none waits for one behind; each waits for those ahead, or they only yield and are apart. -/
def ordM3 (ops : Array Oper) (m : Nat) (eff ld : Nat → Bool) (L : List Nat) : Bool :=
  let bf := Region.before ops
  Nat.ble m ops.size && (ordB ops m && (L.all (fun i => Nat.blt i m) && ((List.range m).all (fun i => L.contains i) && (go bf L))))
where
  go (bf : Array Nat) : List Nat → Bool
    | [] => true
    | i :: l => (l.all fun j => match ops[i]?, ops[j]? with
      | some oi, some oj => (!Nat.beq i j) && ((oi.after.toList.all fun e => !Region.binds .any e || !Nat.beq e.on j) && ((bf.getD j 0).testBit i || (!eff i && (!(ld i && eff j) && oi.apart ops oj))))
      | _, _ => false) && ((match ops[i]? with | some oi => oi.after.toList.all fun e => !Region.binds .any e || !Nat.beq e.on i | none => false) && go bf l)
def PairM3 (ops : Array Oper) (eff ld : Nat → Bool) (i j : Nat) : Prop :=
  i ≠ j ∧ ∀ oi oj, ops[i]? = some oi → ops[j]? = some oj → (∀ e ∈ oi.after, Region.binds .any e = true → e.on ≠ j) ∧ (((Region.before ops).getD j 0).testBit i = true ∨ (eff i = false ∧ (ld i = true → eff j = false) ∧ oi.apart ops oj = true))
theorem ordM3_go {ops : Array Oper} {eff ld : Nat → Bool} : ∀ {L : List Nat}, ordM3.go ops eff ld (Region.before ops) L = true →
    L.Pairwise (PairM3 ops eff ld) ∧ ∀ i ∈ L, ∀ oi, ops[i]? = some oi → ∀ e ∈ oi.after, Region.binds .any e = true → e.on ≠ i
  | [], _ => ⟨.nil, by simp⟩
  | i :: l, h => by
    simp only [ordM3.go, Bool.and_eq_true] at h
    obtain ⟨h1, h2, h3⟩ := h
    obtain ⟨q1, q2⟩ := ordM3_go h3
    refine ⟨List.pairwise_cons.2 ⟨fun j hj => ?_, q1⟩, fun k hk => ?_⟩
    · have := List.all_eq_true.1 h1 j hj
      split at this
      · rename_i oi oj hi hj'
        simp only [Bool.and_eq_true, Bool.or_eq_true, List.all_eq_true] at this
        obtain ⟨p1, p2, p3⟩ := this
        refine ⟨beq_no p1, fun oi' oj' hi2 hj2 => ?_⟩
        rw [hi] at hi2; rw [hj'] at hj2
        cases hi2; cases hj2
        refine ⟨fun e he hb => ?_, p3.imp id fun h => by
          simp at h
          exact ⟨h.1, fun hl => h.2.1.resolve_left (by rw [hl]; simp), h.2.2⟩⟩
        rcases p2 e (Array.mem_toList_iff.2 he) with h | h
        · simp [hb] at h
        · exact beq_no h
      · cases this
    · rcases List.mem_cons.1 hk with rfl | hk
      · intro oi hi e he hb
        rw [hi] at h2
        have := List.all_eq_true.1 h2 e (Array.mem_toList_iff.2 he)
        simp only [hb, Bool.not_true, Bool.false_or] at this
        exact beq_no this
      · exact q2 k hk

theorem mix_any3 {ops : Array Oper} {m : Nat} {B : List (Id × Own)} {eff ld : Nat → Bool} {Q : Exit → Act → World → Prop} (hk : OrdOk ops m) (hm : m ≤ ops.size)
    {ro : Option Nat} {X M : Nat → Nat → Prop} {w0 : World} {g0 : List Nat} {K : Env → Prop}
    (hq : ∀ E a w g, K E → (∀ (i b : Nat), g0[i]? = some b → g[i]? = some b) → St ro X M w0 E a w g → wpOpsIn (Fr ro) 0 P ops Q (List.range' m (ops.size - m)) a w) :
    ∀ (n : Nat) (L : List Nat) (listed : Array Bool) (E : Env) (a : Act) (w : World) (g : List Nat), L.length = n → L.Pairwise (PairM3 ops eff ld) → (∀ i ∈ L, i < m) →
      (∀ i ∈ L, ∀ oi, ops[i]? = some oi → ∀ e ∈ oi.after, Region.binds .any e = true → e.on ≠ i) → listed.size = ops.size → DC ops listed →
    (∀ i, i < ops.size → (listed.getD i true = false ↔ i ∈ L ∨ m ≤ i)) → MixL3 P ops B eff ld L E K → HB B E.h.bx → (∀ (i b : Nat), g0[i]? = some b → g[i]? = some b) → St ro X M w0 E a w g → wpAnyIn (Fr ro) 0 P .any ops Q (n + (ops.size - m)) listed a w := by
  intro n
  induction n with
  | zero =>
    intro L listed E a w g hl _ _ _ hsz hd hun hrun _ hg hs
    have : L = [] := List.eq_nil_of_length_eq_zero hl
    subst this
    rw [Nat.zero_add]
    exact tail_any hk _ m listed a w (by omega) (Nat.le_refl _) hsz hd (fun i hi => by simpa using hun i hi) (hq E a w g hrun hg hs)
  | succ n ih =>
    intro L listed E a w g hl hpw hlt hself hsz hd hun hrun hB hg hs
    rw [Nat.add_right_comm]
    obtain ⟨k, L', rfl⟩ : ∃ k L', L = k :: L' := by cases L with | nil => simp at hl | cons k L' => exact ⟨k, L', rfl⟩
    have hkm : k < m := hlt k (by simp)
    have hklt : k < ops.size := by omega
    have hko : ops[k]? = some ops[k] := Array.getElem?_eq_getElem hklt
    have hkr : k ∈ Region.ready .any ops listed := by
      refine mem_ready_iff.2 ⟨(hun k hklt).2 (by simp), _, hko, fun e he hb => ?_⟩
      have hb' := hk.back k _ hko e he hb
      rw [listed_bool (by omega)]
      cases hl : listed.getD e.on true with
      | true => simpa using hl
      | false =>
        rcases (hun e.on (by omega)).1 hl with h' | h'
        · rcases List.mem_cons.1 h' with h' | h'
          · exact absurd h' (hself k (by simp) _ hko e he hb)
          · exact absurd rfl (((List.pairwise_cons.1 hpw).1 _ h').2 _ _ hko (Array.getElem?_eq_getElem (by omega)) |>.1 e he hb)
        · omega
    refine ⟨fun h0 => (by rw [h0] at hkr; cases hkr), fun j hj => ?_⟩
    obtain ⟨h1, oj, hoj, h2⟩ := mem_ready_iff.1 hj
    have hjlt := (Array.getElem?_eq_some_iff.1 hoj).1
    have hjL : j ∈ k :: L' := by
      rcases (hun j hjlt).1 h1 with h' | h'
      · exact h'
      · have hb := hk.tail k j oj hoj h' (by omega)
        have := before_listed hd hsz hoj h2 hb
        have h3 := (hun k (by omega)).2 (by simp)
        rw [listed_bool (by omega)] at this
        simp [h3] at this
    obtain ⟨l1, l2, hl12⟩ := List.append_of_mem hjL
    rw [hl12] at hrun hpw hun hlt hl hself
    have hl1 : ∀ i ∈ l1, PairM3 ops eff ld i j := fun i hi => (List.pairwise_append.1 hpw).2.2 i hi j (by simp)
    obtain ⟨o, ho, hrun'⟩ := MixL3.front hoj l1 l2 E (fun i hi => by
      obtain ⟨hne, hp⟩ := hl1 i hi
      have hilt : i < ops.size := Nat.lt_of_lt_of_le (hlt i (by simp [hi])) hm
      rcases (hp _ _ (Array.getElem?_eq_getElem hilt) hoj).2 with hb | ⟨hb, hb2, hb'⟩
      · have := before_listed hd hsz hoj h2 hb
        have h3 := (hun i hilt).2 (by simp [hi])
        rw [listed_bool (by omega)] at this
        simp [h3] at this
      · exact ⟨hb, hb2, fun oi hoi => by rw [Array.getElem?_eq_getElem hilt] at hoi; cases hoi; exact hb'⟩) hrun
    rw [hoj] at ho
    cases ho
    have hnext : ∀ E' a' w' g', MixL3 P ops B eff ld (l1 ++ l2) E' K → HB B E'.h.bx → (∀ (i b : Nat), g0[i]? = some b → g'[i]? = some b) → St ro X M w0 E' a' w' g' → wpAnyIn (Fr ro) 0 P .any ops Q (n + (ops.size - m)) (listed.setIfInBounds j true) a' w' := by
      intro E' a' w' g' hm' hB' hg' hs'
      have hsub : (l1 ++ l2).Sublist (l1 ++ j :: l2) := List.Sublist.append (List.Sublist.refl _) (List.sublist_cons_self _ _)
      refine ih (l1 ++ l2) _ E' a' w' g' (by simp at hl ⊢; omega) (hpw.sublist hsub) (fun i hi => hlt i (hsub.subset hi)) (fun i hi => hself i (hsub.subset hi)) (by simp [hsz]) (hd.set hsz hk hj) (fun i hi => ?_) hm' hB' hg' hs'
      rw [listed_set (by omega)]
      by_cases hij : i = j
      · subst hij
        simp only [if_true]
        constructor
        · intro h; cases h
        · intro h
          exfalso
          have h5 := List.pairwise_append.1 hpw
          rcases h with h | h
          · rcases List.mem_append.1 h with h | h
            · exact (h5.2.2 i h i (by simp)).1 rfl
            · exact ((List.pairwise_cons.1 h5.2.1).1 i h).1 rfl
          · have := hlt i (by simp); omega
      · rw [if_neg hij, hun i hi]
        simp [hij]
    cases hej : eff j with
    | true =>
      simp only [hej] at hrun'
      obtain ⟨R, ⟨q0, q1⟩, q2⟩ := hrun'
      unfold wpOpIn
      simp only [hoj, Region.wanted, q0, if_true]
      exact q1 E rfl (fun _ _ => rfl) ro X M w0 a w g hs _ _ (fun E' a' w' g' hE hgg hs' => by
        obtain ⟨r, h', p1, p2, rfl⟩ := hE
        exact hnext _ a' w' g' (q2 r h' p1) (by rw [Env.set_h]; exact p2) (fun i b hi => hgg i b (hg i b hi)) hs') (fun x E' a' w' g' v hk' => hk'.elim)
    | false =>
      simp only [hej] at hrun'
      cases hlj : ld j with
      | true =>
        simp only [hlj] at hrun'
        obtain ⟨r, q1, q2⟩ := hrun'
        exact (q1 E rfl fun _ _ => rfl).does hoj hs fun a' w' hs' => hnext _ a' w' g q2 (by rw [Env.set_h]; exact hB) hg hs'
      | false =>
        simp only [hlj] at hrun'
        obtain ⟨r, q1, q2⟩ := hrun'
        exact (q1 E hB fun _ _ => rfl).does hoj hs fun a' w' hs' => hnext _ a' w' g q2 (by rw [Env.set_h]; exact hB) hg hs'

/-- Reckoned: what the table tells (a look at the present memory, else without any), and effects as they come. -/
def aM3 (P : Program) (ops : Array Oper) (eff ld : Nat → Bool) : List Nat → Env → (Env → Prop) → Prop
  | [], E, K => K E
  | i :: l, E, K => match ops[i]? with
    | none => False
    | some o => match eff i with
        | true => ∃ R, Eff P ops [] o E R ∧ ∀ r h', R r h' → aM3 P ops eff ld l (({ E with h := h' } : Env).set o.dst r) K
        | false => match ld i with
          | true => ∃ r, PureNow P ops o E r ∧ splitV r fun r => aM3 P ops eff ld l (E.set o.dst r) K
          | false => match o.guard with
            | some _ => False
            | none => match apure P o.op { E with h := ⟨[], [], 0, 0⟩ } with
              | some (C, r) => condK C (splitV r fun r => aM3 P ops eff ld l (E.set o.dst r) K)
              | none => False
theorem aM3_use {ops : Array Oper} {eff ld : Nat → Bool} {K : Env → Prop} : ∀ {L : List Nat} {E : Env}, aM3 P ops eff ld L E K → MixL3 P ops [] eff ld L E K
  | [], E, h => h
  | i :: l, E, h => by
    unfold aM3 at h
    split at h
    · exact h.elim
    · rename_i o ho
      refine ⟨o, ho, ?_⟩
      cases he : eff i with
      | true =>
        simp only [he] at h ⊢
        obtain ⟨R, q1, q2⟩ := h
        exact ⟨R, q1, fun r h' hr => aM3_use (q2 r h' hr)⟩
      | false =>
        simp only [he] at h ⊢
        cases hl : ld i with
        | true =>
          simp only [hl] at h ⊢
          obtain ⟨r, q1, q2⟩ := h
          exact ⟨r, q1, aM3_use (splitV_use q2)⟩
        | false =>
          simp only [hl] at h ⊢
          split at h
          · exact h.elim
          · rename_i hg
            split at h
            · rename_i C r hp
              obtain ⟨q1, q2⟩ := condK_use h
              refine ⟨r, fun E' hb ht => ?_, aM3_use (splitV_use q2)⟩
              unfold GY
              simp only [hg]
              exact apure_sound (apure_more (E := { E with h := ⟨[], [], 0, 0⟩ }) (E' := E') hb (ev_congr (E := { E with h := ⟨[], [], 0, 0⟩ }) ht) hp) q1
            · exact h.elim
/-- A look that the table tells over the present memory. -/
theorem now_apure {ops : Array Oper} {o : Oper} {E : Env} {C : Option Prop} {r : AV} (hg : o.guard = none) (hp : apure P o.op E = some (C, r)) (hC : condP C) : PureNow P ops o E r := fun E' hh ht => by
  unfold GY
  simp only [hg]
  exact apure_sound (apure_more (E := E) (E' := E') (by rw [hh]; exact HB.refl _) (ev_congr ht) hp) hC
/-- A region that draws, effects among what it does; from m on it is forced. -/
theorem aw_mix3 {id : Nat} {ops : Array Oper} {E : Env} {Q : AExit → Env → Prop} (m : Nat) (eff ld : Nat → Bool) (L : List Nat) (hf : P.follows .mixedOrders = true) (hb : ordM3 ops m eff ld L = true)
    (h : aM3 P ops eff ld L E fun E' => aK P ops (ops.toList.drop m) E' (Q .normal) (fun x E => Q (.panic x) E)) : AW P (.region id ops true) E Q := by
  simp only [ordM3, Bool.and_eq_true, List.all_eq_true] at hb
  obtain ⟨h0, h00, h1, h2, h3⟩ := hb
  have hm := ble_true h0
  obtain ⟨h4, h5⟩ := ordM3_go h3
  have hlt : ∀ i ∈ L, i < m := fun i hi => blt_true (h1 i hi)
  have hall : ∀ i, i < m → i ∈ L := fun i hi => by simpa using h2 i (List.mem_range.2 hi)
  have hnd : L.Nodup := h4.imp fun h => h.1
  have hlen : L.length = m := by
    have p : L.Perm (List.range m) := (List.perm_ext_iff_of_nodup hnd List.nodup_range).2 fun i => ⟨fun hi => List.mem_range.2 (hlt i hi), fun hi => hall i (List.mem_range.1 hi)⟩
    simpa using p.length_eq
  unfold AW
  intro ro X M w0 a w g g0 hg hs
  refine wpIn_region_any hf ?_
  have hs' : St ro X M w0 E a { w with drawn := w.drawn + 1 } g := hs.drew
  have key := mix_any3 (eff := eff) (ld := ld) (g0 := g0) (K := fun E' => aK P ops (ops.toList.drop m) E' (Q .normal) (fun x E => Q (.panic x) E)) (Q := lift ro X M w0 g0 Q) (P := P) (X := X) (M := M) (w0 := w0) (ro := ro) (B := []) (ordOk h00) hm (fun E' a' w' g' hk hg' hs'' => by
      have := aK_sound (P := P) (ops := ops) (K := Q .normal) (X := X) (M := M) (w0 := w0) (g0 := g0) (Kp := fun x E => Q (.panic x) E) (ro := ro) (Q := lift ro X M w0 g0 Q) (fun E a w g hk hg hs => ⟨.normal, E, g, hk, rfl, hg, hs⟩) (fun x E a w g v hk hg hs hr => ⟨.panic x, E, g, hk, ⟨v, rfl, hr⟩, hg, hs⟩) (ops.toList.drop m) m E' a' w' g' (fun j => .inl (by simp)) hg' hs'' hk
      simpa using this) m L (Array.replicate ops.size false) E a _ g hlen h4 hlt h5 (by simp) (fun k o ho hl => by
      have hk := (Array.getElem?_eq_some_iff.1 ho).1
      simp [Array.getD_eq_getD_getElem?, hk] at hl) (fun i hi => by
      have : (Array.replicate ops.size false).getD i true = false := by simp [Array.getD_eq_getD_getElem?, hi]
      simp only [this, true_iff]
      rcases Nat.lt_or_ge i m with h | h
      · exact .inl (hall i h)
      · exact .inr h) (aM3_use h) (fun _ _ _ h => by cases h) hg hs'
  have e : m + (ops.size - m) = ops.size := by omega
  rw [e] at key
  exact key

end Go.Vl

/- A walk cut in two where ways meet again; rows of cells in a box, element by element. -/
namespace Go.Vl
open Go.RowKit
variable {P : Program}

/-- Behind the first part the env is one of a family. -/
def cutQ {ι : Type} (F : ι → Env) (J : ι → Prop) (Q : AExit → Env → Prop) : AExit → Env → Prop := fun e E' =>
  match e with
  | .normal => ∃ i, J i ∧ ELe E' (F i)
  | e => Q e E'
theorem aw_mid {ι : Type} (F : ι → Env) (J : ι → Prop) {x y : Code} {E : Env} {Q : AExit → Env → Prop} (h : AW P x E (cutQ F J Q)) (hk : ∀ i, J i → AW P y (F i) Q) : AW P x E (seqQ P y Q) :=
  h.mono fun ex E' h' => by
    cases ex with
    | normal => obtain ⟨i, hI, hl⟩ := h'; exact AW.le hl (hk i hI)
    | exit i => exact h'
    | goto i => exact h'
    | ret => exact h'
    | panic i => exact h'
theorem cut_use {ι : Type} {F : ι → Env} {J : ι → Prop} {y : Code} {Q : AExit → Env → Prop} (hk : ∀ i, J i → AW P y (F i) Q) : ∀ ex E', cutQ F J Q ex E' → seqQ P y Q ex E' := fun ex E' h' => by
  cases ex with
  | normal => obtain ⟨i, hI, hl⟩ := h'; exact AW.le hl (hk i hI)
  | exit i => exact h'
  | goto i => exact h'
  | ret => exact h'
  | panic i => exact h'
theorem seqQ_mono {y : Code} {Q Q' : AExit → Env → Prop} (h : ∀ ex E, Q ex E → Q' ex E) : ∀ ex E, seqQ P y Q ex E → seqQ P y Q' ex E := fun ex E h' => by
  cases ex with
  | normal => exact AW.mono h' h
  | exit i => exact h _ _ h'
  | goto i => exact h _ _ h'
  | ret => exact h _ _ h'
  | panic i => exact h _ _ h'
/-- The cut behind the second part. -/
theorem aw_mid2 {ι : Type} (F : ι → Env) (J : ι → Prop) {x y1 y : Code} {E : Env} {Q : AExit → Env → Prop} (h : AW P x E (seqQ P y1 (cutQ F J Q))) (hk : ∀ i, J i → AW P y (F i) Q) : AW P x E (seqQ P y1 (seqQ P y Q)) :=
  h.mono (seqQ_mono (cut_use hk))
theorem aw_mid3 {ι : Type} (F : ι → Env) (J : ι → Prop) {x y1 y2 y : Code} {E : Env} {Q : AExit → Env → Prop} (h : AW P x E (seqQ P y1 (seqQ P y2 (cutQ F J Q)))) (hk : ∀ i, J i → AW P y (F i) Q) : AW P x E (seqQ P y1 (seqQ P y2 (seqQ P y Q))) :=
  h.mono (seqQ_mono (seqQ_mono (cut_use hk)))
theorem aw_midB {ι : Type} (F : ι → Env) (J : ι → Prop) {k : Nat} {x y : Code} {E : Env} {Q : AExit → Env → Prop} (h : AW P x E (blockQ k (cutQ F J Q))) (hk : ∀ i, J i → AW P y (F i) Q) : AW P x E (blockQ k (seqQ P y Q)) := by
  have key : ∀ ex E', cutQ F J Q ex E' → seqQ P y Q ex E' := fun ex E' h' => by
    cases ex with
    | normal => obtain ⟨i, hI, hl⟩ := h'; exact AW.le hl (hk i hI)
    | exit i => exact h'
    | goto i => exact h'
    | ret => exact h'
    | panic i => exact h'
  refine h.mono fun ex E' h' => ?_
  cases ex with
  | exit i =>
    simp only [blockQ] at h' ⊢
    cases hb : Nat.beq i k with
    | true => simp only [hb, cond_true] at h' ⊢; exact key .normal _ h'
    | false => simp only [hb, cond_false] at h' ⊢; exact h'
  | normal => exact key .normal _ h'
  | goto i => exact h'
  | ret => exact h'
  | panic i => exact h'
theorem blockQ_mono {k : Nat} {Q Q' : AExit → Env → Prop} (h : ∀ ex E, Q ex E → Q' ex E) : ∀ ex E, blockQ k Q ex E → blockQ k Q' ex E := fun ex E h' => by
  cases ex with
  | exit i =>
    simp only [blockQ] at h' ⊢
    cases hb : Nat.beq i k with
    | true => simp only [hb, cond_true] at h' ⊢; exact h _ _ h'
    | false => simp only [hb, cond_false] at h' ⊢; exact h _ _ h'
  | normal => exact h _ _ h'
  | goto i => exact h _ _ h'
  | ret => exact h _ _ h'
  | panic i => exact h _ _ h'
theorem aw_mid2B {ι : Type} (F : ι → Env) (J : ι → Prop) {k : Nat} {x y1 y : Code} {E : Env} {Q : AExit → Env → Prop} (h : AW P x E (seqQ P y1 (blockQ k (cutQ F J Q)))) (hk : ∀ i, J i → AW P y (F i) Q) : AW P x E (seqQ P y1 (blockQ k (seqQ P y Q))) :=
  h.mono (seqQ_mono (blockQ_mono (cut_use hk)))
section
variable {α : Type} [Inhabited α]
/-- A row in a box, and what room there is behind it. -/
def rowG (E : α → AV) (d : Array α) (tl : List AV) : List AV := d.toList.map E ++ tl
omit [Inhabited α] in
theorem rowG_len {E : α → AV} {d : Array α} {tl : List AV} : (rowG E d tl).length = d.size + tl.length := by simp [rowG]
theorem rowG_get {E : α → AV} {d : Array α} {tl : List AV} {i : Nat} (hi : i < d.size) : (rowG E d tl).getD i .any = E d[i]! := by
  unfold rowG
  rw [List.getD, List.getElem?_append_left (by simpa using hi)]
  simp [hi]
omit [Inhabited α] in
theorem rowG_set {E : α → AV} {d : Array α} {tl : List AV} {i : Nat} {x : α} (hi : i < d.size) : splice (rowG E d tl) i [E x] = rowG E (d.setIfInBounds i x) tl := by
  have key : ∀ (l : List α) (i : Nat), i < l.length → splice (l.map E ++ tl) i [E x] = (l.set i x).map E ++ tl := by
    intro l
    induction l with
    | nil => intro i h; cases h
    | cons z l ih =>
      intro i h
      cases i with
      | zero => rfl
      | succ i => show E z :: splice (l.map E ++ tl) i _ = _; rw [ih i (by simpa using h)]; rfl
  unfold rowG
  rw [key _ _ (by simpa using hi)]
  simp
omit [Inhabited α] in
theorem rowG_in {E : α → AV} {d : Array α} {tl : List AV} {i : Nat} (hi : i < d.size) : i + 1 ≤ (rowG E d tl).length := by rw [rowG_len]; omega
theorem ixge {x : Int} {i : Nat} (h : x = (i : Int)) : 0 ≤ x := by omega
theorem ixlt {x : Int} {i n : Nat} (h : x = (i : Int)) (hn : i < n) : x < (n : Int) := by omega
theorem ixof {x : Int} {i c : Nat} (hc : c = 1) (h : x = (i : Int)) : 0 + x.toNat * c = i := by subst hc; subst h; omega
omit [Inhabited α] in
theorem eff_row {ops : Array Oper} {o : Oper} {e : Env} {t : TypeId} {p x : Operand} {E : α → AV} {nm s off j : Nat} {d : Array α} {tl : List AV} {z : α} (hg : o.guard = none) (ho : o.op = .store t p x) (hd : o.dst = none) (hp : e.ev p = .bp (nm, s) off) (hoff : off = j)
    (hx : e.ev x = E z) (h1 : isOne (E z) = true) (h2 : okCell (E z) = true) (hcs : hget nm e.h.bx = some (s, rowG E d tl)) (ht : (P.underlying t).isSome = true) (hn : P.cellsOf t = 1) (hj : j < d.size) :
    Eff P ops [] o e fun _ h' => h' = { e.h with bx := hset nm (rowG E (d.setIfInBounds j z) tl) e.h.bx } := by
  subst hoff
  have hcl : (E z).cells = [E z] := by cases h : E z <;> first | rfl | (rw [h] at h1; simp [isOne] at h1)
  have k := eff_store (P := P) (ops := ops) (B := []) (E := e) (cs := rowG E d tl) (i := (nm, s)) hg ho hd hp hcs (by rw [hx]; exact h2) (by rw [hx, hcl]; simp [h1]) ht (by rw [hx, hcl, hn]; rfl) (by rw [hx, hcl]; exact rowG_in hj) (fun _ _ _ h => by cases h)
  rw [hx, hcl, rowG_set hj] at k
  exact k
theorem now_row {ops : Array Oper} {o : Oper} {e : Env} {t : TypeId} {td : TypeDesc} {p : Operand} {E : α → AV} {nm s off j : Nat} {d : Array α} {tl : List AV} (hg : o.guard = none) (ho : o.op = .load t p) (hp : e.ev p = .bp (nm, s) off) (hoff : off = j)
    (hcs : hget nm e.h.bx = some (s, rowG E d tl)) (ht : P.underlying t = some td) (ha : agD td = false) (hj : j < d.size) : PureNow P ops o e (E d[j]!) := by
  subst hoff
  refine now_apure hg (C := some (s = s ∧ off < (rowG E d tl).length)) ?_ ⟨rfl, by rw [rowG_len]; omega⟩
  rw [← rowG_get (E := E) (tl := tl) hj]
  show apure P o.op e = _
  rw [ho]
  simp only [apure, aload, hp, hcs, ht, ha, cond_false]
end
end Go.Vl

/- Ranges over a map that nobody writes: the order is the tape's. -/
namespace Go.Vl
open Go.RowKit
variable {P : Program}

theorem aop_rangeM {o : Oper} {t kt et : TypeId} {m : Operand} {es : List (Value × AV)} {E : Env} {K : Env → Prop} {Kp : AV → Env → Prop} (ho : o.op = .range t m) (ht : P.underlying t = some (.map kt et)) (hm : E.ev m = .fm es)
    (hk : K (({ E with h := E.h.addo (.it es []) } : Env).set o.dst (.bp (E.h.nn, E.h.nx) 0))) : AOp P o E K Kp := by
  intro ro X M w0 a w g hs next Q hn hp
  have hr := hs.ev m
  rw [hm] at hr
  generalize hmv : a.eval m = u at hr
  cases hr with
  | fm _ mb ents hb hx hl hke hrp =>
    obtain ⟨h1, h2, _⟩ := hs.obj (x := .it es []) (.mapIter (some mb) ents.length #[] ents.length) (fun X' g' hst hnew => ⟨mb, ents, hnew, (hst.obj _ _ hb hx).1, (hst.obj _ _ hb hx).2, hl, fun k p e q1 q2 => ⟨(hke k p e q1 q2).1, (hke k p e q1 q2).2, (hrp k p e q1 q2).stays hst⟩⟩)
    refine wpIn_of_run (by rw [ho]; intro c h; cases h) ?_
    have : (execOp a.eval o).run P w = .ok (.value (.pointer (some ⟨w.heap.size, 0, none⟩))) (w.alloc (.mapIter (some mb) ents.length #[] ents.length)) := by
      unfold execOp
      simp only [ho, Instr.range, hmv, Sem.run_bind, run_underlying_some ht, Result.andThen_ok, run_getObjG hb]
      simp [newObj, Sem.run]
    rw [this]
    exact hn _ _ _ _ hk (fun i b h => by rw [List.getElem?_append_left (List.getElem?_eq_some_iff.1 h).1]; exact h) (h1.put o.dst (.bp _ _ _ h2))

theorem excl_seto {Y : Nat → Nat → Prop} {g : List Nat} {h : Heap} {nm : Nat} {x : Own} {b o : Nat} (hx : excl Y g ({ h with bx := hseto nm x h.bx } : Heap) b o) : excl Y g h b o := by
  rcases hx with hx | ⟨p, hp, hg⟩ | hx
  · exact .inl hx
  · have : p.1.2 ∈ (hseto nm x h.bx).map (·.1.2) := List.mem_map.2 ⟨p, hp, rfl⟩
    rw [hseto_fst] at this
    obtain ⟨q, hq, he⟩ := List.mem_map.1 this
    exact .inr (.inl ⟨q, hq, by rw [he]; exact hg⟩)
  · exact .inr (.inr hx)
theorem aop_nextM {o : Oper} {it : Operand} {i : Id} {es : List (Value × AV)} {seen : List Nat} {E : Env} {K : Env → Prop} {Kp : AV → Env → Prop} (ho : o.op = .next it false) (hit : E.ev it = .bp i 0) (hes : hgeto i.1 E.h.bx = some (i.2, .it es seen))
    (hmore : ∀ k p, es[k]? = some p → k ∉ seen → K (({ E with h := { E.h with bx := hseto i.1 (.it es (seen ++ [k])) E.h.bx } } : Env).set o.dst (.tup [.v (.bool true), .v p.1, p.2])))
    (hdone : (∀ k, k < es.length → k ∈ seen) → K (E.set o.dst (.tup [.v (.bool false)]))) : AOp P o E K Kp := by
  intro ro X M w0 a w g hs next Q hn hp
  obtain ⟨b, hgb, hown⟩ := hs.hok.bx _ (hgeto_mem hes)
  dsimp only at hgb hown
  have hiv : a.eval it = .pointer (some ⟨b, 0, none⟩) := by
    have := hs.ev it
    rw [hit] at this
    generalize a.eval it = u at this
    cases this with
    | bp _ _ b' hg' => rw [hgb] at hg'; cases hg'; rfl
  obtain ⟨mb, ents, h1, h2, h3, h4, h5⟩ := hown
  have hborn : ∀ x ∈ ents.toArray.toList, x.born < ents.length := fun x hx => by
    obtain ⟨k, hk, rfl⟩ := List.getElem_of_mem hx
    have hk2 : k < es.length := by rw [← h4]; exact hk
    rw [(h5 k _ _ (List.getElem?_eq_getElem hk2) (List.getElem?_eq_getElem hk)).2.1]; exact hk
  refine wpIn_of_run (by intro c h; rw [ho] at h; cases h) ?_
  rcases run_next_at (P := P) w o.type b mb ents.length ents.length seen.toArray ents.toArray ents.length h1 h2 hborn (Nat.le_refl _) with ⟨h0, hrun⟩ | ⟨e, he, w1, hw1, hrun⟩
  · have : (execOp a.eval o).run P w = .ok (.value (.tuple #[.bool false])) w := by
      unfold execOp
      simp only [ho, hiv, hrun, Sem.run_bind, Result.andThen_ok, Sem.run_pure]
    rw [this]
    refine hn _ _ _ g (hdone fun k hk => ?_) (fun _ _ h => h) (hs.put o.dst ?_)
    · have hk2 : k < ents.length := by rw [h4]; exact hk
      have hb := (h5 k _ _ (List.getElem?_eq_getElem hk) (List.getElem?_eq_getElem hk2)).2.1
      rcases Decidable.em (k ∈ seen) with h | h
      · exact h
      · exfalso
        have hem : (leftOf ents.toArray seen.toArray) = #[] := Array.eq_empty_of_size_eq_zero h0
        unfold leftOf at hem
        rw [Array.filter_eq_empty_iff] at hem
        have := hem ents[k] (by simp)
        simp [hb] at this
        exact h this
    · refine .tup [.v (.bool false)] [.bool false] rfl fun k c u hc hu => ?_
      cases k with
      | zero => simp at hc hu; subst hc; subst hu; exact .v _
      | succ k => simp at hc
  · have hem : e ∈ ents ∧ e.born ∉ seen := by
      unfold leftOf at he
      simp at he
      exact he
    obtain ⟨k, hk, hek⟩ := List.getElem_of_mem hem.1
    have hk2 : k < es.length := by rw [← h4]; exact hk
    obtain ⟨q1, q2, q3⟩ := h5 k es[k] ents[k] (List.getElem?_eq_getElem hk2) (List.getElem?_eq_getElem hk)
    rw [hek] at q1 q2 q3
    have s1 : St ro X M w0 E a w1 g := by
      rcases hw1 with rfl | rfl
      · exact hs
      · exact hs.drew
    have hb1 : w1.heap[b]? = some (.mapIter (some mb) ents.length seen.toArray ents.length) := by rcases hw1 with rfl | rfl <;> exact h1
    have hm1 : w1.heap[mb]? = some (.map ents.toArray ents.length) := by rcases hw1 with rfl | rfl <;> exact h2
    have hst : Stays w (excl X g E.h) g w1 (excl X g E.h) g := by
      rcases hw1 with rfl | rfl
      · exact Stays.refl _ _ _
      · exact (evo_drew w).stays (fun _ _ _ h => h.elim) (fun _ _ _ h => h) (fun _ _ h => h)
    have hev := evo_setO (o' := .mapIter (some mb) ents.length (seen ++ [k]).toArray ents.length) hb1 rfl (fun h => by cases h)
    have hne : mb ≠ b := fun h => by rw [h] at h2; rw [h1] at h2; cases h2
    have hnew := s1.setOwn (x := .it es (seen ++ [k])) hes hgb hev (fun hst2 => ⟨mb, ents, setO_same hb1, (setO_other hne).trans hm1, h3, h4, fun k' p' e' r1 r2 => ⟨(h5 k' p' e' r1 r2).1, (h5 k' p' e' r1 r2).2.1, ((h5 k' p' e' r1 r2).2.2.stays hst).stays hst2⟩⟩)
    have : (execOp a.eval o).run P w = .ok (.value (.tuple #[.bool true, e.key, e.val])) (World.setO w1 b (.mapIter (some mb) ents.length (seen ++ [k]).toArray ents.length)) := by
      unfold execOp
      simp only [ho, hiv, hrun, Sem.run_bind, Result.andThen_ok, Sem.run_pure, q2, List.push_toArray]
      rfl
    rw [this]
    refine hn _ _ _ g (hmore k es[k] (List.getElem?_eq_getElem hk2) (by rw [← q2]; exact hem.2)) (fun _ _ h => h) (hnew.put o.dst ?_)
    have hval := ((q3.stays hst).stays (hev.stays (X := excl X g E.h) (X' := excl X g E.h) (g := g) (g' := g) (fun b' o' _ hbb => by
      subst hbb
      exact .inr (.inl ⟨_, hgeto_mem hes, hgb⟩)) (fun _ _ _ h => h) (fun _ _ h => h)))
    refine .tup _ [.bool true, e.key, e.val] rfl fun j c u hc hu => ?_
    rcases j with _ | _ | _ | j
    · simp at hc hu; subst hc; subst hu; exact .v _
    · simp at hc hu; subst hc; subst hu; rw [q1]; exact .v _
    · simp at hc hu; subst hc; subst hu
      exact hval.stays (Stays.less fun b' o' h => excl_seto h)
    · simp at hc
/-- The round's key and value, read behind the step. -/
theorem aop_entry {o : Oper} {it : Operand} {i : Id} {es : List (Value × AV)} {seen : List Nat} {k : Nat} {p : Value × AV} {E : Env} {K : Env → Prop} {Kp : AV → Env → Prop} (ho : o.op = .entry it) (hit : E.ev it = .bp i 0) (hes : hgeto i.1 E.h.bx = some (i.2, .it es (seen ++ [k])))
    (hp : es[k]? = some p) (hk : K (E.set o.dst (.tup [.v p.1, p.2]))) : AOp P o E K Kp := by
  intro ro X M w0 a w g hs next Q hn hpan
  obtain ⟨b, hgb, hown⟩ := hs.hok.bx _ (hgeto_mem hes)
  dsimp only at hgb hown
  have hiv : a.eval it = .pointer (some ⟨b, 0, none⟩) := by
    have := hs.ev it
    rw [hit] at this
    generalize a.eval it = u at this
    cases this with
    | bp _ _ b' hg' => rw [hgb] at hg'; cases hg'; rfl
  obtain ⟨mb, ents, h1, h2, h3, h4, h5⟩ := hown
  have hk2 : k < es.length := (List.getElem?_eq_some_iff.1 hp).1
  have hk3 : k < ents.length := by rw [h4]; exact hk2
  obtain ⟨q1, q2, q3⟩ := h5 k p ents[k] hp (List.getElem?_eq_getElem hk3)
  have hnd : (ents.toArray.toList.map (·.born)).Nodup := by
    have : ents.map (·.born) = List.range ents.length := by
      refine List.ext_getElem (by simp) fun j j1 j2 => ?_
      rw [List.getElem_map, List.getElem_range]
      have hj : j < ents.length := by simpa using j1
      have hj2 : j < es.length := by rw [← h4]; exact hj
      exact (h5 j _ _ (List.getElem?_eq_getElem hj2) (List.getElem?_eq_getElem hj)).2.1
    show (ents.map (·.born)).Nodup
    rw [this]; exact List.nodup_range
  have hrun := run_entry_at (P := P) w b mb ents.length seen.toArray ents.toArray ents.length ents[k] (by rw [q2, List.push_toArray]; exact h1) h2 (by simp) hnd
  refine wpIn_of_run (by intro c h; rw [ho] at h; cases h) ?_
  have : (execOp a.eval o).run P w = .ok (.value (.tuple #[ents[k].key, ents[k].val])) w := by
    unfold execOp
    simp only [ho, hiv, hrun, Sem.run_bind, Result.andThen_ok, Sem.run_pure]
  rw [this]
  refine hn _ _ _ g hk (fun _ _ h => h) (hs.put o.dst ?_)
  refine .tup _ [ents[k].key, ents[k].val] rfl fun j c u hc hu => ?_
  rcases j with _ | _ | j
  · simp at hc hu; subst hc; subst hu; rw [q1]; exact .v _
  · simp at hc hu; subst hc; subst hu; exact q3
  · simp at hc
/-- The iterator stands first. -/
theorem aop_nextH {o : Oper} {it : Operand} {i : Id} {es : List (Value × AV)} {seen : List Nat} {R : List (Id × Own)} {E : Env} {K : Env → Prop} {Kp : AV → Env → Prop} (ho : o.op = .next it false) (hit : E.ev it = .bp i 0) (hR : E.h.bx = (i, .it es seen) :: R)
    (hmore : ∀ k p, es[k]? = some p → k ∉ seen → K (({ E with h := { E.h with bx := (i, .it es (seen ++ [k])) :: R } } : Env).set o.dst (.tup [.v (.bool true), .v p.1, p.2])))
    (hdone : (∀ k, k < es.length → k ∈ seen) → K (E.set o.dst (.tup [.v (.bool false)]))) : AOp P o E K Kp :=
  aop_nextM (seen := seen) ho hit (by rw [hR]; simp [hgeto]) (fun k p h1 h2 => by
    have : hseto i.1 (.it es (seen ++ [k])) E.h.bx = (i, .it es (seen ++ [k])) :: R := by rw [hR]; simp [hseto]
    rw [this]; exact hmore k p h1 h2) hdone
theorem aop_entryH {o : Oper} {it : Operand} {i : Id} {es : List (Value × AV)} {seen : List Nat} {k : Nat} {p : Value × AV} {R : List (Id × Own)} {E : Env} {K : Env → Prop} {Kp : AV → Env → Prop} (ho : o.op = .entry it) (hit : E.ev it = .bp i 0) (hR : E.h.bx = (i, .it es (seen ++ [k])) :: R)
    (hp : es[k]? = some p) (hk : K (E.set o.dst (.tup [.v p.1, p.2]))) : AOp P o E K Kp := aop_entry (seen := seen) ho hit (by rw [hR]; simp [hgeto]) hp hk
end Go.Vl

/- Iterators that hand over one of several rows (a map's keys: in any order). -/
namespace Go.Vl
open Go.RowKit
variable {P : Program}

/-- The iterator hands over a row of S, one behind the other, to whomever. -/
def IterSet (P : Program) (it : FuncId) (first caps : List AV) {α : Type} (e : α → List AV) (S : List α → Prop) : Prop :=
  ∀ (i : Id) (σ : Type) (Cb : σ → List (Id × Own)) (Cp : σ → List (Id × Nat)) (I : List α → σ → Prop) (J : List α → α → σ → Prop), (∀ xs, S xs → Cons P i e xs Cb Cp I J) →
    ∀ s0 nx nn, I [] s0 → ECall P it (first ++ [.yl i] ++ caps) ⟨Cb s0, Cp s0, nx, nn⟩ (fun _ h' => ∃ xs s', S xs ∧ allQ xs I J s' ∧ h'.bx = Cb s' ∧ h'.pm = Cp s')
theorem IterSpec.set {it : FuncId} {first caps : List AV} {α : Type} {e : α → List AV} {xs : List α} (h : IterSpec P it first caps e xs) : IterSet P it first caps e (· = xs) :=
  fun i σ Cb Cp I J hc s0 nx nn h0 => (h i σ Cb Cp I J (hc xs rfl) s0 nx nn h0).mono fun _ _ ⟨s', h1, h2, h3⟩ => ⟨xs, s', rfl, h1, h2, h3⟩
theorem aw_iterS {gop : Operand} {ps : Array Tmp} {asg body : Code} {E : Env} {Q : AExit → Env → Prop} {it : FuncId} {first caps : List AV} {ds : List DA} {σ α : Type} {e : α → List AV} {S : List α → Prop} {first' caps' : List AV}
    (Cb : σ → List (Id × Own)) (Cp : σ → List (Id × Nat)) (I : List α → σ → Prop) (J : List α → α → σ → Prop) (s0 : σ) (hd : E.df = some ds) (hf : E.ev gop = .fn (.func it) first caps) (hit : IterSet P it first' caps' e S) (hl1 : LeL first first') (hl2 : LeL caps caps')
    (hb : ((E.h.addo .df).addo (.lp .ready none E.n E.t ps asg body)).bx = Cb s0) (hp : E.h.pm = Cp s0) (h0 : I [] s0) (hc : ∀ xs, S xs → Cons P (E.h.nn + 1, E.h.nx + 1) e xs Cb Cp I J)
    (hend : ∀ xs s' nx nn, S xs → allQ xs I J s' → rdone (E.h.nn + 1, E.h.nx + 1) { E with h := (E.h.addo .df).addo (.lp .ready none E.n E.t ps asg body), df := some (.col (E.h.nn, E.h.nx) :: ds) } Q ⟨Cb s', Cp s', nx, nn⟩) :
    AW P (.rangeFunc gop ps asg body) E Q := by
  refine aw_range hd hf ?_
  have h1 := hit (E.h.nn + 1, E.h.nx + 1) σ Cb Cp I J hc s0 (E.h.nx + 2) (E.h.nn + 2) h0
  have e1 : (E.h.addo .df).addo (.lp .ready none E.n E.t ps asg body) = ⟨Cb s0, Cp s0, E.h.nx + 2, E.h.nn + 2⟩ := by
    rw [← hb, ← hp]; rfl
  rw [← e1] at h1
  refine ((ECall.args (LeL.append (LeL.append hl1 (LeL.refl _)) hl2) h1)).mono fun r h' hq => ?_
  obtain ⟨xs, s', hS, q1, q2, q3⟩ := hq
  obtain ⟨bx, pm, nx, nn⟩ := h'
  dsimp only at q2 q3
  subst q2; subst q3
  exact hend xs s' nx nn hS q1
theorem aw_forS {gop : Operand} {ps : Array Tmp} {asg body : Code} {E : Env} {Q : AExit → Env → Prop} {it : FuncId} {first caps : List AV} {ds : List DA} {σ α : Type} {e : α → List AV} {S : List α → Prop} {first' caps' : List AV}
    (Cb : σ → List (Id × Own)) (Cp : σ → List (Id × Nat)) (I : List α → σ → Prop) (s0 : σ) (hd : E.df = some ds) (hf : E.ev gop = .fn (.func it) first caps) (hit : IterSet P it first' caps' e S) (hl1 : LeL first first') (hl2 : LeL caps caps')
    (hb : E.h.bx = Cb s0) (hp : E.h.pm = Cp s0) (h0 : I [] s0) (hlen : ∀ x, (e x).length = ps.size)
    (hc : ∀ pre x post s nx nn, S (pre ++ x :: post) → I pre s → AW P asg (roundEnv E.n E.t ⟨((E.h.nn + 1, E.h.nx + 1), .lp .ready none E.n E.t ps asg body) :: ((E.h.nn, E.h.nx), .df) :: Cb s, Cp s, nx, nn⟩ (ps.toList.zip (e x)).reverse)
      (asgQ P (E.h.nn + 1, E.h.nx + 1) body (yPost (fun s => ((E.h.nn + 1, E.h.nx + 1), .lp .ready none E.n E.t ps asg body) :: ((E.h.nn, E.h.nx), .df) :: Cb s) Cp I (fun _ _ _ => False) pre x)))
    (hend : ∀ xs s' nx nn, S xs → I xs s' → Q .normal { E with h := ⟨((E.h.nn + 1, E.h.nx + 1), .lp .exhausted none E.n E.t ps asg body) :: ((E.h.nn, E.h.nx), .df) :: Cb s', Cp s', nx, nn⟩, df := some (.col (E.h.nn, E.h.nx) :: ds) }) :
    AW P (.rangeFunc gop ps asg body) E Q := by
  refine aw_iterS (fun s => ((E.h.nn + 1, E.h.nx + 1), .lp .ready none E.n E.t ps asg body) :: ((E.h.nn, E.h.nx), .df) :: Cb s) Cp I (fun _ _ _ => False) s0 hd hf hit hl1 hl2 ?_ hp h0 ?_ ?_
  · show _ :: _ :: E.h.bx = _
    rw [hb]; rfl
  · intro xs hS pre x post s nx nn hx hI
    subst hx
    exact yield_of_aw (i := (E.h.nn + 1, E.h.nx + 1)) (pd := none) (n := E.n) (t := E.t) (ps := ps) (asg := asg) (body := body) (by simp [hgeto]) (hlen x) (hc pre x post s nx nn hS hI)
  · intro xs s' nx nn hS h
    rcases h with h | ⟨_, _, _, _, h⟩
    · unfold rdone
      simp only [hgeto, Nat.beq_refl, cond_true]
      refine ⟨trivial, (by intro h; cases h), ?_⟩
      simp only [hseto, Nat.beq_refl, cond_true]
      exact hend xs s' nx nn hS h
    · exact h.elim
/-- The numbers that are left, in front of which some are. -/
theorem perm_left {seen : List Nat} {n k : Nat} (hnd : seen.Nodup) (hlt : ∀ j ∈ seen, j < n) (hk : k < n) (hn : k ∉ seen) : ∃ post, (seen ++ k :: post).Perm (List.range n) := by
  refine ⟨(List.range n).filter fun j => decide (j ∉ seen ∧ j ≠ k), ?_⟩
  have hp : ∀ j, j ∈ (List.range n).filter (fun j => decide (j ∉ seen ∧ j ≠ k)) ↔ j < n ∧ j ∉ seen ∧ j ≠ k := fun j => by simp
  generalize hpost : (List.range n).filter (fun j => decide (j ∉ seen ∧ j ≠ k)) = post at hp
  have hpn : post.Nodup := by rw [← hpost]; exact List.nodup_range.filter _
  have hnd2 : (seen ++ k :: post).Nodup := by
    rw [List.nodup_append]
    refine ⟨hnd, List.nodup_cons.2 ⟨fun h => ((hp k).1 h).2.2 rfl, hpn⟩, fun a ha b hb hab => ?_⟩
    subst hab
    rcases List.mem_cons.1 hb with rfl | h
    · exact hn ha
    · exact ((hp a).1 h).2.1 ha
  refine (List.perm_ext_iff_of_nodup hnd2 List.nodup_range).2 fun j => ?_
  rw [List.mem_range, List.mem_append, List.mem_cons, hp]
  constructor
  · rintro (h | rfl | h)
    · exact hlt j h
    · exact hk
    · exact h.1
  · intro h
    by_cases h1 : j ∈ seen
    · exact .inl h1
    · by_cases h2 : j = k
      · exact .inr (.inl h2)
      · exact .inr (.inr ⟨h, h1, h2⟩)
theorem perm_full {seen : List Nat} {n : Nat} (hnd : seen.Nodup) (hlt : ∀ j ∈ seen, j < n) (hall : ∀ k, k < n → k ∈ seen) : seen.Perm (List.range n) := by
  refine (List.perm_ext_iff_of_nodup hnd List.nodup_range).2 fun j => ?_
  rw [List.mem_range]
  exact ⟨hlt j, hall j⟩
end Go.Vl

/- A row that a callee made becomes a box of one's own. -/
namespace Go.Vl
open Go.RowKit
variable {P : Program}

def rowCells (n : Nat) (f : Nat → AV) : List AV := (List.range n).flatMap fun k => (f k).cells
def thawQ (Q : Nat → (Nat → AV) → Prop) (sz : Nat) (r : AV) (h' : Heap) : Prop :=
  ∃ n f, Q n f ∧ ((n = 0 ∧ h'.bx = [] ∧ h'.pm = [] ∧ r = .os sz 0 f none) ∨ ∃ s cap more nx' nn', n ≤ cap ∧ cap * sz ≤ n * sz + more ∧ r = .hs (0, s) 0 n cap ∧ h' = ⟨[((0, s), .c (rowCells n f ++ List.replicate more .any))], [], nx', nn'⟩)
theorem rowCells_get {n sz : Nat} {f : Nat → AV} (hc : ∀ i, i < n → (f i).cells.length = sz) : (rowCells n f).length = n * sz ∧ ∀ i j, i < n → j < sz → (rowCells n f)[i * sz + j]? = (f i).cells[j]? := by
  induction n with
  | zero => exact ⟨by simp [rowCells], fun i j h => by omega⟩
  | succ n ih =>
    obtain ⟨h1, h2⟩ := ih fun i hi => hc i (by omega)
    have e : rowCells (n + 1) f = rowCells n f ++ (f n).cells := by unfold rowCells; rw [List.range_succ, List.flatMap_append]; simp
    have hn := hc n (by omega)
    refine ⟨by rw [e, List.length_append, h1, hn, Nat.succ_mul], fun i j hi hj => ?_⟩
    rw [e]
    by_cases h : i < n
    · rw [List.getElem?_append_left, h2 i j h hj]
      rw [h1]
      have : i * sz + sz ≤ n * sz := by rw [← Nat.succ_mul]; exact Nat.mul_le_mul_right _ h
      omega
    · obtain rfl : i = n := by omega
      rw [List.getElem?_append_right (by rw [h1]; omega), h1]
      congr 1; omega
theorem ecall_thaw {f : FuncId} {args : List AV} {nx sz : Nat} {Q : Nat → (Nat → AV) → Prop} (hz : 0 < sz) (hflat : ∀ n f, Q n f → ∀ k, k < n → ∀ c ∈ (f k).cells, Flat c)
    (hc : ECall P f args ⟨[], [], nx, 0⟩ fun r h' => ∃ n f oi nx' nn', Q n f ∧ (oi = none → n = 0) ∧ r = .os sz n f oi ∧ h' = ⟨[], pmOf oi (n * sz), nx', nn'⟩) :
    ECall P f args ⟨[], [], nx, 0⟩ (thawQ Q sz) := by
  refine ⟨hc.1, fun X w g vs h1 h2 h3 h4 => ?_⟩
  refine (fnWay P f).mono (hc.2 X w g vs h1 h2 h3 h4) fun e w' ⟨r, h', g', a1, a2, a3, a4, a5, a7, a8⟩ => ?_
  cases r with
  | pan x => exact a2.elim
  | ret r =>
    obtain ⟨n, f0, oi, nx', nn', q1, q2, rfl, rfl⟩ := a2
    cases oi with
    | none =>
      obtain rfl := q2 rfl
      exact ⟨.ret (.os sz 0 f0 none), ⟨[], [], nx', nn'⟩, g', a1, ⟨0, f0, q1, .inl ⟨rfl, rfl, rfl, rfl⟩⟩, a3, a4, a5, a7, a8⟩
    | some i =>
      obtain ⟨nm, s⟩ := i
      obtain ⟨u, rfl, a1⟩ := a1
      obtain ⟨b, bvs, be, hgb, hblk, hle⟩ := a4.pm ((nm, s), n * sz) (by simp [pmOf])
      dsimp only at hgb hle
      generalize hu : u = u0 at a1
      cases a1 with
      | oss _ _ _ _ b2 cap vs2 hg2 hlen hcap hcell hroom hcs hrep =>
        subst hu
        dsimp only at hg2
        rw [hgb] at hg2
        cases hg2
        have hflt := hflat n f0 q1
        obtain ⟨rl, rg⟩ := rowCells_get hcs
        have hcapsz : cap * sz ≤ bvs.size := by
          rcases Nat.eq_zero_or_pos (cap * sz) with h0 | h0
          · omega
          · obtain ⟨⟨v, hv⟩, _⟩ := hroom (cap * sz - 1) (by omega)
            rw [cell_of_block hblk] at hv
            have := (Array.getElem?_eq_some_iff.1 hv).1
            omega
        have hnew : ¬ b < w.heap.size := fun hb => by
          have := a8 b (n * sz) (.inr (.inr ⟨((nm, s), n * sz), by simp [pmOf], hgb, Nat.le_refl _⟩)) hb
          rcases this with h | ⟨p, hp, _⟩ | ⟨p, hp, _⟩
          · exact h
          · cases hp
          · cases hp
        have hids : ∀ j, j ∈ Heap.ids (⟨[((0, s), .c (rowCells n f0 ++ List.replicate (bvs.size - n * sz) .any))], [], nx', nn'⟩ : Heap) → j = s := fun j hj => by simpa [Heap.ids] using hj
        refine ⟨.ret (.hs (0, s) 0 n cap), ⟨[((0, s), .c (rowCells n f0 ++ List.replicate (bvs.size - n * sz) .any))], [], nx', nn'⟩, g', ⟨_, rfl, .hs _ _ _ _ b hgb⟩, ⟨n, f0, q1, .inr ⟨s, cap, bvs.size - n * sz, nx', nn', hcap, by omega, rfl, rfl⟩⟩, a3, ?_, fun b' o hx j hj => ?_, a7, fun b' o hx hb => ?_⟩
        · refine ⟨fun p hp => ?_, fun p hp => (by cases hp), by simp [Heap.ids], a4.nx, fun b' o hx => ?_⟩
          · obtain rfl := List.mem_singleton.1 hp
            refine ⟨b, hgb, bvs, be, hblk, by rw [List.length_append, rl, List.length_replicate]; omega, fun k c u hk hku => ?_⟩
            rcases Nat.lt_or_ge k (n * sz) with hlt | hge
            · rw [List.getElem?_append_left (by rw [rl]; exact hlt)] at hk
              have hd : k = (k / sz) * sz + k % sz := by rw [Nat.mul_comm]; exact (Nat.div_add_mod k sz).symm
              have hk1 : k / sz < n := Nat.div_lt_of_lt_mul (by rw [Nat.mul_comm]; exact hlt)
              have hk2 : k % sz < sz := Nat.mod_lt _ hz
              rw [hd, rg _ _ hk1 hk2] at hk
              have hv : k < vs2.length := by rw [hlen]; exact hlt
              have hcv := (hcell k _ (List.getElem?_eq_getElem hv)).1
              rw [cell_of_block hblk, hku] at hcv
              cases hcv
              exact hflt _ hk1 c (List.mem_of_getElem? hk) _ _ _ _ _ _ _ (hrep _ _ c _ hk1 hk (by rw [← hd]; exact List.getElem?_eq_getElem hv))
            · rw [List.getElem?_append_right (by rw [rl]; exact hge)] at hk
              obtain rfl : c = .any := by
                have := List.mem_of_getElem? hk
                exact (List.mem_replicate.1 this).2
              exact .any _
          · rcases hx with hx | ⟨p, hp, hg⟩ | ⟨p, hp, _⟩
            · exact a4.bd b' o (.inl hx)
            · obtain rfl := List.mem_singleton.1 hp
              dsimp only at hg
              rw [hgb] at hg; cases hg
              exact lt_of_block hblk
            · cases hp
        · obtain rfl := hids j hj
          exact a5 b' o hx j (by simp [Heap.ids, pmOf])
        · rcases hx with hx | ⟨p, hp, hg⟩ | ⟨p, hp, _⟩
          · exact hx.elim
          · obtain rfl := List.mem_singleton.1 hp
            dsimp only at hg
            rw [hgb] at hg; cases hg
            exact absurd hb hnew
          · cases hp
end Go.Vl

/- Contracts of the kit's shelf, read as contracts of mine. -/
namespace Go.Vl
open Go.RowKit
variable {P : Program}

theorem args_eq {w : World} {X : Nat → Nat → Prop} {g : List Nat} {us vs : List Value} (h3 : us.length = (vs.map AV.v).length)
    (h4 : ∀ (k : Nat) (c : AV) (u : Value), (vs.map AV.v)[k]? = some c → us[k]? = some u → Rep w X g c u) : us = vs := by
  refine List.ext_getElem (by simpa using h3) fun k hk1 hk2 => ?_
  have := h4 k (.v vs[k]) us[k] (by simp [hk2]) (List.getElem?_eq_getElem hk1)
  generalize us[k] = a at this
  cases this
  rfl
theorem tells_of_calls {f : FuncId} {vs : List Value} {u : Value} (hcb : callable P f)
    (h : ∀ w, Calls P f vs.toArray w fun e w' => e = .returned u ∧ Below w.heap.size w w') : Tells P f (vs.map .v) (.v u) := fun nx => by
  refine ⟨hcb, fun X w g us h1 h2 h3 h4 => ?_⟩
  obtain rfl := args_eq h3 h4
  refine (fnWay P f).mono (w0 := w) (g := g) (R := _) (h w) fun e w' ⟨he, hb⟩ => ?_
  have hev := Evo.of_below hb
  exact ⟨.ret (.v u), ⟨[], [], nx, 0⟩, g, ⟨u, he, .v _⟩, ⟨AVle.refl _, rfl, rfl⟩, fun _ _ h => h, h1.evo0 hev, fun b o hx i hi => (by cases hi), hev.mono fun b o _ h => h.elim, fun b o h _ => h⟩

/-- A row in a box of one's own is sorted by a function of the shelf. -/
theorem ecall_sort1 {α : Type} [Inhabited α] {f : FuncId} {enc : α → Value} {d d' : Array α} {tl : List AV} {nm s cap nx nn : Nat} (hcb : callable P f) (hd : d'.size = d.size)
    (h : ∀ (w : World) (blk : Nat), Sort.Holds enc w blk 0 d → blk < w.heap.size → Calls P f #[.slice (some ⟨blk, 0, none⟩) d.size cap] w fun e w' => e = .returned (.tuple #[]) ∧ ∃ n os, w' = Sort.grow (Sort.putRow enc (Sort.ahead w n) blk 0 d') os) :
    ECall P f [.hs (nm, s) 0 d.size cap] ⟨[((nm, s), .c (d.toList.map (fun x => .v (enc x)) ++ tl))], [], nx, nn⟩
      fun r h' => r = .tup [] ∧ h' = ⟨[((nm, s), .c (d'.toList.map (fun x => .v (enc x)) ++ tl))], [], nx, nn⟩ := by
  refine ⟨hcb, fun X w g us h1 h2 h3 h4 => ?_⟩
  obtain ⟨b, hgb, vs, ety, hblk, hsz, hrep⟩ := h1.bx _ (.head _)
  dsimp only at hgb
  match us, h3, h4 with
  | [u], _, h4 =>
  have hr := h4 0 _ u rfl rfl
  generalize hu : u = u0 at hr
  cases hr with
  | hs _ _ _ _ b2 hg2 =>
    subst hu
    dsimp only at hg2
    rw [hgb] at hg2
    cases hg2
    have hbl := lt_of_block hblk
    have hlen : d.size ≤ vs.size := by rw [hsz]; simp
    have hH : Sort.Holds enc w b 0 d := fun j hj => by
      refine ⟨?_, by rw [frozen_of_block hblk]; simp⟩
      have hj2 : j < vs.size := by omega
      have := hrep j (.v (enc d[j]!)) vs[j] (by rw [List.getElem?_append_left (by simpa using hj)]; simp [hj]) (Array.getElem?_eq_getElem hj2)
      generalize hv : vs[j] = v at this
      cases this
      rw [cell_of_block hblk, Nat.zero_add, Array.getElem?_eq_getElem hj2, hv]
    refine (fnWay P f).mono (w0 := w) (g := g) (R := _) (h w b hH hbl) fun e w' ⟨he, n, os, hw⟩ => ?_
    have hb' : w'.heap[b]? = some (.cells (Sort.putCells enc 0 d' vs) ety (0, 0)) := by
      subst hw
      rw [Sort.heap_grow_old _ _ (by simpa [Sort.putRow, Sort.mapBlock, Sort.ahead] using hbl)]
      show (w.heap.modify b _)[b]? = _
      rw [Array.getElem?_modify, if_pos rfl, hblk]
      rfl
    have hoth : ∀ k, k < w.heap.size → k ≠ b → w'.heap[k]? = w.heap[k]? := fun k hk hne => by
      subst hw
      rw [Sort.heap_grow_old _ _ (by simpa [Sort.putRow, Sort.mapBlock, Sort.ahead] using hk)]
      show (w.heap.modify b _)[k]? = _
      rw [Array.getElem?_modify, if_neg (Ne.symm hne)]
    have hsize : w.heap.size ≤ w'.heap.size := by
      subst hw
      simp [Sort.grow, Sort.putRow, Sort.mapBlock, Sort.ahead]
    have hM : ∀ b0 o, ¬ excl none2 g ⟨[((nm, s), .c (d.toList.map (fun x => .v (enc x)) ++ tl))], [], nx, nn⟩ b0 o → b0 ≠ b := fun b0 o hn hb0 => hn (.inr (.inl ⟨_, .head _, by rw [hb0]; exact hgb⟩))
    have hev : Evo (excl none2 g ⟨[((nm, s), .c (d.toList.map (fun x => .v (enc x)) ++ tl))], [], nx, nn⟩) w w' := by
      refine ⟨by subst hw; rfl, by subst hw; rfl, by subst hw; rfl, hsize, fun b0 hb0 hn => hoth b0 hb0 (hM b0 0 (hn 0)), fun b0 o hb0 hn => World.cell?_of_block (a := ⟨b0, o, none⟩) (hoth b0 hb0 (hM b0 o hn)), fun b0 us0 e0 fz h0 => ?_, fun b0 l h0 => ?_⟩
      · by_cases hb0 : b0 = b
        · subst hb0
          rw [hblk] at h0
          cases h0
          exact ⟨_, hb', by simp [Sort.putCells]⟩
        · exact ⟨us0, (hoth b0 (lt_of_block h0) hb0).trans h0, rfl⟩
      · by_cases hb0 : b0 = b
        · subst hb0
          rw [hblk] at h0
          cases h0
        · exact ⟨l, (hoth b0 (lt_of_block h0) hb0).trans h0⟩
    have hstay := hev.stays (X := excl X g ⟨[((nm, s), .c (d.toList.map (fun x => .v (enc x)) ++ tl))], [], nx, nn⟩) (X' := excl X g ⟨[((nm, s), .c (d.toList.map (fun x => .v (enc x)) ++ tl))], [], nx, nn⟩) (g := g) (g' := g)
      (fun b0 o _ hm => hm.elim (fun h => h.elim) .inr) (fun _ _ _ h => h) (fun _ _ h => h)
    refine ⟨.ret (.tup []), _, g, ⟨_, he, .tup [] [] rfl (by simp)⟩, ⟨rfl, rfl⟩, fun _ _ h => h, ?_, fun b0 o hx i hi => h2 b0 o hx i hi, hev, fun b0 o h _ => by simpa [excl] using h⟩
    have hids : ∀ b0 o, excl X g ⟨[((nm, s), .c (d'.toList.map (fun x => .v (enc x)) ++ tl))], [], nx, nn⟩ b0 o ↔ excl X g ⟨[((nm, s), .c (d.toList.map (fun x => .v (enc x)) ++ tl))], [], nx, nn⟩ b0 o := fun b0 o => by simp [excl]
    have hX : excl X g ⟨[((nm, s), .c (d'.toList.map (fun x => .v (enc x)) ++ tl))], [], nx, nn⟩ = excl X g ⟨[((nm, s), .c (d.toList.map (fun x => .v (enc x)) ++ tl))], [], nx, nn⟩ := by
      funext b0 o; exact propext (hids b0 o)
    rw [hX]
    refine ⟨fun p hp => ?_, fun p hp => (by cases hp), h1.nodup, h1.nx, fun b0 o hx => ?_⟩
    · obtain rfl := List.mem_singleton.1 hp
      refine ⟨b, hgb, Sort.putCells enc 0 d' vs, ety, hb', by simp [Sort.putCells, hsz, hd], fun k c u hk hku => ?_⟩
      have hkv : k < vs.size := by have := (Array.getElem?_eq_some_iff.1 hku).1; simpa [Sort.putCells] using this
      have hval : (Sort.putCells enc 0 d' vs)[k]? = some (if 0 ≤ k ∧ k < 0 + d'.size then enc d'[k - 0]! else vs[k]) := by simp [Sort.putCells, hkv]
      rw [hval] at hku
      by_cases hkd : k < d'.size
      · rw [if_pos ⟨Nat.zero_le _, by omega⟩] at hku
        rw [List.getElem?_append_left (by simpa using hkd)] at hk
        simp [hkd] at hk hku
        subst hk; subst hku
        exact .v _
      · rw [if_neg (by omega)] at hku
        rw [List.getElem?_append_right (by simpa using Nat.le_of_not_lt hkd)] at hk
        refine (hrep k c u ?_ (by rw [Array.getElem?_eq_getElem hkv]; exact hku)).stays hstay
        rw [List.getElem?_append_right (by simp; omega)]
        simpa [hd] using hk
    · exact Nat.lt_of_lt_of_le (h1.bd b0 o hx) hsize
/-- .. an empty one, too. -/
theorem ecall_sort0 {f : FuncId} {sz nx : Nat} {F : Nat → AV} (hcb : callable P f)
    (h : ∀ (p : Option Addr) (cap : Nat) (w : World), Calls P f #[.slice p 0 cap] w fun e w' => e = .returned (.tuple #[]) ∧ w' = w) : Tells P f [.os sz 0 F none] (.tup []) := fun nx => by
  refine ⟨hcb, fun X w g us h1 h2 h3 h4 => ?_⟩
  match us, h3, h4 with
  | [u], _, h4 =>
  have hr := h4 0 _ u rfl rfl
  have key : ∃ p cap, u = .slice p 0 cap := by
    cases hr with
    | os0 _ _ a => exact ⟨a, 0, rfl⟩
    | osn _ _ _ b off vs => exact ⟨_, 0, rfl⟩
  obtain ⟨p, cap, rfl⟩ := key
  refine (fnWay P f).mono (w0 := w) (g := g) (R := _) (h p cap w) fun e w' ⟨he, hw⟩ => ?_
  subst hw
  exact ⟨.ret (.tup []), ⟨[], [], nx, 0⟩, g, ⟨_, he, .tup [] [] rfl (by simp)⟩, ⟨AVle.refl _, rfl, rfl⟩, fun _ _ h => h, h1, h2, Evo.refl _ _, fun b o h _ => h⟩
end Go.Vl

namespace Go.Proofs.W
open Go.Vl

/-- An instruction. -/
structure Ins where
  code : Nat
  jt : Nat
  jf : Nat
  k : Nat
deriving DecidableEq
def ins0 : Ins := ⟨0, 0, 0, 0⟩
def Ins.ok (i : Ins) : Prop := i.code < 65536 ∧ i.jt < 256 ∧ i.jf < 256 ∧ i.k < 4294967296
def aloneL : List (Nat × Nat) := [(32, 1), (0, 2), (96, 3), (128, 4), (1, 5), (97, 6), (129, 7), (2, 8), (3, 9), (7, 10), (135, 11), (132, 12), (5, 13), (6, 14), (22, 15)]
def bothL : List (Nat × Nat) := [(4, 16), (20, 17), (36, 18), (52, 19), (68, 20), (84, 21), (100, 22), (116, 23), (164, 24), (21, 25), (37, 26), (53, 27), (69, 28)]
def lk (l : List (Nat × Nat)) (c : Nat) : Option Nat := (l.find? (fun p => p.1 == c)).map (·.2)
def clr8 (c : Nat) : Nat := c - 8 * ((c / 8) % 2)
/-- What a code means: its kind (0: none), is its other side X? -/
def kof (c : Nat) : Nat × Bool := match lk aloneL c with
  | some k => (k, false)
  | none => match lk bothL (clr8 c) with
    | some k => (k, (c / 8) % 2 == 1)
    | none => (0, false)
theorem lk_some {l : List (Nat × Nat)} {c k : Nat} (h : lk l c = some k) : (c, k) ∈ l := by
  unfold lk at h
  rw [Option.map_eq_some_iff] at h
  obtain ⟨p, h1, h2⟩ := h
  have := List.find?_some h1
  have hm := List.mem_of_find?_eq_some h1
  simp at this
  obtain ⟨a, b⟩ := p
  dsimp only at this h2
  subst this; subst h2
  exact hm
theorem lk_none {l : List (Nat × Nat)} {c : Nat} (h : lk l c = none) : ∀ p ∈ l, p.1 ≠ c := by
  unfold lk at h
  rw [Option.map_eq_none_iff, List.find?_eq_none] at h
  intro p hp
  have := h p hp
  simpa using this
theorem kof_le (c : Nat) : (kof c).1 ≤ 28 := by
  unfold kof
  split
  · rename_i k h
    have := lk_some h
    have hd : ∀ p ∈ aloneL, p.2 ≤ 28 := by decide
    exact hd _ this
  · split
    · rename_i k h
      have := lk_some h
      have hd : ∀ p ∈ bothL, p.2 ≤ 28 := by decide
      exact hd _ this
    · simp
/-- As the reference asks. -/
def refOf (c : Nat) : Nat × Bool :=
  match [32, 0, 96, 128, 1, 97, 129, 2, 3, 7, 135, 132, 5, 6, 22].findIdx? (fun a => c == a) with
  | some i => (i + 1, false)
  | none => match [4, 20, 36, 52, 68, 84, 100, 116, 164, 21, 37, 53, 69].findIdx? (fun a => c == a || c == a + 8) with
    | some i => (i + 16, c != [4, 20, 36, 52, 68, 84, 100, 116, 164, 21, 37, 53, 69].getD i 0)
    | none => (0, false)
theorem refOf_small : ∀ c, c < 256 → refOf c = kof c := by decide +kernel
theorem kof_big {c : Nat} (h : 256 ≤ c) : kof c = (0, false) := by
  have h1 : lk aloneL c = none := by
    cases hl : lk aloneL c with
    | none => rfl
    | some k =>
      have := lk_some hl
      have hd : ∀ p ∈ aloneL, p.1 < 256 := by decide
      have := hd _ this; dsimp only at this; omega
  have h2 : lk bothL (clr8 c) = none := by
    cases hl : lk bothL (clr8 c) with
    | none => rfl
    | some k =>
      have := lk_some hl
      have hd : ∀ p ∈ bothL, p.1 < 200 := by decide
      have := hd _ this; unfold clr8 at this; dsimp only at this; omega
  simp [kof, h1, h2]
theorem refOf_big {c : Nat} (h : 256 ≤ c) : refOf c = (0, false) := by
  have h1 : [32, 0, 96, 128, 1, 97, 129, 2, 3, 7, 135, 132, 5, 6, 22].findIdx? (fun a => c == a) = none := by
    rw [List.findIdx?_eq_none_iff]
    have hd : ∀ a ∈ [32, 0, 96, 128, 1, 97, 129, 2, 3, 7, 135, 132, 5, 6, 22], a < 256 := by decide
    intro a ha
    have := hd a ha
    simp; omega
  have h2 : [4, 20, 36, 52, 68, 84, 100, 116, 164, 21, 37, 53, 69].findIdx? (fun a => c == a || c == a + 8) = none := by
    rw [List.findIdx?_eq_none_iff]
    have hd : ∀ a ∈ [4, 20, 36, 52, 68, 84, 100, 116, 164, 21, 37, 53, 69], a < 200 := by decide
    intro a ha
    have := hd a ha
    simp; omega
  simp [refOf, h1, h2]
theorem refOf_eq (c : Nat) : refOf c = kof c := by
  rcases Nat.lt_or_ge c 256 with h | h
  · exact refOf_small c h
  · rw [refOf_big h, kof_big h]

/-- What is wrong with an instruction alone; rest: how many stand behind it. -/
def wrongI (i : Ins) (rest : Nat) : Nat :=
  let (kind, x) := kof i.code
  if kind = 0 then 5
  else if kind = 1 ∧ (i.k % 4 ≠ 0 ∨ 64 ≤ i.k) then 6
  else if (kind = 3 ∨ kind = 6 ∨ kind = 8 ∨ kind = 9) ∧ 16 ≤ i.k then 7
  else if x = false ∧ kind = 19 ∧ i.k = 0 then 8
  else if x = false ∧ (kind = 22 ∨ kind = 23) ∧ 31 < i.k then 9
  else if (kind = 13 ∧ rest ≤ i.k) ∨ (25 ≤ kind ∧ (rest ≤ i.jt ∨ rest ≤ i.jf)) then 10
  else 0
/-- The list's first three points: where, and what. -/
def formedI (l : List Ins) : Nat × Nat :=
  if l.length = 0 then (0, 4)
  else if 4096 < l.length then (0, 3)
  else match (List.range l.length).find? (fun n => wrongI (l.getD n ins0) (l.length - 1 - n) != 0) with
    | some n => (n, wrongI (l.getD n ins0) (l.length - 1 - n))
    | none => if (kof (l.getD (l.length - 1) ins0).code).1 = 14 ∨ (kof (l.getD (l.length - 1) ins0).code).1 = 15 then (0, 0) else (l.length - 1, 11)
end Go.Proofs.W

namespace Go.Proofs.W
open Go.Vl
set_option maxRecDepth 100000

def int (n : Int) : AV := .v (.int .i64 n)
def u8 (n : Int) : AV := .v (.int .u8 n)
def u16 (n : Int) : AV := .v (.int .u16 n)
def u32 (n : Int) : AV := .v (.int .u32 n)
def boolA (b : Bool) : AV := .v (.bool b)
def insA (i : Ins) : AV := .ag [u16 i.code, u8 i.jt, u8 i.jf, u32 i.k]
def inss (l : List Ins) : AV := slOf 4 insA ins0 l
def ints (l : List Nat) : AV := slOf 1 (fun n : Nat => int n) 0 l
def bools (l : List Bool) : AV := slOf 1 boolA false l
def u16s (l : List Nat) : AV := slOf 1 (fun n : Nat => u16 n) 0 l

def codeM (l : List (Nat × Nat)) : List (Value × AV) := l.map fun p => (.int .u16 (p.1 : Nat), int (p.2 : Nat))
theorem alook_code (l : List (Nat × Nat)) (c : Nat) : alook (.int .u16 (c : Nat)) (codeM l) = (lk l c).map fun k => int (k : Nat) := by
  induction l with
  | nil => rfl
  | cons p l ih =>
    unfold codeM at ih ⊢
    simp only [List.map_cons, alook]
    unfold lk at ih ⊢
    rw [List.find?_cons]
    have : keyIs (.int .u16 (c : Nat)) (.int .u16 (p.1 : Nat)) = (p.1 == c) := by
      simp only [keyIs, kindEq, Bool.true_and]
      rw [Bool.eq_iff_iff]; simp; omega
    rw [this]
    cases h : p.1 == c
    · simpa using ih
    · simp
theorem keysFit_code (l : List (Nat × Nat)) : keysFit (.int .u16) (codeM l) = true := by
  simp [keysFit, codeM, keyFit, kindEq]
theorem alone_spec : Tells Tryz.prog 18 [] (.fm (codeM aloneL)) := by
  refine tells_of_aw Tryz.func18 rfl rfl fun nx => ?_
  (repeat ((conv=>whnf);first|refine ω0 ?_|refine ω1 ?_|refine ω2 ?_|refine ω3 ?_|refine ω4 rfl ?_|refine ω5 rfl ?_|refine ω6 ?_|refine ω7 ?_|refine ⟨rfl,?_⟩|refine ⟨trivial,?_⟩|refine ⟨⟨rfl,Nat.le_of_ble_eq_true rfl⟩,?_⟩|refine ⟨⟨by kernel_rfl,by kernel_rfl⟩,?_⟩|refine ⟨by decide,?_⟩|refine lit_true ?_|refine lit_false ?_))
  refine AW.le (ele_freeze (L := [(0, .fm (codeM aloneL))]) (bx := []) (pm := []) (nn := 0) [((0, nx), .mp (codeM aloneL))] rfl rfl (List.Sublist.refl _) .slnil ⟨Frz.om (.head _), trivial⟩) ?_
  (repeat((conv=>whnf);first|apply ω0|apply ω1|apply ω2|refine τ3 rfl ?_|refine τ4 rfl ?_|refine ⟨rfl,?_⟩|apply τa|refine τb rfl ?_|refine ⟨⟨by kernel_rfl,by kernel_rfl⟩,?_⟩|refine ⟨by decide,?_⟩|apply τt|apply τf))
  refine ret_tells rfl (AVle.refl _)
theorem both_spec : Tells Tryz.prog 19 [] (.fm (codeM bothL)) := by
  refine tells_of_aw Tryz.func19 rfl rfl fun nx => ?_
  (repeat ((conv=>whnf);first|refine ω0 ?_|refine ω1 ?_|refine ω2 ?_|refine ω3 ?_|refine ω4 rfl ?_|refine ω5 rfl ?_|refine ω6 ?_|refine ω7 ?_|refine ⟨rfl,?_⟩|refine ⟨trivial,?_⟩|refine ⟨⟨rfl,Nat.le_of_ble_eq_true rfl⟩,?_⟩|refine ⟨⟨by kernel_rfl,by kernel_rfl⟩,?_⟩|refine ⟨by decide,?_⟩|refine lit_true ?_|refine lit_false ?_))
  refine AW.le (ele_freeze (L := [(0, .fm (codeM bothL))]) (bx := []) (pm := []) (nn := 0) [((0, nx), .mp (codeM bothL))] rfl rfl (List.Sublist.refl _) .slnil ⟨Frz.om (.head _), trivial⟩) ?_
  (repeat((conv=>whnf);first|apply ω0|apply ω1|apply ω2|refine τ3 rfl ?_|refine τ4 rfl ?_|refine ⟨rfl,?_⟩|apply τa|refine τb rfl ?_|refine ⟨⟨by kernel_rfl,by kernel_rfl⟩,?_⟩|refine ⟨by decide,?_⟩|apply τt|apply τf))
  refine ret_tells rfl (AVle.refl _)
theorem of_spec (c : Nat) (hc : c < 65536) : Tells Tryz.prog 8 [u16 c] (.tup [int (kof c).1, boolA (kof c).2, boolA ((kof c).1 != 0)]) := by
  refine tells_of_aw Tryz.func8 rfl rfl fun nx => ?_
  (repeat((conv=>whnf);first|apply ω0|apply ω1|apply ω2|refine τ3 rfl ?_|refine τ4 rfl ?_|refine ⟨rfl,?_⟩|apply τa|refine τb rfl ?_|refine ⟨⟨by kernel_rfl,by kernel_rfl⟩,?_⟩|refine ⟨by decide,?_⟩|apply τt|apply τf))
  refine aop_tells rfl rfl alone_spec trivial fun nx => ?_
  (repeat((conv=>whnf);first|apply ω0|apply ω1|apply ω2|refine τ3 rfl ?_|refine τ4 rfl ?_|refine ⟨rfl,?_⟩|apply τa|refine τb rfl ?_|refine ⟨⟨by kernel_rfl,by kernel_rfl⟩,?_⟩|refine ⟨by decide,?_⟩|apply τt|apply τf))
  have e1 := alook_code aloneL c
  cases h1 : lk aloneL c with
  | some k =>
    have hk : kof c = (k, false) := by simp [kof, h1]
    have hk0 : (k != 0) = true := by
      have hd : ∀ p ∈ aloneL, (p.2 != 0) = true := by decide
      exact hd _ (lk_some h1)
    rw [h1] at e1
    refine splitO_eq (b := .tup [int k, boolA true]) (by
      show lookR (alook (.int .u16 (c : Nat)) (codeM aloneL)) _ true = _
      rw [e1]; rfl) ?_
    (repeat((conv=>whnf);first|apply ω0|apply ω1|apply ω2|refine τ3 rfl ?_|refine τ4 rfl ?_|refine ⟨rfl,?_⟩|apply τa|refine τb rfl ?_|refine ⟨⟨by kernel_rfl,by kernel_rfl⟩,?_⟩|refine ⟨by decide,?_⟩|apply τt|apply τf))
    refine ret_tells rfl ?_
    rw [hk, hk0]
    exact AVle.refl _
  | none =>
    rw [h1] at e1
    refine splitO_eq (b := .tup [int 0, boolA false]) (by
      show lookR (alook (.int .u16 (c : Nat)) (codeM aloneL)) _ true = _
      rw [e1]; rfl) ?_
    have hb : bitsI .andNot .u16 (c : Int) 8 = ((clr8 c : Nat) : Int) := by
      have := nu16_andNot (a := c) (b := 8) hc (by decide)
      rw [clr8, ← andnot8 c hc]; exact this
    have hx : bitsI .and .u16 (c : Int) 8 = ((8 * ((c / 8) % 2) : Nat) : Int) := by
      have := nu16_and (a := c) (b := 8) hc (by decide)
      rw [← and8 c]; exact this
    (repeat((conv=>whnf);first|apply ω0|apply ω1|apply ω2|refine τ3 rfl ?_|refine τ4 rfl ?_|refine ⟨rfl,?_⟩|apply τa|refine τb rfl ?_|refine ⟨⟨by kernel_rfl,by kernel_rfl⟩,?_⟩|refine ⟨by decide,?_⟩|apply τt|apply τf))
    refine aop_tells rfl rfl both_spec trivial fun nx => ?_
    (repeat((conv=>whnf);first|apply ω0|apply ω1|apply ω2|refine τ3 rfl ?_|refine τ4 rfl ?_|refine ⟨rfl,?_⟩|apply τa|refine τb rfl ?_|refine ⟨⟨by kernel_rfl,by kernel_rfl⟩,?_⟩|refine ⟨by decide,?_⟩|apply τt|apply τf))
    have e2 := alook_code bothL (clr8 c)
    cases h2 : lk bothL (clr8 c) with
    | some k =>
      have hk : kof c = (k, (c / 8) % 2 == 1) := by simp [kof, h1, h2]
      have hk0 : (k != 0) = true := by
        have hd : ∀ p ∈ bothL, (p.2 != 0) = true := by decide
        exact hd _ (lk_some h2)
      rw [h2] at e2
      refine splitO_eq (b := .tup [int k, boolA true]) (by
        show lookR (alook (.int .u16 (bitsI .andNot .u16 (c : Int) 8)) (codeM bothL)) _ true = _
        rw [hb, e2]; rfl) ?_
      (repeat((conv=>whnf);first|apply ω0|apply ω1|apply ω2|refine τ3 rfl ?_|refine τ4 rfl ?_|refine ⟨rfl,?_⟩|apply τa|refine τb rfl ?_|refine ⟨⟨by kernel_rfl,by kernel_rfl⟩,?_⟩|refine ⟨by decide,?_⟩|apply τt|apply τf))
      intro c h3; cases c
      all_goals
        (repeat((conv=>whnf);first|apply ω0|apply ω1|apply ω2|refine τ3 rfl ?_|refine τ4 rfl ?_|refine ⟨rfl,?_⟩|apply τa|refine τb rfl ?_|refine ⟨⟨by kernel_rfl,by kernel_rfl⟩,?_⟩|refine ⟨by decide,?_⟩|apply τt|apply τf))
        refine ret_tells rfl ?_
        rw [hk, hk0]
        refine AVle.of_eq ?_
        rw [show ((c / 8) % 2 == 1) = (bitsI .and .u16 (c : Int) 8 != 0) by
          rw [hx, Bool.eq_iff_iff]; simp; omega, ← h3]
        rfl
    | none =>
      have hk : kof c = (0, false) := by simp [kof, h1, h2]
      rw [h2] at e2
      refine splitO_eq (b := .tup [int 0, boolA false]) (by
        show lookR (alook (.int .u16 (bitsI .andNot .u16 (c : Int) 8)) (codeM bothL)) _ true = _
        rw [hb, e2]; rfl) ?_
      (repeat((conv=>whnf);first|apply ω0|apply ω1|apply ω2|refine τ3 rfl ?_|refine τ4 rfl ?_|refine ⟨rfl,?_⟩|apply τa|refine τb rfl ?_|refine ⟨⟨by kernel_rfl,by kernel_rfl⟩,?_⟩|refine ⟨by decide,?_⟩|apply τt|apply τf))
      refine ret_tells rfl ?_
      rw [hk]
      exact AVle.refl _
end Go.Proofs.W

namespace Go.Proofs.W
open Go.Vl
set_option maxRecDepth 100000

theorem bne_no {a b : Int} (h : false = (a != b)) : a = b := by simpa using h.symm
theorem bne_yes {a b : Int} (h : true = (a != b)) : a ≠ b := by simpa using h.symm
def looked (i : Ins) (k : Nat) (x : Bool) (r : Nat) : AV := .ag [u16 i.code, u8 i.jt, u8 i.jf, u32 i.k, int k, boolA x, int r]
theorem fct_b0 {a b : Int} : (false = (a == b)) ↔ a ≠ b := by rw [eq_comm]; simp
theorem fct_b1 {a b : Int} : (true = (a == b)) ↔ a = b := by rw [eq_comm]; simp
theorem fct_n0 {a b : Int} : (false = (a != b)) ↔ a = b := by rw [eq_comm]; simp
theorem fct_n1 {a b : Int} : (true = (a != b)) ↔ a ≠ b := by rw [eq_comm]; simp
theorem fct_d0 {p : Prop} [Decidable p] : (false = decide p) ↔ ¬ p := by rw [eq_comm]; simp
theorem fct_d1 {p : Prop} [Decidable p] : (true = decide p) ↔ p := by rw [eq_comm]; simp
theorem code_spec (i : Ins) (k : Nat) (x : Bool) (r : Nat) : Tells Tryz.prog 86 [looked i k x r] (int (if k = 0 then 5 else 0)) := by
  refine tells_of_aw Tryz.func86 rfl rfl fun nx => ?_
  (repeat' ((repeat((conv=>whnf);first|apply ω0|apply ω1|apply ω2|refine τ3 rfl ?_|refine τ4 rfl ?_|refine ⟨rfl,?_⟩|apply τa|refine τb rfl ?_|refine ⟨⟨by kernel_rfl,by kernel_rfl⟩,?_⟩|refine ⟨by decide,?_⟩|apply τt|apply τf)); intro c h; cases c))
  all_goals
    (repeat((conv=>whnf);first|apply ω0|apply ω1|apply ω2|refine τ3 rfl ?_|refine τ4 rfl ?_|refine ⟨rfl,?_⟩|apply τa|refine τb rfl ?_|refine ⟨⟨by kernel_rfl,by kernel_rfl⟩,?_⟩|refine ⟨by decide,?_⟩|apply τt|apply τf))
    refine ret_tells rfl (le_int ?_)
    (try simp only [fct_b0, fct_b1, fct_d0, fct_d1, fct_n0, fct_n1] at *)
    split <;> omega
theorem load_spec (i : Ins) (k : Nat) (x : Bool) (r : Nat) : Tells Tryz.prog 87 [looked i k x r] (int (if k = 1 ∧ (i.k % 4 ≠ 0 ∨ 64 ≤ i.k) then 6 else 0)) := by
  refine tells_of_aw Tryz.func87 rfl rfl fun nx => ?_
  (repeat' ((repeat((conv=>whnf);first|apply ω0|apply ω1|apply ω2|refine τ3 rfl ?_|refine τ4 rfl ?_|refine ⟨rfl,?_⟩|apply τa|refine τb rfl ?_|refine ⟨⟨by kernel_rfl,by kernel_rfl⟩,?_⟩|refine ⟨by decide,?_⟩|apply τt|apply τf)); intro c h; cases c))
  all_goals
    (repeat((conv=>whnf);first|apply ω0|apply ω1|apply ω2|refine τ3 rfl ?_|refine τ4 rfl ?_|refine ⟨rfl,?_⟩|apply τa|refine τb rfl ?_|refine ⟨⟨by kernel_rfl,by kernel_rfl⟩,?_⟩|refine ⟨by decide,?_⟩|apply τt|apply τf))
    refine ret_tells rfl (le_int ?_)
    try rw [show (i.k : Int).tmod 4 = ((i.k % 4 : Nat) : Int) from rfl] at *
    (try simp only [fct_b0, fct_b1, fct_d0, fct_d1, fct_n0, fct_n1] at *)
    split <;> omega
theorem cells_spec (k : Nat) : Tells Tryz.prog 103 [int k] (boolA (decide (k = 3 ∨ k = 6 ∨ k = 8 ∨ k = 9))) := by
  refine tells_of_aw Tryz.func103 rfl rfl fun nx => ?_
  (repeat' ((repeat((conv=>whnf);first|apply ω0|apply ω1|apply ω2|refine τ3 rfl ?_|refine τ4 rfl ?_|refine ⟨rfl,?_⟩|apply τa|refine τb rfl ?_|refine ⟨⟨by kernel_rfl,by kernel_rfl⟩,?_⟩|refine ⟨by decide,?_⟩|apply τt|apply τf)); intro c h; cases c))
  all_goals
    (repeat((conv=>whnf);first|apply ω0|apply ω1|apply ω2|refine τ3 rfl ?_|refine τ4 rfl ?_|refine ⟨rfl,?_⟩|apply τa|refine τb rfl ?_|refine ⟨⟨by kernel_rfl,by kernel_rfl⟩,?_⟩|refine ⟨by decide,?_⟩|apply τt|apply τf))
    refine ret_tells rfl (le_bool ?_)
    (try simp only [fct_b0, fct_b1, fct_d0, fct_d1, fct_n0, fct_n1] at *)
    omega
theorem cell_spec (i : Ins) (k : Nat) (x : Bool) (r : Nat) : Tells Tryz.prog 88 [looked i k x r] (int (if (k = 3 ∨ k = 6 ∨ k = 8 ∨ k = 9) ∧ 16 ≤ i.k then 7 else 0)) := by
  refine tells_of_aw Tryz.func88 rfl rfl fun nx => ?_
  (repeat((conv=>whnf);first|apply ω0|apply ω1|apply ω2|refine τ3 rfl ?_|refine τ4 rfl ?_|refine ⟨rfl,?_⟩|apply τa|refine τb rfl ?_|refine ⟨⟨by kernel_rfl,by kernel_rfl⟩,?_⟩|refine ⟨by decide,?_⟩|apply τt|apply τf))
  refine aop_tells rfl rfl (cells_spec k) ⟨AVle.refl _, trivial⟩ fun nx => ?_
  (repeat' ((repeat((conv=>whnf);first|apply ω0|apply ω1|apply ω2|refine τ3 rfl ?_|refine τ4 rfl ?_|refine ⟨rfl,?_⟩|apply τa|refine τb rfl ?_|refine ⟨⟨by kernel_rfl,by kernel_rfl⟩,?_⟩|refine ⟨by decide,?_⟩|apply τt|apply τf)); intro c h; cases c))
  all_goals
    (repeat((conv=>whnf);first|apply ω0|apply ω1|apply ω2|refine τ3 rfl ?_|refine τ4 rfl ?_|refine ⟨rfl,?_⟩|apply τa|refine τb rfl ?_|refine ⟨⟨by kernel_rfl,by kernel_rfl⟩,?_⟩|refine ⟨by decide,?_⟩|apply τt|apply τf))
    refine ret_tells rfl (le_int ?_)
    (try simp only [fct_b0, fct_b1, fct_d0, fct_d1, fct_n0, fct_n1] at *)
    split <;> omega
theorem number_spec (i : Ins) (k : Nat) (x : Bool) (r : Nat) : Tells Tryz.prog 89 [looked i k x r]
    (int (if x = false ∧ k = 19 ∧ i.k = 0 then 8 else if x = false ∧ (k = 22 ∨ k = 23) ∧ 31 < i.k then 9 else 0)) := by
  refine tells_of_aw Tryz.func89 rfl rfl fun nx => ?_
  cases x
  all_goals
    (repeat' ((repeat((conv=>whnf);first|apply ω0|apply ω1|apply ω2|refine τ3 rfl ?_|refine τ4 rfl ?_|refine ⟨rfl,?_⟩|apply τa|refine τb rfl ?_|refine ⟨⟨by kernel_rfl,by kernel_rfl⟩,?_⟩|refine ⟨by decide,?_⟩|apply τt|apply τf)); intro c h; cases c))
    all_goals
      (repeat((conv=>whnf);first|apply ω0|apply ω1|apply ω2|refine τ3 rfl ?_|refine τ4 rfl ?_|refine ⟨rfl,?_⟩|apply τa|refine τb rfl ?_|refine ⟨⟨by kernel_rfl,by kernel_rfl⟩,?_⟩|refine ⟨by decide,?_⟩|apply τt|apply τf))
      refine ret_tells rfl (le_int ?_)
      (try simp only [fct_b0, fct_b1, fct_d0, fct_d1, fct_n0, fct_n1] at *)
      simp
      try omega
theorem jump_spec (i : Ins) (hi : i.ok) (k : Nat) (x : Bool) (r : Nat) : Tells Tryz.prog 90 [looked i k x r]
    (int (if (k = 13 ∧ r ≤ i.k) ∨ (25 ≤ k ∧ (r ≤ i.jt ∨ r ≤ i.jf)) then 10 else 0)) := by
  obtain ⟨h1, h2, h3, h4⟩ := hi
  have w1 : IntKind.i64.wrap (i.k : Int) = i.k := wrap_id (by omega) (by omega)
  have w2 : IntKind.i64.wrap (if (i.jf : Int) > i.jt then (i.jf : Int) else i.jt) = ((max i.jt i.jf : Nat) : Int) := by
    split
    · rw [wrap_id (by omega) (by omega)]; omega
    · rw [wrap_id (by omega) (by omega)]; omega
  refine tells_of_aw Tryz.func90 rfl rfl fun nx => ?_
  (repeat' ((repeat((conv=>whnf);first|apply ω0|apply ω1|apply ω2|refine τ3 rfl ?_|refine τ4 rfl ?_|refine ⟨rfl,?_⟩|apply τa|refine τb rfl ?_|refine ⟨⟨by kernel_rfl,by kernel_rfl⟩,?_⟩|refine ⟨by decide,?_⟩|apply τt|apply τf)); intro c h; cases c))
  all_goals
    (repeat((conv=>whnf);first|apply ω0|apply ω1|apply ω2|refine τ3 rfl ?_|refine τ4 rfl ?_|refine ⟨rfl,?_⟩|apply τa|refine τb rfl ?_|refine ⟨⟨by kernel_rfl,by kernel_rfl⟩,?_⟩|refine ⟨by decide,?_⟩|apply τt|apply τf))
    refine ret_tells rfl (le_int ?_)
    (try simp only [fct_b0, fct_b1, fct_d0, fct_d1, fct_n0, fct_n1] at *)
    (try rw [w1] at *)
    (try rw [w2] at *)
    split <;> omega
def fnsA (L : AV) : List AV := [.fn (.func 86) [L] [], .fn (.func 87) [L] [], .fn (.func 88) [L] [], .fn (.func 89) [L] [], .fn (.func 90) [L] []]
theorem wrong_spec (i : Ins) (hi : i.ok) (r : Nat) : Tells Tryz.prog 63 [looked i (kof i.code).1 (kof i.code).2 r] (int (wrongI i r)) := by
  have hk := kof_le i.code
  generalize hw : wrongI i r = w
  unfold wrongI at hw
  generalize kof i.code = kk at *
  obtain ⟨k, x⟩ := kk
  dsimp only at hw hk ⊢
  generalize he1 : (if k = 0 then 5 else 0 : Int) = e1
  generalize he2 : (if k = 1 ∧ (i.k % 4 ≠ 0 ∨ 64 ≤ i.k) then 6 else 0 : Int) = e2
  generalize he3 : (if (k = 3 ∨ k = 6 ∨ k = 8 ∨ k = 9) ∧ 16 ≤ i.k then 7 else 0 : Int) = e3
  generalize he4 : (if x = false ∧ k = 19 ∧ i.k = 0 then 8 else if x = false ∧ (k = 22 ∨ k = 23) ∧ 31 < i.k then 9 else 0 : Int) = e4
  generalize he5 : (if (k = 13 ∧ r ≤ i.k) ∨ (25 ≤ k ∧ (r ≤ i.jt ∨ r ≤ i.jf)) then 10 else 0 : Int) = e5
  have s1 := code_spec i k x r
  have s2 := load_spec i k x r
  have s3 := cell_spec i k x r
  have s4 := number_spec i k x r
  have s5 := jump_spec i hi k x r
  rw [he1] at s1; rw [he2] at s2; rw [he3] at s3; rw [he4] at s4; rw [he5] at s5
  have hw' : (w : Int) = if e1 ≠ 0 then e1 else if e2 ≠ 0 then e2 else if e3 ≠ 0 then e3 else if e4 ≠ 0 then e4 else e5 := by
    subst hw he1 he2 he3 he4 he5
    clear s1 s2 s3 s4 s5
    repeat' split
    all_goals first | rfl | omega
  clear hw he1 he2 he3 he4 he5
  refine tells_of_aw Tryz.func63 rfl rfl fun nx => ?_
  (repeat((conv=>whnf);first|apply ω0|apply ω1|apply ω2|refine τ3 rfl ?_|refine τ4 rfl ?_|refine ⟨rfl,?_⟩|apply τa|refine τb rfl ?_|refine ⟨⟨by kernel_rfl,by kernel_rfl⟩,?_⟩|refine ⟨by decide,?_⟩|apply τt|apply τf))
  refine aw_loop (fun s : Nat × Nat => mk 28 [(16, .sl 1 5 (rowF (fnsA (looked i k x r)))), (17, int 5), (18, int s.1)] ⟨[], [], s.2, 0⟩)
    (fun s => s.1 ≤ 5 ∧ (0 < s.1 → e1 = 0) ∧ (1 < s.1 → e2 = 0) ∧ (2 < s.1 → e3 = 0) ∧ (3 < s.1 → e4 = 0) ∧ (4 < s.1 → e5 = 0)) (fun s => 5 - s.1) ?_ ?_
  · refine ⟨(0, _), ⟨by omega, by simp, by simp, by simp, by simp, by simp⟩, ele_keep rfl rfl (.cons _ .slnil) .slnil ⟨?_, AVle.refl _, AVle.refl _, trivial⟩⟩
    exact le_rowF ⟨⟨⟨⟨⟨trivial, rfl⟩, rfl⟩, rfl⟩, rfl⟩, rfl⟩
  · rintro ⟨j, nx'⟩ ⟨h1, h2, h3, h4, h5, h6⟩
    dsimp only at h1 h2 h3 h4 h5 h6
    rcases j with _ | _ | _ | _ | _ | _ | j
    · (repeat((conv=>whnf);first|apply ω0|apply ω1|apply ω2|refine τ3 rfl ?_|refine τ4 rfl ?_|refine ⟨rfl,?_⟩|apply τa|refine τb rfl ?_|refine ⟨⟨by kernel_rfl,by kernel_rfl⟩,?_⟩|refine ⟨by decide,?_⟩|apply τt|apply τf))
      refine ⟨⟨by dsimp only; omega, by dsimp only; omega⟩, ?_⟩
      (repeat((conv=>whnf);first|apply ω0|apply ω1|apply ω2|refine τ3 rfl ?_|refine τ4 rfl ?_|refine ⟨rfl,?_⟩|apply τa|refine τb rfl ?_|refine ⟨⟨by kernel_rfl,by kernel_rfl⟩,?_⟩|refine ⟨by decide,?_⟩|apply τt|apply τf))
      refine aop_tells rfl rfl s1 ⟨AVle.refl _, trivial⟩ fun nx => ?_
      (repeat((conv=>whnf);first|apply ω0|apply ω1|apply ω2|refine τ3 rfl ?_|refine τ4 rfl ?_|refine ⟨rfl,?_⟩|apply τa|refine τb rfl ?_|refine ⟨⟨by kernel_rfl,by kernel_rfl⟩,?_⟩|refine ⟨by decide,?_⟩|apply τt|apply τf))
      intro c h; cases c
      · have h0 := bne_no h
        (repeat((conv=>whnf);first|apply ω0|apply ω1|apply ω2|refine τ3 rfl ?_|refine τ4 rfl ?_|refine ⟨rfl,?_⟩|apply τa|refine τb rfl ?_|refine ⟨⟨by kernel_rfl,by kernel_rfl⟩,?_⟩|refine ⟨by decide,?_⟩|apply τt|apply τf))
        refine back (1, _) ⟨by dsimp only; omega, fun _ => h0, fun h => absurd h (by dsimp only; omega), fun h => absurd h (by dsimp only; omega), fun h => absurd h (by dsimp only; omega), fun h => absurd h (by dsimp only; omega)⟩ (by dsimp only; omega) (ele_keep rfl rfl .slnil .slnil ⟨AVle.refl _, AVle.refl _, AVle.refl _, trivial⟩)
      · have h0 := bne_yes h
        (repeat((conv=>whnf);first|apply ω0|apply ω1|apply ω2|refine τ3 rfl ?_|refine τ4 rfl ?_|refine ⟨rfl,?_⟩|apply τa|refine τb rfl ?_|refine ⟨⟨by kernel_rfl,by kernel_rfl⟩,?_⟩|refine ⟨by decide,?_⟩|apply τt|apply τf))
        refine ret_tells rfl (le_int ?_)
        rw [hw', if_pos h0]
    · (repeat((conv=>whnf);first|apply ω0|apply ω1|apply ω2|refine τ3 rfl ?_|refine τ4 rfl ?_|refine ⟨rfl,?_⟩|apply τa|refine τb rfl ?_|refine ⟨⟨by kernel_rfl,by kernel_rfl⟩,?_⟩|refine ⟨by decide,?_⟩|apply τt|apply τf))
      refine ⟨⟨by dsimp only; omega, by dsimp only; omega⟩, ?_⟩
      (repeat((conv=>whnf);first|apply ω0|apply ω1|apply ω2|refine τ3 rfl ?_|refine τ4 rfl ?_|refine ⟨rfl,?_⟩|apply τa|refine τb rfl ?_|refine ⟨⟨by kernel_rfl,by kernel_rfl⟩,?_⟩|refine ⟨by decide,?_⟩|apply τt|apply τf))
      refine aop_tells rfl rfl s2 ⟨AVle.refl _, trivial⟩ fun nx => ?_
      (repeat((conv=>whnf);first|apply ω0|apply ω1|apply ω2|refine τ3 rfl ?_|refine τ4 rfl ?_|refine ⟨rfl,?_⟩|apply τa|refine τb rfl ?_|refine ⟨⟨by kernel_rfl,by kernel_rfl⟩,?_⟩|refine ⟨by decide,?_⟩|apply τt|apply τf))
      intro c h; cases c
      · have h0 := bne_no h
        (repeat((conv=>whnf);first|apply ω0|apply ω1|apply ω2|refine τ3 rfl ?_|refine τ4 rfl ?_|refine ⟨rfl,?_⟩|apply τa|refine τb rfl ?_|refine ⟨⟨by kernel_rfl,by kernel_rfl⟩,?_⟩|refine ⟨by decide,?_⟩|apply τt|apply τf))
        refine back (2, _) ⟨by dsimp only; omega, fun _ => h2 (by omega), fun _ => h0, fun h => absurd h (by dsimp only; omega), fun h => absurd h (by dsimp only; omega), fun h => absurd h (by dsimp only; omega)⟩ (by dsimp only; omega) (ele_keep rfl rfl .slnil .slnil ⟨AVle.refl _, AVle.refl _, AVle.refl _, trivial⟩)
      · have h0 := bne_yes h
        (repeat((conv=>whnf);first|apply ω0|apply ω1|apply ω2|refine τ3 rfl ?_|refine τ4 rfl ?_|refine ⟨rfl,?_⟩|apply τa|refine τb rfl ?_|refine ⟨⟨by kernel_rfl,by kernel_rfl⟩,?_⟩|refine ⟨by decide,?_⟩|apply τt|apply τf))
        refine ret_tells rfl (le_int ?_)
        rw [hw', if_neg (by simp [h2 (by omega)]), if_pos h0]
    · (repeat((conv=>whnf);first|apply ω0|apply ω1|apply ω2|refine τ3 rfl ?_|refine τ4 rfl ?_|refine ⟨rfl,?_⟩|apply τa|refine τb rfl ?_|refine ⟨⟨by kernel_rfl,by kernel_rfl⟩,?_⟩|refine ⟨by decide,?_⟩|apply τt|apply τf))
      refine ⟨⟨by dsimp only; omega, by dsimp only; omega⟩, ?_⟩
      (repeat((conv=>whnf);first|apply ω0|apply ω1|apply ω2|refine τ3 rfl ?_|refine τ4 rfl ?_|refine ⟨rfl,?_⟩|apply τa|refine τb rfl ?_|refine ⟨⟨by kernel_rfl,by kernel_rfl⟩,?_⟩|refine ⟨by decide,?_⟩|apply τt|apply τf))
      refine aop_tells rfl rfl s3 ⟨AVle.refl _, trivial⟩ fun nx => ?_
      (repeat((conv=>whnf);first|apply ω0|apply ω1|apply ω2|refine τ3 rfl ?_|refine τ4 rfl ?_|refine ⟨rfl,?_⟩|apply τa|refine τb rfl ?_|refine ⟨⟨by kernel_rfl,by kernel_rfl⟩,?_⟩|refine ⟨by decide,?_⟩|apply τt|apply τf))
      intro c h; cases c
      · have h0 := bne_no h
        (repeat((conv=>whnf);first|apply ω0|apply ω1|apply ω2|refine τ3 rfl ?_|refine τ4 rfl ?_|refine ⟨rfl,?_⟩|apply τa|refine τb rfl ?_|refine ⟨⟨by kernel_rfl,by kernel_rfl⟩,?_⟩|refine ⟨by decide,?_⟩|apply τt|apply τf))
        refine back (3, _) ⟨by dsimp only; omega, fun _ => h2 (by omega), fun _ => h3 (by omega), fun _ => h0, fun h => absurd h (by dsimp only; omega), fun h => absurd h (by dsimp only; omega)⟩ (by dsimp only; omega) (ele_keep rfl rfl .slnil .slnil ⟨AVle.refl _, AVle.refl _, AVle.refl _, trivial⟩)
      · have h0 := bne_yes h
        (repeat((conv=>whnf);first|apply ω0|apply ω1|apply ω2|refine τ3 rfl ?_|refine τ4 rfl ?_|refine ⟨rfl,?_⟩|apply τa|refine τb rfl ?_|refine ⟨⟨by kernel_rfl,by kernel_rfl⟩,?_⟩|refine ⟨by decide,?_⟩|apply τt|apply τf))
        refine ret_tells rfl (le_int ?_)
        rw [hw', if_neg (by simp [h2 (by omega)]), if_neg (by simp [h3 (by omega)]), if_pos h0]
    · (repeat((conv=>whnf);first|apply ω0|apply ω1|apply ω2|refine τ3 rfl ?_|refine τ4 rfl ?_|refine ⟨rfl,?_⟩|apply τa|refine τb rfl ?_|refine ⟨⟨by kernel_rfl,by kernel_rfl⟩,?_⟩|refine ⟨by decide,?_⟩|apply τt|apply τf))
      refine ⟨⟨by dsimp only; omega, by dsimp only; omega⟩, ?_⟩
      (repeat((conv=>whnf);first|apply ω0|apply ω1|apply ω2|refine τ3 rfl ?_|refine τ4 rfl ?_|refine ⟨rfl,?_⟩|apply τa|refine τb rfl ?_|refine ⟨⟨by kernel_rfl,by kernel_rfl⟩,?_⟩|refine ⟨by decide,?_⟩|apply τt|apply τf))
      refine aop_tells rfl rfl s4 ⟨AVle.refl _, trivial⟩ fun nx => ?_
      (repeat((conv=>whnf);first|apply ω0|apply ω1|apply ω2|refine τ3 rfl ?_|refine τ4 rfl ?_|refine ⟨rfl,?_⟩|apply τa|refine τb rfl ?_|refine ⟨⟨by kernel_rfl,by kernel_rfl⟩,?_⟩|refine ⟨by decide,?_⟩|apply τt|apply τf))
      intro c h; cases c
      · have h0 := bne_no h
        (repeat((conv=>whnf);first|apply ω0|apply ω1|apply ω2|refine τ3 rfl ?_|refine τ4 rfl ?_|refine ⟨rfl,?_⟩|apply τa|refine τb rfl ?_|refine ⟨⟨by kernel_rfl,by kernel_rfl⟩,?_⟩|refine ⟨by decide,?_⟩|apply τt|apply τf))
        refine back (4, _) ⟨by dsimp only; omega, fun _ => h2 (by omega), fun _ => h3 (by omega), fun _ => h4 (by omega), fun _ => h0, fun h => absurd h (by dsimp only; omega)⟩ (by dsimp only; omega) (ele_keep rfl rfl .slnil .slnil ⟨AVle.refl _, AVle.refl _, AVle.refl _, trivial⟩)
      · have h0 := bne_yes h
        (repeat((conv=>whnf);first|apply ω0|apply ω1|apply ω2|refine τ3 rfl ?_|refine τ4 rfl ?_|refine ⟨rfl,?_⟩|apply τa|refine τb rfl ?_|refine ⟨⟨by kernel_rfl,by kernel_rfl⟩,?_⟩|refine ⟨by decide,?_⟩|apply τt|apply τf))
        refine ret_tells rfl (le_int ?_)
        rw [hw', if_neg (by simp [h2 (by omega)]), if_neg (by simp [h3 (by omega)]), if_neg (by simp [h4 (by omega)]), if_pos h0]
    · (repeat((conv=>whnf);first|apply ω0|apply ω1|apply ω2|refine τ3 rfl ?_|refine τ4 rfl ?_|refine ⟨rfl,?_⟩|apply τa|refine τb rfl ?_|refine ⟨⟨by kernel_rfl,by kernel_rfl⟩,?_⟩|refine ⟨by decide,?_⟩|apply τt|apply τf))
      refine ⟨⟨by dsimp only; omega, by dsimp only; omega⟩, ?_⟩
      (repeat((conv=>whnf);first|apply ω0|apply ω1|apply ω2|refine τ3 rfl ?_|refine τ4 rfl ?_|refine ⟨rfl,?_⟩|apply τa|refine τb rfl ?_|refine ⟨⟨by kernel_rfl,by kernel_rfl⟩,?_⟩|refine ⟨by decide,?_⟩|apply τt|apply τf))
      refine aop_tells rfl rfl s5 ⟨AVle.refl _, trivial⟩ fun nx => ?_
      (repeat((conv=>whnf);first|apply ω0|apply ω1|apply ω2|refine τ3 rfl ?_|refine τ4 rfl ?_|refine ⟨rfl,?_⟩|apply τa|refine τb rfl ?_|refine ⟨⟨by kernel_rfl,by kernel_rfl⟩,?_⟩|refine ⟨by decide,?_⟩|apply τt|apply τf))
      intro c h; cases c
      · have h0 := bne_no h
        (repeat((conv=>whnf);first|apply ω0|apply ω1|apply ω2|refine τ3 rfl ?_|refine τ4 rfl ?_|refine ⟨rfl,?_⟩|apply τa|refine τb rfl ?_|refine ⟨⟨by kernel_rfl,by kernel_rfl⟩,?_⟩|refine ⟨by decide,?_⟩|apply τt|apply τf))
        refine back (5, _) ⟨by dsimp only; omega, fun _ => h2 (by omega), fun _ => h3 (by omega), fun _ => h4 (by omega), fun _ => h5 (by omega), fun _ => h0⟩ (by dsimp only; omega) (ele_keep rfl rfl .slnil .slnil ⟨AVle.refl _, AVle.refl _, AVle.refl _, trivial⟩)
      · have h0 := bne_yes h
        (repeat((conv=>whnf);first|apply ω0|apply ω1|apply ω2|refine τ3 rfl ?_|refine τ4 rfl ?_|refine ⟨rfl,?_⟩|apply τa|refine τb rfl ?_|refine ⟨⟨by kernel_rfl,by kernel_rfl⟩,?_⟩|refine ⟨by decide,?_⟩|apply τt|apply τf))
        refine ret_tells rfl (le_int ?_)
        rw [hw', if_neg (by simp [h2 (by omega)]), if_neg (by simp [h3 (by omega)]), if_neg (by simp [h4 (by omega)]), if_neg (by simp [h5 (by omega)])]
    · (repeat((conv=>whnf);first|apply ω0|apply ω1|apply ω2|refine τ3 rfl ?_|refine τ4 rfl ?_|refine ⟨rfl,?_⟩|apply τa|refine τb rfl ?_|refine ⟨⟨by kernel_rfl,by kernel_rfl⟩,?_⟩|refine ⟨by decide,?_⟩|apply τt|apply τf))
      refine ret_tells rfl (le_int ?_)
      rw [hw', if_neg (by simp [h2 (by omega)]), if_neg (by simp [h3 (by omega)]), if_neg (by simp [h4 (by omega)]), if_neg (by simp [h5 (by omega)]), h6 (by omega)]
    · omega
end Go.Proofs.W

namespace Go.Proofs.W
open Go.Vl
section
variable {α : Type} [Inhabited α] {lt : α → α → Bool}
theorem insG_go {a j : Nat} {e : Array α} (h : a < j) (hl : lt e[j]! e[j - 1]! = true) : Go.Sort.insInner lt a j e = Go.Sort.insInner lt a (j - 1) (Go.Sort.swp e j (j - 1)) := by
  cases j with
  | zero => omega
  | succ j =>
    rw [Go.Sort.insInner]
    simp only [Nat.add_sub_cancel] at hl ⊢
    rw [if_pos (by simp [hl]; omega)]
theorem insG_end {a j : Nat} {e : Array α} (hl : lt e[j]! e[j - 1]! = false) : Go.Sort.insInner lt a j e = e := by
  cases j with
  | zero => rfl
  | succ j =>
    rw [Go.Sort.insInner]
    simp only [Nat.add_sub_cancel] at hl ⊢
    rw [if_neg (by simp [hl])]
theorem insG_stop {a j : Nat} {e : Array α} (h : ¬ a < j) : Go.Sort.insInner lt a j e = e := by
  cases j with
  | zero => rfl
  | succ j => rw [Go.Sort.insInner]; simp; omega
theorem siftG_stop {hi F root : Nat} {d : Array α} (h : 2 * root + 1 ≥ hi) : Go.Sort.siftDown lt hi F root d = d := by rw [Go.Sort.siftDown, dif_pos h]
/-- Which child is the greater one. -/
def siftC (lt : α → α → Bool) (hi F root : Nat) (d : Array α) : Nat := if 2 * root + 2 < hi ∧ lt d[F + (2 * root + 1)]! d[F + (2 * root + 2)]! = true then 2 * root + 2 else 2 * root + 1
theorem siftG_end {hi F root : Nat} {d : Array α} (h : ¬ 2 * root + 1 ≥ hi) (hl : lt d[F + root]! d[F + siftC lt hi F root d]! = false) : Go.Sort.siftDown lt hi F root d = d := by
  rw [Go.Sort.siftDown, dif_neg h]
  unfold siftC at hl
  by_cases hc : 2 * root + 2 < hi ∧ lt d[F + (2 * root + 1)]! d[F + (2 * root + 2)]! = true
  · rw [if_pos hc] at hl
    rw [if_pos (by simp only [Bool.and_eq_true, decide_eq_true_eq]; exact hc), if_pos (by rw [hl]; rfl)]
  · rw [if_neg hc] at hl
    rw [if_neg (by simp only [Bool.and_eq_true, decide_eq_true_eq]; exact hc), if_pos (by rw [hl]; rfl)]
theorem siftG_go {hi F root : Nat} {d : Array α} (h : ¬ 2 * root + 1 ≥ hi) (hl : lt d[F + root]! d[F + siftC lt hi F root d]! = true) : Go.Sort.siftDown lt hi F root d = Go.Sort.siftDown lt hi F (siftC lt hi F root d) (Go.Sort.swp d (F + root) (F + siftC lt hi F root d)) := by
  rw [Go.Sort.siftDown, dif_neg h]
  unfold siftC at hl ⊢
  by_cases hc : 2 * root + 2 < hi ∧ lt d[F + (2 * root + 1)]! d[F + (2 * root + 2)]! = true
  · rw [if_pos hc] at hl ⊢
    rw [if_pos (by simp only [Bool.and_eq_true, decide_eq_true_eq]; exact hc), if_neg (by rw [hl]; simp), dif_pos hc.1]
  · rw [if_neg hc] at hl ⊢
    rw [if_neg (by simp only [Bool.and_eq_true, decide_eq_true_eq]; exact hc), if_neg (by rw [hl]; simp)]
theorem swpG_size {d : Array α} {i j : Nat} : (Go.Sort.swp d i j).size = d.size := by simp [Go.Sort.swp]
theorem siftG_size {hi F : Nat} : ∀ (k root : Nat) (d : Array α), hi - root ≤ k → (Go.Sort.siftDown lt hi F root d).size = d.size := by
  intro k
  induction k with
  | zero => intro root d h; rw [siftG_stop (by omega)]
  | succ k ih =>
    intro root d h
    by_cases h1 : 2 * root + 1 ≥ hi
    · rw [siftG_stop h1]
    · cases hl : lt d[F + root]! d[F + siftC lt hi F root d]! with
      | false => rw [siftG_end h1 hl]
      | true =>
        rw [siftG_go h1 hl, ih _ _ ?_, swpG_size]
        unfold siftC; split <;> omega
theorem scanG_up_end {p : α → Bool} {d : Array α} {i j : Nat} (h : ¬ (i ≤ j ∧ p d[i]! = true)) : Go.Sort.scanUp p d j i = i := by
  rw [Go.Sort.scanUp, if_neg (by simp only [Bool.and_eq_true, decide_eq_true_eq]; exact h)]
theorem scanG_up_go {p : α → Bool} {d : Array α} {i j : Nat} (h : i ≤ j) (hp : p d[i]! = true) : Go.Sort.scanUp p d j i = Go.Sort.scanUp p d j (i + 1) := by
  rw [Go.Sort.scanUp, if_pos (by simp only [Bool.and_eq_true, decide_eq_true_eq]; exact ⟨h, hp⟩)]
theorem scanG_dn_end {p : α → Bool} {d : Array α} {i j : Nat} (h : ¬ (i ≤ j ∧ p d[j]! = true)) : Go.Sort.scanDown p d i j = j := by
  cases j with
  | zero => rfl
  | succ j => rw [Go.Sort.scanDown, if_neg (by simp only [Bool.and_eq_true, decide_eq_true_eq]; exact h)]
theorem scanG_dn_go {p : α → Bool} {d : Array α} {i j : Nat} (h1 : 1 ≤ i) (h : i ≤ j) (hp : p d[j]! = true) : Go.Sort.scanDown p d i j = Go.Sort.scanDown p d i (j - 1) := by
  cases j with
  | zero => omega
  | succ j => rw [Go.Sort.scanDown, if_pos (by simp only [Bool.and_eq_true, decide_eq_true_eq]; exact ⟨h, hp⟩)]; rfl
theorem scanG_so_end {d : Array α} {i b : Nat} (h : ¬ (i < b ∧ lt d[i]! d[i - 1]! = false)) : Go.Sort.scanSorted lt d b i = i := by
  rw [Go.Sort.scanSorted, if_neg (by simp only [Bool.and_eq_true, decide_eq_true_eq, Bool.not_eq_true']; exact h)]
theorem scanG_so_go {d : Array α} {i b : Nat} (h : i < b) (hp : lt d[i]! d[i - 1]! = false) : Go.Sort.scanSorted lt d b i = Go.Sort.scanSorted lt d b (i + 1) := by
  rw [Go.Sort.scanSorted, if_pos (by simp only [Bool.and_eq_true, decide_eq_true_eq, Bool.not_eq_true']; exact ⟨h, hp⟩)]
theorem shDn_end {d : Array α} {j : Nat} (h : lt d[j]! d[j - 1]! = false) : Go.Sort.shiftDown lt j d = d := by
  cases j with
  | zero => rfl
  | succ j => rw [Go.Sort.shiftDown]; simp only [Nat.add_sub_cancel] at h; rw [if_pos (by rw [h]; rfl)]
theorem shDn_go {d : Array α} {j : Nat} (h1 : 1 ≤ j) (h : lt d[j]! d[j - 1]! = true) : Go.Sort.shiftDown lt j d = Go.Sort.shiftDown lt (j - 1) (Go.Sort.swp d j (j - 1)) := by
  cases j with
  | zero => omega
  | succ j => rw [Go.Sort.shiftDown]; simp only [Nat.add_sub_cancel] at h ⊢; rw [if_neg (by rw [h]; simp)]
theorem shUp_end {d : Array α} {b j : Nat} (h : ¬ (j < b ∧ lt d[j]! d[j - 1]! = true)) : Go.Sort.shiftUp lt b j d = d := by
  rw [Go.Sort.shiftUp]
  by_cases hj : j < b
  · rw [if_pos hj, if_pos (by cases hl : lt d[j]! d[j - 1]! with | false => rfl | true => exact absurd ⟨hj, hl⟩ h)]
  · rw [if_neg hj]
theorem shUp_go {d : Array α} {b j : Nat} (h1 : j < b) (h : lt d[j]! d[j - 1]! = true) : Go.Sort.shiftUp lt b j d = Go.Sort.shiftUp lt b (j + 1) (Go.Sort.swp d j (j - 1)) := by
  rw [Go.Sort.shiftUp, if_pos h1, if_neg (by rw [h]; simp)]
theorem partG_now {d : Array α} {a b p i j : Nat} (hi : i = Go.Sort.scanUp (fun x => lt x (Go.Sort.swp d a p)[a]!) (Go.Sort.swp d a p) (b - 1) (a + 1)) (hj : j = Go.Sort.scanDown (fun x => !lt x (Go.Sort.swp d a p)[a]!) (Go.Sort.swp d a p) i (b - 1)) (h : i > j) :
    Go.Sort.partition lt d a b p = (j, true, Go.Sort.swp (Go.Sort.swp d a p) j a) := by
  subst hj; subst hi
  show (if _ then _ else _) = _
  rw [if_pos h]
theorem partG_go {d : Array α} {a b p i j : Nat} (hi : i = Go.Sort.scanUp (fun x => lt x (Go.Sort.swp d a p)[a]!) (Go.Sort.swp d a p) (b - 1) (a + 1)) (hj : j = Go.Sort.scanDown (fun x => !lt x (Go.Sort.swp d a p)[a]!) (Go.Sort.swp d a p) i (b - 1)) (h : ¬ i > j) :
    Go.Sort.partition lt d a b p = ((Go.Sort.partLoop lt a (i + 1) (j - 1) (Go.Sort.swp (Go.Sort.swp d a p) i j)).1, false, Go.Sort.swp (Go.Sort.partLoop lt a (i + 1) (j - 1) (Go.Sort.swp (Go.Sort.swp d a p) i j)).2 (Go.Sort.partLoop lt a (i + 1) (j - 1) (Go.Sort.swp (Go.Sort.swp d a p) i j)).1 a) := by
  subst hj; subst hi
  show (if _ then _ else _) = _
  rw [if_neg h]
theorem lit_eq {K : Bool → Prop} {b b' : Bool} (h : b = b') (hk : ∀ c, c = b' → K c) : ∀ c, c = b → K c := by subst h; exact hk
theorem not_of' {b : Bool} (h : false = !b) : b = true := by cases b <;> simp_all
theorem yes_of' {b : Bool} (h : true = !b) : b = false := by cases b <;> simp_all
theorem wrapN {x : Int} {k : Nat} (h : x = (k : Int)) (hk : k ≤ 9000000000000000000) : IntKind.i64.wrap x = (k : Int) := by rw [wrap_id (by omega) (by omega)]; exact h
/-- A list, sorted. -/
def sortBy (lt : α → α → Bool) (l : List α) : List α := l.mergeSort (fun x y => !lt y x)
omit [Inhabited α] in
theorem sortBy_pair (hS : Go.Sort.SWO lt) (l : List α) : (sortBy lt l).Pairwise (fun x y => lt y x = false) := by
  have tr : ∀ a b c : α, (!lt b a) = true → (!lt c b) = true → (!lt c a) = true := fun a b c h1 h2 => by
    simp only [Bool.not_eq_true'] at *; exact hS.ntrans _ _ _ h2 h1
  have to : ∀ a b : α, ((!lt b a) || (!lt a b)) = true := fun a b => by
    cases h1 : lt b a <;> cases h2 : lt a b <;> try rfl
    have := hS.trans _ _ _ h1 h2
    rw [hS.irrefl] at this; cases this
  exact (List.pairwise_mergeSort tr to l).imp fun h => by simpa using h
omit [Inhabited α] in
theorem sortBy_mem {l : List α} {x : α} : x ∈ sortBy lt l ↔ x ∈ l := (List.mergeSort_perm l _).mem_iff
omit [Inhabited α] in
theorem sortBy_length {l : List α} : (sortBy lt l).length = l.length := List.length_mergeSort _
omit [Inhabited α] in
theorem sortBy_of_perm (hS : Go.Sort.SWO lt) (hT : ∀ x y, lt x y = false → lt y x = false → x = y) {l l' : List α} (h : l.Perm l') : sortBy lt l = sortBy lt l' :=
  List.Perm.eq_of_pairwise (le := fun x y => lt y x = false) (fun a b _ _ h1 h2 => hT a b h2 h1) (sortBy_pair hS l) (sortBy_pair hS l') (((List.mergeSort_perm l _).trans h).trans (List.mergeSort_perm l' _).symm)
omit [Inhabited α] in
/-- Sorted lists of the same elements, none twice. -/
theorem sorted_same (hT : ∀ x y, lt x y = false → lt y x = false → x = y) {l l' : List α} (h1 : l.Pairwise (fun x y => lt y x = false)) (h2 : l'.Pairwise (fun x y => lt y x = false)) (n1 : l.Nodup) (n2 : l'.Nodup) (h : ∀ x, x ∈ l ↔ x ∈ l') : l = l' :=
  List.Perm.eq_of_pairwise (le := fun x y => lt y x = false) (fun a b _ _ h1 h2 => hT a b h2 h1) h1 h2 ((List.perm_ext_iff_of_nodup n1 n2).2 h)
end
theorem ltInt_tot : ∀ x y : Int, Go.Sort.ltInt x y = false → Go.Sort.ltInt y x = false → x = y := fun x y h1 h2 => by
  simp [Go.Sort.ltInt] at h1 h2; omega
end Go.Proofs.W

namespace Go.Proofs.W
open Go.Vl
set_option maxRecDepth 100000

def eA_u32 (z : Int) : AV := .v (.int .u32 z)
theorem c_u32 : Tryz.prog.cellsOf 26 = 1 := by kernel_rfl
theorem u_u32 : Tryz.prog.underlying 26 = some (.int .u32) := by kernel_rfl
theorem less_u32 (x y : Int) : Tells Tryz.prog 72 [eA_u32 x, eA_u32 y] (.v (.bool (Go.Sort.ltInt x y))) := by
  have hn : ∀ z : Int, Tells Tryz.prog 98 [eA_u32 z] (.v (.bool false)) := fun z => by
    refine tells_of_aw Tryz.func98 rfl rfl fun nx => ?_
    (repeat((conv=>whnf);first|apply ω0|apply ω1|apply ω2|refine τ3 rfl ?_|refine τ4 rfl ?_|refine ⟨rfl,?_⟩|apply τa|refine τb rfl ?_|refine ⟨⟨by kernel_rfl,by kernel_rfl⟩,?_⟩|refine ⟨by decide,?_⟩|apply τt|apply τf))
    (intro c hc; (first | (rw [bne_self_eq_false] at hc; subst hc) | (obtain rfl : c = false := hc.trans (bne_self_eq_false _))); (repeat((conv=>whnf);first|apply ω0|apply ω1|apply ω2|refine τ3 rfl ?_|refine τ4 rfl ?_|refine ⟨rfl,?_⟩|apply τa|refine τb rfl ?_|refine ⟨⟨by kernel_rfl,by kernel_rfl⟩,?_⟩|refine ⟨by decide,?_⟩|apply τt|apply τf)))
    exact ret_tells rfl (AVle.refl _)
  refine tells_of_aw Tryz.func72 rfl rfl fun nx => ?_
  (repeat((conv=>whnf);first|apply ω0|apply ω1|apply ω2|refine τ3 rfl ?_|refine τ4 rfl ?_|refine ⟨rfl,?_⟩|apply τa|refine τb rfl ?_|refine ⟨⟨by kernel_rfl,by kernel_rfl⟩,?_⟩|refine ⟨by decide,?_⟩|apply τt|apply τf))
  refine aop_tells rfl rfl (hn x) ⟨AVle.refl _, trivial⟩ fun nx1 => ?_
  (repeat((conv=>whnf);first|apply ω0|apply ω1|apply ω2|refine τ3 rfl ?_|refine τ4 rfl ?_|refine ⟨rfl,?_⟩|apply τa|refine τb rfl ?_|refine ⟨⟨by kernel_rfl,by kernel_rfl⟩,?_⟩|refine ⟨by decide,?_⟩|apply τt|apply τf))
  intro c h; cases c
  · (repeat((conv=>whnf);first|apply ω0|apply ω1|apply ω2|refine τ3 rfl ?_|refine τ4 rfl ?_|refine ⟨rfl,?_⟩|apply τa|refine τb rfl ?_|refine ⟨⟨by kernel_rfl,by kernel_rfl⟩,?_⟩|refine ⟨by decide,?_⟩|apply τt|apply τf))
    exact ret_tells rfl (le_bool h)
  · (repeat((conv=>whnf);first|apply ω0|apply ω1|apply ω2|refine τ3 rfl ?_|refine τ4 rfl ?_|refine ⟨rfl,?_⟩|apply τa|refine τb rfl ?_|refine ⟨⟨by kernel_rfl,by kernel_rfl⟩,?_⟩|refine ⟨by decide,?_⟩|apply τt|apply τf))
    exact ret_tells rfl (le_bool h)
def rowH_u32 (s : Nat) (d : Array (Int)) (tl : List AV) : List (Vl.Id × Own) := [((0, s), .c (rowG eA_u32 d tl))]

set_option maxHeartbeats 2000000 in
theorem ins_u32 (d0 : Array (Int)) (tl : List AV) (n a b : Nat) (hn : d0.size = n) (hab : a ≤ b) (hb : b ≤ n) (hsz : n ≤ 1000000) (s cap nx : Nat) :
    ECall Tryz.prog 66 [.hs (0, s) 0 n cap, int a, int b] ⟨rowH_u32 s d0 tl, [], nx, 1⟩ (fun r h' => ∃ nx' nn', h' = ⟨rowH_u32 s (Go.Sort.insertionSort Go.Sort.ltInt d0 a b) tl, [], nx', nn'⟩) := by
  refine ECall.wk (ecall_of_aw Tryz.func66 rfl rfl ?_)
  (repeat((conv=>whnf);first|apply ω0|apply ω1|apply ω2|refine τ3 rfl ?_|refine τ4 rfl ?_|refine ⟨rfl,?_⟩|apply τa|refine τb rfl ?_|refine ⟨⟨by kernel_rfl,by kernel_rfl⟩,?_⟩|refine ⟨by decide,?_⟩|apply τt|apply τf))
  refine aw_loop (fun y : Array (Int) × Nat × Nat => mk 49 [(0, .hs (0, s) 0 n cap), (1, int a), (2, int b), (6, int y.2.1)] ⟨rowH_u32 s y.1 tl, [], y.2.2, 1⟩) (fun y => y.1.size = n ∧ a + 1 ≤ y.2.1 ∧ y.2.1 ≤ b + 1 ∧ Go.Sort.insOuter Go.Sort.ltInt a b y.2.1 y.1 = Go.Sort.insertionSort Go.Sort.ltInt d0 a b) (fun y => b + 1 - y.2.1) ?_ ?_
  · exact ⟨(d0, a + 1, nx), ⟨hn, Nat.le_refl _, by dsimp only; omega, rfl⟩, ele_tell _ _ rfl rfl (List.Sublist.refl _) .slnil (BxLe.refl _) trivial ⟨AVle.refl _, AVle.refl _, AVle.refl _, le_int (wrap_succ (by first | omega | (dsimp only; omega))), trivial⟩⟩
  · rintro ⟨d, i, nx1⟩ ⟨h1, h2, h3, h4⟩
    dsimp only at h1 h2 h3 h4
    (repeat((conv=>whnf);first|apply ω0|apply ω1|apply ω2|refine τ3 rfl ?_|refine τ4 rfl ?_|refine ⟨rfl,?_⟩|apply τa|refine τb rfl ?_|refine ⟨⟨by kernel_rfl,by kernel_rfl⟩,?_⟩|refine ⟨by decide,?_⟩|apply τt|apply τf))
    intro c g; cases c
    · have g := not_of g
      try dsimp only at g
      rw [Go.Sort.insOuter, if_neg (by omega)] at h4
      subst h4
      (repeat((conv=>whnf);first|apply ω0|apply ω1|apply ω2|refine τ3 rfl ?_|refine τ4 rfl ?_|refine ⟨rfl,?_⟩|apply τa|refine τb rfl ?_|refine ⟨⟨by kernel_rfl,by kernel_rfl⟩,?_⟩|refine ⟨by decide,?_⟩|apply τt|apply τf))
      exact ret_is rfl ⟨_, _, AVle.refl _, hle_tell (rowH_u32 s (Go.Sort.insertionSort Go.Sort.ltInt d0 a b) tl) [] rfl (List.Sublist.refl _) .slnil (BxLe.refl _) (PmEq.refl _), _, 1, rfl⟩
    · have g := yes_of g
      try dsimp only at g
      have hi : i < b := by omega
      rw [Go.Sort.insOuter, if_pos hi] at h4
      (repeat((conv=>whnf);first|apply ω0|apply ω1|apply ω2|refine τ3 rfl ?_|refine τ4 rfl ?_|refine ⟨rfl,?_⟩|apply τa|refine τb rfl ?_|refine ⟨⟨by kernel_rfl,by kernel_rfl⟩,?_⟩|refine ⟨by decide,?_⟩|apply τt|apply τf))
      refine aw_loop (fun y : Array (Int) × Nat × Nat => mk 49 [(0, .hs (0, s) 0 n cap), (1, int a), (2, int b), (6, int i), (7, int y.2.1)] ⟨rowH_u32 s y.1 tl, [], y.2.2, 1⟩) (fun y => y.1.size = n ∧ y.2.1 ≤ i ∧ Go.Sort.insInner Go.Sort.ltInt a y.2.1 y.1 = Go.Sort.insInner Go.Sort.ltInt a i d) (fun y => y.2.1) ?_ ?_
      · exact ⟨(d, i, nx1), ⟨h1, Nat.le_refl _, rfl⟩, ele_tell _ _ rfl rfl (List.Sublist.refl _) .slnil (BxLe.refl _) trivial ⟨AVle.refl _, AVle.refl _, AVle.refl _, AVle.refl _, AVle.refl _, trivial⟩⟩
      · rintro ⟨e, j, nx2⟩ ⟨k1, k2, k3⟩
        dsimp only at k1 k2 k3
        by_cases hja : a < j
        · have hd : decide ((j : Int) > (a : Int)) = true := decide_eq_true (by omega)
          have hj1 : IntKind.i64.wrap ((j : Int) - 1) = ((j - 1 : Nat) : Int) := by rw [wrap_id (by omega) (by omega)]; omega
          (repeat((conv=>whnf);first|apply ω0|apply ω1|apply ω2|refine τ3 rfl ?_|refine τ4 rfl ?_|refine ⟨rfl,?_⟩|apply τa|refine τb rfl ?_|refine ⟨⟨by kernel_rfl,by kernel_rfl⟩,?_⟩|refine ⟨by decide,?_⟩|apply τt|apply τf))
          (refine aw_draw 15 ?_ ?_ ?_ ?_; (· kernel_rfl); (· kernel_rfl); (· kernel_rfl))
          (repeat((conv=>whnf);first|apply ω0|apply ω1|apply ω2|refine τ3 rfl ?_|refine τ4 rfl ?_|refine ⟨rfl,?_⟩|apply τa|refine τb rfl ?_|refine ⟨⟨by kernel_rfl,by kernel_rfl⟩,?_⟩|refine ⟨by decide,?_⟩|apply τt|apply τf))
          (conv => whnf)
          refine lit_eq hd ?_
          (repeat((conv=>whnf);first|apply ω0|apply ω1|apply ω2|refine τ3 rfl ?_|refine τ4 rfl ?_|refine ⟨rfl,?_⟩|apply τa|refine τb rfl ?_|refine ⟨⟨by kernel_rfl,by kernel_rfl⟩,?_⟩|refine ⟨by decide,?_⟩|apply τt|apply τf))
          refine ⟨⟨ixge (i := j) (rfl), ixlt (i := j) (rfl) (by omega)⟩, splitO_eq (b := .bp (0, s) (j)) (congrArg (AV.bp (0, s)) (ixof (i := j) c_u32 (rfl))) ?_⟩
          (conv => whnf)
          refine ⟨⟨rfl, rowG_in (show j < e.size by omega)⟩, splitO_eq (b := eA_u32 e[j]!) (rowG_get (show j < e.size by omega)) ?_⟩
          (repeat((conv=>whnf);first|apply ω0|apply ω1|apply ω2|refine τ3 rfl ?_|refine τ4 rfl ?_|refine ⟨rfl,?_⟩|apply τa|refine τb rfl ?_|refine ⟨⟨by kernel_rfl,by kernel_rfl⟩,?_⟩|refine ⟨by decide,?_⟩|apply τt|apply τf))
          refine ⟨⟨ixge (i := j - 1) (hj1), ixlt (i := j - 1) (hj1) (by omega)⟩, splitO_eq (b := .bp (0, s) (j - 1)) (congrArg (AV.bp (0, s)) (ixof (i := j - 1) c_u32 (hj1))) ?_⟩
          (conv => whnf)
          refine ⟨⟨rfl, rowG_in (show j - 1 < e.size by omega)⟩, splitO_eq (b := eA_u32 e[j - 1]!) (rowG_get (show j - 1 < e.size by omega)) ?_⟩
          (repeat((conv=>whnf);first|apply ω0|apply ω1|apply ω2|refine τ3 rfl ?_|refine τ4 rfl ?_|refine ⟨rfl,?_⟩|apply τa|refine τb rfl ?_|refine ⟨⟨by kernel_rfl,by kernel_rfl⟩,?_⟩|refine ⟨by decide,?_⟩|apply τt|apply τf))
          refine ex_yields (yields_tells rfl rfl (less_u32 e[j]! e[j - 1]!) ⟨AVle.refl _, AVle.refl _, trivial⟩ (NoId.v _)) ?_
          (repeat((conv=>whnf);first|apply ω0|apply ω1|apply ω2|refine τ3 rfl ?_|refine τ4 rfl ?_|refine ⟨rfl,?_⟩|apply τa|refine τb rfl ?_|refine ⟨⟨by kernel_rfl,by kernel_rfl⟩,?_⟩|refine ⟨by decide,?_⟩|apply τt|apply τf))
          intro c hlt; cases c
          · have hl : Go.Sort.ltInt e[j]! e[j - 1]! = false := hlt.symm
            rw [insG_end hl] at k3
            subst k3
            (repeat((conv=>whnf);first|apply ω0|apply ω1|apply ω2|refine τ3 rfl ?_|refine τ4 rfl ?_|refine ⟨rfl,?_⟩|apply τa|refine τb rfl ?_|refine ⟨⟨by kernel_rfl,by kernel_rfl⟩,?_⟩|refine ⟨by decide,?_⟩|apply τt|apply τf))
            exact back (_, i + 1, nx2) ⟨k1, by dsimp only; omega, by dsimp only; omega, h4⟩ (by dsimp only; omega) (ele_tell _ _ rfl rfl (List.Sublist.refl _) .slnil (BxLe.refl _) trivial ⟨AVle.refl _, AVle.refl _, AVle.refl _, le_int (wrap_succ (by first | omega | (dsimp only; omega))), trivial⟩)
          · have hl : Go.Sort.ltInt e[j]! e[j - 1]! = true := hlt.symm
            rw [insG_go hja hl] at k3
            (repeat((conv=>whnf);first|apply ω0|apply ω1|apply ω2|refine τ3 rfl ?_|refine τ4 rfl ?_|refine ⟨rfl,?_⟩|apply τa|refine τb rfl ?_|refine ⟨⟨by kernel_rfl,by kernel_rfl⟩,?_⟩|refine ⟨by decide,?_⟩|apply τt|apply τf))
            refine aw_mix3 18 (fun i => match i with | 15 => true | 17 => true | _ => false) (fun i => match i with | 9 => true | 13 => true | _ => false) [0, 1, 2, 3, 4, 5, 6, 7, 8, 10, 11, 12, 9, 13, 14, 15, 16, 17] (by kernel_rfl) (by kernel_rfl) ?_
            (conv => whnf)
            refine ⟨⟨ixge (i := j - 1) (hj1), ixlt (i := j - 1) (hj1) (by omega)⟩, ?_⟩
            (conv => whnf)
            refine ⟨⟨ixge (i := j) (rfl), ixlt (i := j) (rfl) (by omega)⟩, ?_⟩
            (conv => whnf)
            refine ⟨eA_u32 e[j - 1]!, now_row (E := eA_u32) (d := e) (tl := tl) (j := j - 1) rfl rfl rfl (ixof (i := j - 1) c_u32 (hj1)) rfl u_u32 rfl (by omega), ?_⟩
            (conv => whnf)
            refine ⟨eA_u32 e[j]!, now_row (E := eA_u32) (d := e) (tl := tl) (j := j) rfl rfl rfl (ixof (i := j) c_u32 (rfl)) rfl u_u32 rfl (by omega), ?_⟩
            (conv => whnf)
            refine ⟨⟨ixge (i := j) (rfl), ixlt (i := j) (rfl) (by omega)⟩, ?_⟩
            (conv => whnf)
            refine ⟨_, eff_row (E := eA_u32) (d := e) (tl := tl) (j := j) (z := e[j - 1]!) rfl rfl rfl rfl (ixof (i := j) c_u32 (rfl)) rfl rfl rfl rfl (by kernel_rfl) c_u32 (by omega), fun r0 h0 hr0 => ?_⟩
            subst hr0
            (conv => whnf)
            refine ⟨⟨ixge (i := j - 1) (hj1), ixlt (i := j - 1) (hj1) (by omega)⟩, ?_⟩
            (conv => whnf)
            refine ⟨_, eff_row (E := eA_u32) (d := (e).setIfInBounds (j) e[j - 1]!) (tl := tl) (j := j - 1) (z := e[j]!) rfl rfl rfl rfl (ixof (i := j - 1) c_u32 (hj1)) rfl rfl rfl rfl (by kernel_rfl) c_u32 (by simp; omega), fun r0 h0 hr0 => ?_⟩
            subst hr0
            (repeat((conv=>whnf);first|apply ω0|apply ω1|apply ω2|refine τ3 rfl ?_|refine τ4 rfl ?_|refine ⟨rfl,?_⟩|apply τa|refine τb rfl ?_|refine ⟨⟨by kernel_rfl,by kernel_rfl⟩,?_⟩|refine ⟨by decide,?_⟩|apply τt|apply τf))
            exact back (Go.Sort.swp e j (j - 1), j - 1, nx2) ⟨by dsimp only; rw [← k1]; simp [Go.Sort.swp], by dsimp only; omega, k3⟩ (by dsimp only; omega) (ele_tell _ _ rfl rfl (List.Sublist.refl _) .slnil (BxLe.refl _) trivial ⟨AVle.refl _, AVle.refl _, AVle.refl _, AVle.refl _, le_int hj1, trivial⟩)
        · have hd : decide ((j : Int) > (a : Int)) = false := decide_eq_false (by omega)
          rw [insG_stop hja] at k3
          subst k3
          (repeat((conv=>whnf);first|apply ω0|apply ω1|apply ω2|refine τ3 rfl ?_|refine τ4 rfl ?_|refine ⟨rfl,?_⟩|apply τa|refine τb rfl ?_|refine ⟨⟨by kernel_rfl,by kernel_rfl⟩,?_⟩|refine ⟨by decide,?_⟩|apply τt|apply τf))
          (refine aw_draw 15 ?_ ?_ ?_ ?_; (· kernel_rfl); (· kernel_rfl); (· kernel_rfl))
          (repeat((conv=>whnf);first|apply ω0|apply ω1|apply ω2|refine τ3 rfl ?_|refine τ4 rfl ?_|refine ⟨rfl,?_⟩|apply τa|refine τb rfl ?_|refine ⟨⟨by kernel_rfl,by kernel_rfl⟩,?_⟩|refine ⟨by decide,?_⟩|apply τt|apply τf))
          (conv => whnf)
          refine lit_eq hd ?_
          (repeat((conv=>whnf);first|apply ω0|apply ω1|apply ω2|refine τ3 rfl ?_|refine τ4 rfl ?_|refine ⟨rfl,?_⟩|apply τa|refine τb rfl ?_|refine ⟨⟨by kernel_rfl,by kernel_rfl⟩,?_⟩|refine ⟨by decide,?_⟩|apply τt|apply τf))
          exact back (_, i + 1, nx2) ⟨k1, by dsimp only; omega, by dsimp only; omega, h4⟩ (by dsimp only; omega) (ele_tell _ _ rfl rfl (List.Sublist.refl _) .slnil (BxLe.refl _) trivial ⟨AVle.refl _, AVle.refl _, AVle.refl _, le_int (wrap_succ (by first | omega | (dsimp only; omega))), trivial⟩)
end Go.Proofs.W

namespace Go.Proofs.W
open Go.Vl
set_option maxRecDepth 100000

set_option maxHeartbeats 4000000 in
theorem sift_u32 (d0 : Array (Int)) (tl : List AV) (n lo hi F : Nat) (hn : d0.size = n) (hlo : lo ≤ hi) (hb : F + hi ≤ n) (hsz : n ≤ 1000000) (s cap nx : Nat) :
    ECall Tryz.prog 93 [.hs (0, s) 0 n cap, int lo, int hi, int F] ⟨rowH_u32 s d0 tl, [], nx, 1⟩ (fun r h' => ∃ nx' nn', h' = ⟨rowH_u32 s (Go.Sort.siftDown Go.Sort.ltInt hi F lo d0) tl, [], nx', nn'⟩) := by
  refine ECall.wk (ecall_of_aw Tryz.func93 rfl rfl ?_)
  (repeat((conv=>whnf);first|apply ω0|apply ω1|apply ω2|refine τ3 rfl ?_|refine τ4 rfl ?_|refine ⟨rfl,?_⟩|apply τa|refine τb rfl ?_|refine ⟨⟨by kernel_rfl,by kernel_rfl⟩,?_⟩|refine ⟨by decide,?_⟩|apply τt|apply τf))
  refine aw_loop (fun y : Array (Int) × Nat × Nat => mk 76 [(0, .hs (0, s) 0 n cap), (1, int lo), (2, int hi), (3, int F), (8, int y.2.1)] ⟨rowH_u32 s y.1 tl, [], y.2.2, 1⟩) (fun y => y.1.size = n ∧ y.2.1 ≤ hi ∧ Go.Sort.siftDown Go.Sort.ltInt hi F y.2.1 y.1 = Go.Sort.siftDown Go.Sort.ltInt hi F lo d0) (fun y => hi - y.2.1) ?_ ?_
  · exact ⟨(d0, lo, nx), ⟨hn, hlo, rfl⟩, ele_tell _ _ rfl rfl (List.Sublist.refl _) .slnil (BxLe.refl _) trivial ⟨AVle.refl _, AVle.refl _, AVle.refl _, AVle.refl _, AVle.refl _, trivial⟩⟩
  · rintro ⟨d, r, nx1⟩ ⟨h1, h2, h3⟩
    dsimp only at h1 h2 h3
    have hc1 : IntKind.i64.wrap (IntKind.i64.wrap (2 * (r : Int)) + 1) = ((2 * r + 1 : Nat) : Int) := by rw [show IntKind.i64.wrap (2 * (r : Int)) = ((2 * r : Nat) : Int) from wrapN (by omega) (by omega)]; exact wrapN (by omega) (by omega)
    (repeat((conv=>whnf);first|apply ω0|apply ω2|refine τ3 rfl ?_|refine τ4 rfl ?_|refine ⟨rfl,?_⟩|apply τa|refine τb rfl ?_|refine ⟨⟨by kernel_rfl,by kernel_rfl⟩,?_⟩|refine ⟨by decide,?_⟩|apply τt|apply τf))
    refine aw_region ?_
    (repeat((conv=>whnf);first|apply ω0|apply ω2|refine τ3 rfl ?_|refine τ4 rfl ?_|refine ⟨rfl,?_⟩|apply τa|refine τb rfl ?_|refine ⟨⟨by kernel_rfl,by kernel_rfl⟩,?_⟩|refine ⟨by decide,?_⟩|apply τt|apply τf))
    refine aw_reset (bx := rowH_u32 s d tl) (pm := []) (nx := nx1) (nn := 1) (df := some []) (L := [(0, .hs (0, s) 0 n cap), (1, int lo), (2, int hi), (3, int F), (8, int r), (9, int (2 * r + 1 : Nat))]) rfl rfl rfl (List.Sublist.refl _) .slnil ⟨AVle.refl _, AVle.refl _, AVle.refl _, AVle.refl _, AVle.refl _, le_int hc1, trivial⟩ ?_
    (repeat((conv=>whnf);first|apply ω0|apply ω1|apply ω2|refine τ3 rfl ?_|refine τ4 rfl ?_|refine ⟨rfl,?_⟩|apply τa|refine τb rfl ?_|refine ⟨⟨by kernel_rfl,by kernel_rfl⟩,?_⟩|refine ⟨by decide,?_⟩|apply τt|apply τf))
    intro c g; cases c
    · have g := not_of g
      try dsimp only at g
      have hlt : ¬ 2 * r + 1 ≥ hi := by omega
      have hc2 : IntKind.i64.wrap (((2 * r + 1 : Nat) : Int) + 1) = ((2 * r + 2 : Nat) : Int) := wrapN (by omega) (by omega)
      (repeat((conv=>whnf);first|apply ω0|apply ω2|refine τ3 rfl ?_|refine τ4 rfl ?_|refine ⟨rfl,?_⟩|apply τa|refine τb rfl ?_|refine ⟨⟨by kernel_rfl,by kernel_rfl⟩,?_⟩|refine ⟨by decide,?_⟩|apply τt|apply τf))
      refine aw_mid2 (fun nx2 : Nat => mk 76 [(0, .hs (0, s) 0 n cap), (1, int lo), (2, int hi), (3, int F), (8, int r), (9, int (siftC Go.Sort.ltInt hi F r d : Nat))] ⟨rowH_u32 s d tl, [], nx2, 1⟩) (fun _ => True) ?_ ?_
      · by_cases hg : 2 * r + 2 < hi
        · have hd : decide (IntKind.i64.wrap (((2 * r + 1 : Nat) : Int) + 1) < (hi : Int)) = true := decide_eq_true (by rw [hc2]; omega)
          have e1 : IntKind.i64.wrap ((F : Int) + ((2 * r + 1 : Nat) : Int)) = ((F + (2 * r + 1) : Nat) : Int) := wrapN (by omega) (by omega)
          have e2 : IntKind.i64.wrap (IntKind.i64.wrap ((F : Int) + ((2 * r + 1 : Nat) : Int)) + 1) = ((F + (2 * r + 2) : Nat) : Int) := by rw [e1]; exact wrapN (by omega) (by omega)
          (refine aw_draw 20 ?_ ?_ ?_ ?_; (· kernel_rfl); (· kernel_rfl); (· kernel_rfl))
          (repeat((conv=>whnf);first|apply ω0|apply ω1|apply ω2|refine τ3 rfl ?_|refine τ4 rfl ?_|refine ⟨rfl,?_⟩|apply τa|refine τb rfl ?_|refine ⟨⟨by kernel_rfl,by kernel_rfl⟩,?_⟩|refine ⟨by decide,?_⟩|apply τt|apply τf))
          (conv => whnf)
          refine lit_eq hd ?_
          (repeat((conv=>whnf);first|apply ω0|apply ω1|apply ω2|refine τ3 rfl ?_|refine τ4 rfl ?_|refine ⟨rfl,?_⟩|apply τa|refine τb rfl ?_|refine ⟨⟨by kernel_rfl,by kernel_rfl⟩,?_⟩|refine ⟨by decide,?_⟩|apply τt|apply τf))
          refine ⟨⟨ixge (i := F + (2 * r + 1)) (e1), ixlt (i := F + (2 * r + 1)) (e1) (by omega)⟩, splitO_eq (b := .bp (0, s) (F + (2 * r + 1))) (congrArg (AV.bp (0, s)) (ixof (i := F + (2 * r + 1)) c_u32 (e1))) ?_⟩
          (conv => whnf)
          refine ⟨⟨rfl, rowG_in (show F + (2 * r + 1) < d.size by omega)⟩, splitO_eq (b := eA_u32 d[F + (2 * r + 1)]!) (rowG_get (show F + (2 * r + 1) < d.size by omega)) ?_⟩
          (repeat((conv=>whnf);first|apply ω0|apply ω1|apply ω2|refine τ3 rfl ?_|refine τ4 rfl ?_|refine ⟨rfl,?_⟩|apply τa|refine τb rfl ?_|refine ⟨⟨by kernel_rfl,by kernel_rfl⟩,?_⟩|refine ⟨by decide,?_⟩|apply τt|apply τf))
          refine ⟨⟨ixge (i := F + (2 * r + 2)) (e2), ixlt (i := F + (2 * r + 2)) (e2) (by omega)⟩, splitO_eq (b := .bp (0, s) (F + (2 * r + 2))) (congrArg (AV.bp (0, s)) (ixof (i := F + (2 * r + 2)) c_u32 (e2))) ?_⟩
          (conv => whnf)
          refine ⟨⟨rfl, rowG_in (show F + (2 * r + 2) < d.size by omega)⟩, splitO_eq (b := eA_u32 d[F + (2 * r + 2)]!) (rowG_get (show F + (2 * r + 2) < d.size by omega)) ?_⟩
          (repeat((conv=>whnf);first|apply ω0|apply ω1|apply ω2|refine τ3 rfl ?_|refine τ4 rfl ?_|refine ⟨rfl,?_⟩|apply τa|refine τb rfl ?_|refine ⟨⟨by kernel_rfl,by kernel_rfl⟩,?_⟩|refine ⟨by decide,?_⟩|apply τt|apply τf))
          refine ex_yields (yields_tells rfl rfl (less_u32 d[F + (2 * r + 1)]! d[F + (2 * r + 2)]!) ⟨AVle.refl _, AVle.refl _, trivial⟩ (NoId.v _)) ?_
          (repeat((conv=>whnf);first|apply ω0|apply ω1|apply ω2|refine τ3 rfl ?_|refine τ4 rfl ?_|refine ⟨rfl,?_⟩|apply τa|refine τb rfl ?_|refine ⟨⟨by kernel_rfl,by kernel_rfl⟩,?_⟩|refine ⟨by decide,?_⟩|apply τt|apply τf))
          intro c hlt; cases c
          · have hs : siftC Go.Sort.ltInt hi F r d = 2 * r + 1 := if_neg (fun hh => by rw [← hlt] at hh; cases hh.2)
            (repeat((conv=>whnf);first|apply ω0|apply ω1|apply ω2|refine τ3 rfl ?_|refine τ4 rfl ?_|refine ⟨rfl,?_⟩|apply τa|refine τb rfl ?_|refine ⟨⟨by kernel_rfl,by kernel_rfl⟩,?_⟩|refine ⟨by decide,?_⟩|apply τt|apply τf))
            rw [hs]
            exact ⟨nx1, trivial, ele_tell _ _ rfl rfl (List.Sublist.refl _) .slnil (BxLe.refl _) trivial ⟨AVle.refl _, AVle.refl _, AVle.refl _, AVle.refl _, AVle.refl _, AVle.refl _, trivial⟩⟩
          · have hs : siftC Go.Sort.ltInt hi F r d = 2 * r + 2 := if_pos ⟨hg, hlt.symm⟩
            (repeat((conv=>whnf);first|apply ω0|apply ω1|apply ω2|refine τ3 rfl ?_|refine τ4 rfl ?_|refine ⟨rfl,?_⟩|apply τa|refine τb rfl ?_|refine ⟨⟨by kernel_rfl,by kernel_rfl⟩,?_⟩|refine ⟨by decide,?_⟩|apply τt|apply τf))
            rw [hs]
            exact ⟨nx1, trivial, ele_tell _ _ rfl rfl (List.Sublist.refl _) .slnil (BxLe.refl _) trivial ⟨AVle.refl _, AVle.refl _, AVle.refl _, AVle.refl _, AVle.refl _, le_int hc2, trivial⟩⟩
        · have hd : decide (IntKind.i64.wrap (((2 * r + 1 : Nat) : Int) + 1) < (hi : Int)) = false := decide_eq_false (by rw [hc2]; omega)
          have hs : siftC Go.Sort.ltInt hi F r d = 2 * r + 1 := if_neg (fun hh => hg hh.1)
          (refine aw_draw 20 ?_ ?_ ?_ ?_; (· kernel_rfl); (· kernel_rfl); (· kernel_rfl))
          (repeat((conv=>whnf);first|apply ω0|apply ω1|apply ω2|refine τ3 rfl ?_|refine τ4 rfl ?_|refine ⟨rfl,?_⟩|apply τa|refine τb rfl ?_|refine ⟨⟨by kernel_rfl,by kernel_rfl⟩,?_⟩|refine ⟨by decide,?_⟩|apply τt|apply τf))
          (conv => whnf)
          refine lit_eq hd ?_
          (repeat((conv=>whnf);first|apply ω0|apply ω1|apply ω2|refine τ3 rfl ?_|refine τ4 rfl ?_|refine ⟨rfl,?_⟩|apply τa|refine τb rfl ?_|refine ⟨⟨by kernel_rfl,by kernel_rfl⟩,?_⟩|refine ⟨by decide,?_⟩|apply τt|apply τf))
          rw [hs]
          exact ⟨nx1, trivial, ele_tell _ _ rfl rfl (List.Sublist.refl _) .slnil (BxLe.refl _) trivial ⟨AVle.refl _, AVle.refl _, AVle.refl _, AVle.refl _, AVle.refl _, AVle.refl _, trivial⟩⟩
      · intro nx2 _
        have hcc : siftC Go.Sort.ltInt hi F r d = 2 * r + 1 ∨ siftC Go.Sort.ltInt hi F r d = 2 * r + 2 := by unfold siftC; split <;> simp
        have hch : siftC Go.Sort.ltInt hi F r d < hi := by unfold siftC; split <;> omega
        have kend := siftG_end (lt := Go.Sort.ltInt) (hi := hi) (F := F) (root := r) (d := d) hlt
        have kgo := siftG_go (lt := Go.Sort.ltInt) (hi := hi) (F := F) (root := r) (d := d) hlt
        generalize siftC Go.Sort.ltInt hi F r d = c at hcc hch kend kgo ⊢
        have e1 : IntKind.i64.wrap ((F : Int) + (r : Int)) = ((F + r : Nat) : Int) := wrapN (by omega) (by omega)
        have e2 : IntKind.i64.wrap ((F : Int) + (c : Int)) = ((F + c : Nat) : Int) := wrapN (by omega) (by omega)
        (repeat((conv=>whnf);first|apply ω0|apply ω1|apply ω2|refine τ3 rfl ?_|refine τ4 rfl ?_|refine ⟨rfl,?_⟩|apply τa|refine τb rfl ?_|refine ⟨⟨by kernel_rfl,by kernel_rfl⟩,?_⟩|refine ⟨by decide,?_⟩|apply τt|apply τf))
        (refine aw_draw 14 ?_ ?_ ?_ ?_; (· kernel_rfl); (· kernel_rfl); (· kernel_rfl))
        (repeat((conv=>whnf);first|apply ω0|apply ω1|apply ω2|refine τ3 rfl ?_|refine τ4 rfl ?_|refine ⟨rfl,?_⟩|apply τa|refine τb rfl ?_|refine ⟨⟨by kernel_rfl,by kernel_rfl⟩,?_⟩|refine ⟨by decide,?_⟩|apply τt|apply τf))
        refine ⟨⟨ixge (i := F + r) (e1), ixlt (i := F + r) (e1) (by omega)⟩, splitO_eq (b := .bp (0, s) (F + r)) (congrArg (AV.bp (0, s)) (ixof (i := F + r) c_u32 (e1))) ?_⟩
        (conv => whnf)
        refine ⟨⟨rfl, rowG_in (show F + r < d.size by omega)⟩, splitO_eq (b := eA_u32 d[F + r]!) (rowG_get (show F + r < d.size by omega)) ?_⟩
        (repeat((conv=>whnf);first|apply ω0|apply ω1|apply ω2|refine τ3 rfl ?_|refine τ4 rfl ?_|refine ⟨rfl,?_⟩|apply τa|refine τb rfl ?_|refine ⟨⟨by kernel_rfl,by kernel_rfl⟩,?_⟩|refine ⟨by decide,?_⟩|apply τt|apply τf))
        refine ⟨⟨ixge (i := F + c) (e2), ixlt (i := F + c) (e2) (by omega)⟩, splitO_eq (b := .bp (0, s) (F + c)) (congrArg (AV.bp (0, s)) (ixof (i := F + c) c_u32 (e2))) ?_⟩
        (conv => whnf)
        refine ⟨⟨rfl, rowG_in (show F + c < d.size by omega)⟩, splitO_eq (b := eA_u32 d[F + c]!) (rowG_get (show F + c < d.size by omega)) ?_⟩
        (repeat((conv=>whnf);first|apply ω0|apply ω1|apply ω2|refine τ3 rfl ?_|refine τ4 rfl ?_|refine ⟨rfl,?_⟩|apply τa|refine τb rfl ?_|refine ⟨⟨by kernel_rfl,by kernel_rfl⟩,?_⟩|refine ⟨by decide,?_⟩|apply τt|apply τf))
        refine ex_yields (yields_tells rfl rfl (less_u32 d[F + r]! d[F + c]!) ⟨AVle.refl _, AVle.refl _, trivial⟩ (NoId.v _)) ?_
        (repeat((conv=>whnf);first|apply ω0|apply ω1|apply ω2|refine τ3 rfl ?_|refine τ4 rfl ?_|refine ⟨rfl,?_⟩|apply τa|refine τb rfl ?_|refine ⟨⟨by kernel_rfl,by kernel_rfl⟩,?_⟩|refine ⟨by decide,?_⟩|apply τt|apply τf))
        intro c hlt2; cases c
        · have hl : Go.Sort.ltInt d[F + r]! d[F + c]! = false := hlt2.symm
          rw [kend hl] at h3
          subst h3
          (repeat((conv=>whnf);first|apply ω0|apply ω1|apply ω2|refine τ3 rfl ?_|refine τ4 rfl ?_|refine ⟨rfl,?_⟩|apply τa|refine τb rfl ?_|refine ⟨⟨by kernel_rfl,by kernel_rfl⟩,?_⟩|refine ⟨by decide,?_⟩|apply τt|apply τf))
          exact ret_is rfl ⟨_, _, AVle.refl _, hle_tell (rowH_u32 s (Go.Sort.siftDown Go.Sort.ltInt hi F lo d0) tl) [] rfl (List.Sublist.refl _) .slnil (BxLe.refl _) (PmEq.refl _), _, 1, rfl⟩
        · have hl : Go.Sort.ltInt d[F + r]! d[F + c]! = true := hlt2.symm
          rw [kgo hl] at h3
          (repeat((conv=>whnf);first|apply ω0|apply ω1|apply ω2|refine τ3 rfl ?_|refine τ4 rfl ?_|refine ⟨rfl,?_⟩|apply τa|refine τb rfl ?_|refine ⟨⟨by kernel_rfl,by kernel_rfl⟩,?_⟩|refine ⟨by decide,?_⟩|apply τt|apply τf))
          refine aw_mix3 24 (fun i => match i with | 21 => true | 23 => true | _ => false) (fun i => match i with | 13 => true | 19 => true | _ => false) [0, 1, 2, 3, 4, 5, 6, 7, 8, 9, 10, 11, 12, 14, 15, 16, 17, 18, 13, 19, 20, 21, 22, 23] (by kernel_rfl) (by kernel_rfl) ?_
          (conv => whnf)
          refine ⟨⟨ixge (i := F + c) (e2), ixlt (i := F + c) (e2) (by omega)⟩, ?_⟩
          (conv => whnf)
          refine ⟨⟨ixge (i := F + r) (e1), ixlt (i := F + r) (e1) (by omega)⟩, ?_⟩
          (conv => whnf)
          refine ⟨eA_u32 d[F + c]!, now_row (E := eA_u32) (d := d) (tl := tl) (j := F + c) rfl rfl rfl (ixof (i := F + c) c_u32 (e2)) rfl u_u32 rfl (by omega), ?_⟩
          (conv => whnf)
          refine ⟨eA_u32 d[F + r]!, now_row (E := eA_u32) (d := d) (tl := tl) (j := F + r) rfl rfl rfl (ixof (i := F + r) c_u32 (e1)) rfl u_u32 rfl (by omega), ?_⟩
          (conv => whnf)
          refine ⟨⟨ixge (i := F + r) (e1), ixlt (i := F + r) (e1) (by omega)⟩, ?_⟩
          (conv => whnf)
          refine ⟨_, eff_row (E := eA_u32) (d := d) (tl := tl) (j := F + r) (z := d[F + c]!) rfl rfl rfl rfl (ixof (i := F + r) c_u32 (e1)) rfl rfl rfl rfl (by kernel_rfl) c_u32 (by omega), fun r0 h0 hr0 => ?_⟩
          subst hr0
          (conv => whnf)
          refine ⟨⟨ixge (i := F + c) (e2), ixlt (i := F + c) (e2) (by omega)⟩, ?_⟩
          (conv => whnf)
          refine ⟨_, eff_row (E := eA_u32) (d := (d).setIfInBounds (F + r) d[F + c]!) (tl := tl) (j := F + c) (z := d[F + r]!) rfl rfl rfl rfl (ixof (i := F + c) c_u32 (e2)) rfl rfl rfl rfl (by kernel_rfl) c_u32 (by simp; omega), fun r0 h0 hr0 => ?_⟩
          subst hr0
          (repeat((conv=>whnf);first|apply ω0|apply ω1|apply ω2|refine τ3 rfl ?_|refine τ4 rfl ?_|refine ⟨rfl,?_⟩|apply τa|refine τb rfl ?_|refine ⟨⟨by kernel_rfl,by kernel_rfl⟩,?_⟩|refine ⟨by decide,?_⟩|apply τt|apply τf))
          exact back (Go.Sort.swp d (F + r) (F + c), c, nx2) ⟨by dsimp only; rw [swpG_size]; exact h1, by dsimp only; omega, h3⟩ (by dsimp only; omega) (ele_tell _ _ rfl rfl (List.Sublist.refl _) .slnil (BxLe.refl _) trivial ⟨AVle.refl _, AVle.refl _, AVle.refl _, AVle.refl _, AVle.refl _, trivial⟩)
    · have g := yes_of g
      try dsimp only at g
      rw [siftG_stop (by omega)] at h3
      subst h3
      (repeat((conv=>whnf);first|apply ω0|apply ω1|apply ω2|refine τ3 rfl ?_|refine τ4 rfl ?_|refine ⟨rfl,?_⟩|apply τa|refine τb rfl ?_|refine ⟨⟨by kernel_rfl,by kernel_rfl⟩,?_⟩|refine ⟨by decide,?_⟩|apply τt|apply τf))
      exact ret_is rfl ⟨_, _, AVle.refl _, hle_tell (rowH_u32 s (Go.Sort.siftDown Go.Sort.ltInt hi F lo d0) tl) [] rfl (List.Sublist.refl _) .slnil (BxLe.refl _) (PmEq.refl _), _, 1, rfl⟩
set_option maxHeartbeats 4000000 in
theorem heap_u32 (d0 : Array (Int)) (tl : List AV) (n a b : Nat) (hn : d0.size = n) (hab : a ≤ b) (hb : b ≤ n) (hsz : n ≤ 1000000) (s cap nx : Nat) :
    ECall Tryz.prog 67 [.hs (0, s) 0 n cap, int a, int b] ⟨rowH_u32 s d0 tl, [], nx, 1⟩ (fun r h' => ∃ nx' nn', h' = ⟨rowH_u32 s (Go.Sort.heapSort Go.Sort.ltInt d0 a b) tl, [], nx', nn'⟩) := by
  refine ECall.wk (ecall_of_aw Tryz.func67 rfl rfl ?_)
  have hq : Go.Sort.heapSort Go.Sort.ltInt d0 a b = Go.Sort.heapPop Go.Sort.ltInt a (b - a) (Go.Sort.heapBuild Go.Sort.ltInt (b - a) a ((b - a - 1) / 2 + 1) d0) := rfl
  have eh : IntKind.i64.wrap ((b : Int) - (a : Int)) = ((b - a : Nat) : Int) := wrapN (by omega) (by omega)
  have hab' : a + (b - a) ≤ n := by omega
  generalize b - a = m at hq eh hab' 
  have e1 : IntKind.i64.wrap (Int.tdiv (IntKind.i64.wrap ((m : Int) - 1)) 2) = (((m - 1) / 2 + 1 : Nat) : Int) - 1 := by
    rw [wrap_id (n := (m : Int) - 1) (by omega) (by omega)]
    rcases Nat.eq_zero_or_pos m with h | h
    · subst h; decide
    · rw [show (m : Int) - 1 = ((m - 1 : Nat) : Int) by omega, show Int.tdiv ((m - 1 : Nat) : Int) 2 = (((m - 1) / 2 : Nat) : Int) from rfl]
      rw [wrap_id (by omega) (by omega)]; omega
  have hm0 : (m - 1) / 2 + 1 ≤ m + 1 := by omega
  generalize hk0 : (m - 1) / 2 + 1 = k0 at hq e1 hm0
  have hk00 : k0 ≤ m ∨ (m = 0 ∧ k0 = 1) := by omega
  rw [hq]
  ((repeat((conv=>whnf);first|apply ω0|apply ω2|refine τ3 rfl ?_|refine τ4 rfl ?_|refine ⟨rfl,?_⟩|apply τa|refine τb rfl ?_|refine ⟨⟨by kernel_rfl,by kernel_rfl⟩,?_⟩|refine ⟨by decide,?_⟩|apply τt|apply τf)); refine aw_region ?_; (repeat((conv=>whnf);first|apply ω0|apply ω2|refine τ3 rfl ?_|refine τ4 rfl ?_|refine ⟨rfl,?_⟩|apply τa|refine τb rfl ?_|refine ⟨⟨by kernel_rfl,by kernel_rfl⟩,?_⟩|refine ⟨by decide,?_⟩|apply τt|apply τf)); refine aw_region ?_; (repeat((conv=>whnf);first|apply ω0|apply ω2|refine τ3 rfl ?_|refine τ4 rfl ?_|refine ⟨rfl,?_⟩|apply τa|refine τb rfl ?_|refine ⟨⟨by kernel_rfl,by kernel_rfl⟩,?_⟩|refine ⟨by decide,?_⟩|apply τt|apply τf)); refine aw_region ?_; (repeat((conv=>whnf);first|apply ω0|apply ω2|refine τ3 rfl ?_|refine τ4 rfl ?_|refine ⟨rfl,?_⟩|apply τa|refine τb rfl ?_|refine ⟨⟨by kernel_rfl,by kernel_rfl⟩,?_⟩|refine ⟨by decide,?_⟩|apply τt|apply τf)))
  refine aw_reset (bx := rowH_u32 s d0 tl) (pm := []) (nx := nx) (nn := 1) (df := some []) (L := [(0, .hs (0, s) 0 n cap), (1, int a), (2, int b), (6, int a), (7, int (0 : Nat)), (8, int m)]) rfl rfl rfl (List.Sublist.refl _) .slnil ⟨AVle.refl _, AVle.refl _, AVle.refl _, AVle.refl _, AVle.refl _, le_int eh, trivial⟩ ?_
  (repeat((conv=>whnf);first|apply ω0|apply ω1|apply ω2|refine τ3 rfl ?_|refine τ4 rfl ?_|refine ⟨rfl,?_⟩|apply τa|refine τb rfl ?_|refine ⟨⟨by kernel_rfl,by kernel_rfl⟩,?_⟩|refine ⟨by decide,?_⟩|apply τt|apply τf))
  refine aw_midB (fun y : Array (Int) × Nat => mk 56 [(0, .hs (0, s) 0 n cap), (6, int a), (7, int (0 : Nat)), (8, int m)] ⟨rowH_u32 s y.1 tl, [], y.2, 1⟩) (fun y => y.1.size = n ∧ y.1 = Go.Sort.heapBuild Go.Sort.ltInt m a k0 d0) ?_ ?_
  · refine aw_loop (fun y : Array (Int) × Nat × Nat => mk 56 [(0, .hs (0, s) 0 n cap), (6, int a), (7, int (0 : Nat)), (8, int m), (9, int ((y.2.1 : Int) - 1))] ⟨rowH_u32 s y.1 tl, [], y.2.2, 1⟩) (fun y => y.1.size = n ∧ y.2.1 ≤ k0 ∧ Go.Sort.heapBuild Go.Sort.ltInt m a y.2.1 y.1 = Go.Sort.heapBuild Go.Sort.ltInt m a k0 d0) (fun y => y.2.1) ?_ ?_
    · exact ⟨(d0, k0, nx), ⟨hn, Nat.le_refl _, rfl⟩, ele_tell _ _ rfl rfl (List.Sublist.refl _) .slnil (BxLe.refl _) trivial ⟨AVle.refl _, AVle.refl _, AVle.refl _, AVle.refl _, le_int e1, trivial⟩⟩
    · rintro ⟨d, k, nx1⟩ ⟨h1, h2, h3⟩
      dsimp only at h1 h2 h3
      (repeat((conv=>whnf);first|apply ω0|apply ω1|apply ω2|refine τ3 rfl ?_|refine τ4 rfl ?_|refine ⟨rfl,?_⟩|apply τa|refine τb rfl ?_|refine ⟨⟨by kernel_rfl,by kernel_rfl⟩,?_⟩|refine ⟨by decide,?_⟩|apply τt|apply τf))
      intro c g; cases c
      · have g := not_of g
        try dsimp only at g
        obtain rfl : k = 0 := by omega
        (repeat((conv=>whnf);first|apply ω0|apply ω1|apply ω2|refine τ3 rfl ?_|refine τ4 rfl ?_|refine ⟨rfl,?_⟩|apply τa|refine τb rfl ?_|refine ⟨⟨by kernel_rfl,by kernel_rfl⟩,?_⟩|refine ⟨by decide,?_⟩|apply τt|apply τf))
        exact ⟨(d, nx1), ⟨h1, h3⟩, ele_tell _ _ rfl rfl (List.Sublist.refl _) .slnil (BxLe.refl _) trivial ⟨AVle.refl _, AVle.refl _, AVle.refl _, AVle.refl _, trivial⟩⟩
      · have g := yes_of g
        try dsimp only at g
        obtain ⟨k, rfl⟩ : ∃ k', k = k' + 1 := ⟨k - 1, by omega⟩
        (repeat((conv=>whnf);first|apply ω0|apply ω1|apply ω2|refine τ3 rfl ?_|refine τ4 rfl ?_|refine ⟨rfl,?_⟩|apply τa|refine τb rfl ?_|refine ⟨⟨by kernel_rfl,by kernel_rfl⟩,?_⟩|refine ⟨by decide,?_⟩|apply τt|apply τf))
        refine aop_callF (xs := [.hs (0, s) 0 n cap, int k, int m, int a]) [] [] 1 rfl rfl rfl rfl ⟨AVle.refl _, le_int (by first | omega | (dsimp only; omega)), AVle.refl _, AVle.refl _, trivial⟩ (sift_u32 d tl n k m a h1 (by omega) (by omega) hsz s cap nx1) (BxLe.refl _) (PmEq.refl _) rfl fun r h' hq => ?_
        obtain ⟨nx2, nn', rfl⟩ := hq
        (repeat((conv=>whnf);first|apply ω0|apply ω1|apply ω2|refine τ3 rfl ?_|refine τ4 rfl ?_|refine ⟨rfl,?_⟩|apply τa|refine τb rfl ?_|refine ⟨⟨by kernel_rfl,by kernel_rfl⟩,?_⟩|refine ⟨by decide,?_⟩|apply τt|apply τf))
        exact back (_, k, nx2) ⟨by dsimp only; rw [siftG_size _ _ _ (Nat.le_refl _)]; exact h1, by dsimp only; omega, h3⟩ (by dsimp only; omega) (ele_tell _ _ rfl rfl (List.Sublist.refl _) .slnil (BxLe.refl _) trivial ⟨AVle.refl _, AVle.refl _, AVle.refl _, AVle.refl _, le_int (by rw [wrap_id (by first | omega | (dsimp only; omega)) (by first | omega | (dsimp only; omega))]; first | omega | (dsimp only; omega)), trivial⟩)
  · rintro ⟨d1, nx1⟩ ⟨h1, h2⟩
    dsimp only at h1 h2
    (repeat((conv=>whnf);first|apply ω0|apply ω1|apply ω2|refine τ3 rfl ?_|refine τ4 rfl ?_|refine ⟨rfl,?_⟩|apply τa|refine τb rfl ?_|refine ⟨⟨by kernel_rfl,by kernel_rfl⟩,?_⟩|refine ⟨by decide,?_⟩|apply τt|apply τf))
    refine aw_loop (fun y : Array (Int) × Nat × Nat => mk 56 [(0, .hs (0, s) 0 n cap), (6, int a), (7, int (0 : Nat)), (8, int m), (10, int ((y.2.1 : Int) - 1))] ⟨rowH_u32 s y.1 tl, [], y.2.2, 1⟩) (fun y => y.1.size = n ∧ y.2.1 ≤ m ∧ Go.Sort.heapPop Go.Sort.ltInt a y.2.1 y.1 = Go.Sort.heapPop Go.Sort.ltInt a m (Go.Sort.heapBuild Go.Sort.ltInt m a k0 d0)) (fun y => y.2.1) ?_ ?_
    · exact ⟨(d1, m, nx1), ⟨h1, Nat.le_refl _, by dsimp only; rw [h2]⟩, ele_tell _ _ rfl rfl (List.Sublist.refl _) .slnil (BxLe.refl _) trivial ⟨AVle.refl _, AVle.refl _, AVle.refl _, AVle.refl _, le_int (by rw [wrap_id (by first | omega | (dsimp only; omega)) (by first | omega | (dsimp only; omega))]), trivial⟩⟩
    · rintro ⟨d, k, nx2⟩ ⟨k1, k2, k3⟩
      dsimp only at k1 k2 k3
      (repeat((conv=>whnf);first|apply ω0|apply ω1|apply ω2|refine τ3 rfl ?_|refine τ4 rfl ?_|refine ⟨rfl,?_⟩|apply τa|refine τb rfl ?_|refine ⟨⟨by kernel_rfl,by kernel_rfl⟩,?_⟩|refine ⟨by decide,?_⟩|apply τt|apply τf))
      intro c g; cases c
      · have g := not_of g
        try dsimp only at g
        obtain rfl : k = 0 := by omega
        (repeat((conv=>whnf);first|apply ω0|apply ω1|apply ω2|refine τ3 rfl ?_|refine τ4 rfl ?_|refine ⟨rfl,?_⟩|apply τa|refine τb rfl ?_|refine ⟨⟨by kernel_rfl,by kernel_rfl⟩,?_⟩|refine ⟨by decide,?_⟩|apply τt|apply τf))
        rw [← k3]
        exact ret_is rfl ⟨_, _, AVle.refl _, hle_tell (rowH_u32 s (d) tl) [] rfl (List.Sublist.refl _) .slnil (BxLe.refl _) (PmEq.refl _), _, 1, rfl⟩
      · have g := yes_of g
        try dsimp only at g
        obtain ⟨k, rfl⟩ : ∃ k', k = k' + 1 := ⟨k - 1, by omega⟩
        have ek : IntKind.i64.wrap ((a : Int) + (((k + 1 : Nat) : Int) - 1)) = ((a + k : Nat) : Int) := by rw [wrap_id (by omega) (by omega)]; omega
        (repeat((conv=>whnf);first|apply ω0|apply ω1|apply ω2|refine τ3 rfl ?_|refine τ4 rfl ?_|refine ⟨rfl,?_⟩|apply τa|refine τb rfl ?_|refine ⟨⟨by kernel_rfl,by kernel_rfl⟩,?_⟩|refine ⟨by decide,?_⟩|apply τt|apply τf))
        refine aw_mix3 20 (fun i => match i with | 17 => true | 19 => true | _ => false) (fun i => match i with | 11 => true | 15 => true | _ => false) [0, 1, 2, 3, 4, 5, 6, 7, 8, 9, 10, 12, 13, 14, 11, 15, 16, 17, 18, 19] (by kernel_rfl) (by kernel_rfl) ?_
        (conv => whnf)
        refine ⟨⟨ixge (i := a + k) (ek), ixlt (i := a + k) (ek) (by omega)⟩, ?_⟩
        (conv => whnf)
        refine ⟨⟨ixge (i := a) (rfl), ixlt (i := a) (rfl) (by omega)⟩, ?_⟩
        (conv => whnf)
        refine ⟨eA_u32 d[a + k]!, now_row (E := eA_u32) (d := d) (tl := tl) (j := a + k) rfl rfl rfl (ixof (i := a + k) c_u32 (ek)) rfl u_u32 rfl (by omega), ?_⟩
        (conv => whnf)
        refine ⟨eA_u32 d[a]!, now_row (E := eA_u32) (d := d) (tl := tl) (j := a) rfl rfl rfl (ixof (i := a) c_u32 (rfl)) rfl u_u32 rfl (by omega), ?_⟩
        (conv => whnf)
        refine ⟨⟨ixge (i := a) (rfl), ixlt (i := a) (rfl) (by omega)⟩, ?_⟩
        (conv => whnf)
        refine ⟨_, eff_row (E := eA_u32) (d := d) (tl := tl) (j := a) (z := d[a + k]!) rfl rfl rfl rfl (ixof (i := a) c_u32 (rfl)) rfl rfl rfl rfl (by kernel_rfl) c_u32 (by omega), fun r0 h0 hr0 => ?_⟩
        subst hr0
        (conv => whnf)
        refine ⟨⟨ixge (i := a + k) (ek), ixlt (i := a + k) (ek) (by omega)⟩, ?_⟩
        (conv => whnf)
        refine ⟨_, eff_row (E := eA_u32) (d := (d).setIfInBounds (a) d[a + k]!) (tl := tl) (j := a + k) (z := d[a]!) rfl rfl rfl rfl (ixof (i := a + k) c_u32 (ek)) rfl rfl rfl rfl (by kernel_rfl) c_u32 (by simp; omega), fun r0 h0 hr0 => ?_⟩
        subst hr0
        (repeat((conv=>whnf);first|apply ω0|apply ω1|apply ω2|refine τ3 rfl ?_|refine τ4 rfl ?_|refine ⟨rfl,?_⟩|apply τa|refine τb rfl ?_|refine ⟨⟨by kernel_rfl,by kernel_rfl⟩,?_⟩|refine ⟨by decide,?_⟩|apply τt|apply τf))
        refine aop_callF (xs := [.hs (0, s) 0 n cap, int (0 : Nat), int k, int a]) [] [] 1 rfl rfl rfl rfl ⟨AVle.refl _, AVle.refl _, le_int (by first | omega | (dsimp only; omega)), AVle.refl _, trivial⟩ (sift_u32 (Go.Sort.swp d a (a + k)) tl n 0 k a (by rw [swpG_size]; exact k1) (by omega) (by omega) hsz s cap nx2) (BxLe.refl _) (PmEq.refl _) rfl fun r h' hq => ?_
        obtain ⟨nx3, nn', rfl⟩ := hq
        (repeat((conv=>whnf);first|apply ω0|apply ω1|apply ω2|refine τ3 rfl ?_|refine τ4 rfl ?_|refine ⟨rfl,?_⟩|apply τa|refine τb rfl ?_|refine ⟨⟨by kernel_rfl,by kernel_rfl⟩,?_⟩|refine ⟨by decide,?_⟩|apply τt|apply τf))
        exact back (_, k, nx3) ⟨by dsimp only; rw [siftG_size _ _ _ (Nat.le_refl _), swpG_size]; exact k1, by dsimp only; omega, k3⟩ (by dsimp only; omega) (ele_tell _ _ rfl rfl (List.Sublist.refl _) .slnil (BxLe.refl _) trivial ⟨AVle.refl _, AVle.refl _, AVle.refl _, AVle.refl _, le_int (by rw [wrap_id (by first | omega | (dsimp only; omega)) (by first | omega | (dsimp only; omega))]; first | omega | (dsimp only; omega)), trivial⟩)
set_option maxHeartbeats 2000000 in
theorem rev_u32 (d0 : Array (Int)) (tl : List AV) (n a b : Nat) (hn : d0.size = n) (hab : a < b) (hb : b ≤ n) (hsz : n ≤ 1000000) (s cap nx : Nat) :
    ECall Tryz.prog 70 [.hs (0, s) 0 n cap, int a, int b] ⟨rowH_u32 s d0 tl, [], nx, 1⟩ (fun r h' => ∃ nx' nn', h' = ⟨rowH_u32 s (Go.Sort.reverseRange d0 a b) tl, [], nx', nn'⟩) := by
  refine ECall.wk (ecall_of_aw Tryz.func70 rfl rfl ?_)
  (repeat((conv=>whnf);first|apply ω0|apply ω1|apply ω2|refine τ3 rfl ?_|refine τ4 rfl ?_|refine ⟨rfl,?_⟩|apply τa|refine τb rfl ?_|refine ⟨⟨by kernel_rfl,by kernel_rfl⟩,?_⟩|refine ⟨by decide,?_⟩|apply τt|apply τf))
  refine aw_loop (fun y : Array (Int) × (Nat × Nat) × Nat => mk 32 [(0, .hs (0, s) 0 n cap), (6, int y.2.1.1), (7, int y.2.1.2)] ⟨rowH_u32 s y.1 tl, [], y.2.2, 1⟩) (fun y => y.1.size = n ∧ y.2.1.2 < n ∧ y.2.1.1 ≤ n ∧ Go.Sort.reverseLoop y.2.1.1 y.2.1.2 y.1 = Go.Sort.reverseRange d0 a b) (fun y => y.2.1.2 - y.2.1.1) ?_ ?_
  · exact ⟨(d0, (a, b - 1), nx), ⟨hn, by dsimp only; omega, by dsimp only; omega, rfl⟩, ele_tell _ _ rfl rfl (List.Sublist.refl _) .slnil (BxLe.refl _) trivial ⟨AVle.refl _, AVle.refl _, le_int (by rw [wrap_id (by first | omega | (dsimp only; omega)) (by first | omega | (dsimp only; omega))]; first | omega | (dsimp only; omega)), trivial⟩⟩
  · rintro ⟨d, ⟨i, j⟩, nx1⟩ ⟨h1, h2, h3, h4⟩
    dsimp only at h1 h2 h3 h4
    (repeat((conv=>whnf);first|apply ω0|apply ω1|apply ω2|refine τ3 rfl ?_|refine τ4 rfl ?_|refine ⟨rfl,?_⟩|apply τa|refine τb rfl ?_|refine ⟨⟨by kernel_rfl,by kernel_rfl⟩,?_⟩|refine ⟨by decide,?_⟩|apply τt|apply τf))
    intro c g; cases c
    · have g := not_of g
      try dsimp only at g
      rw [Go.Sort.reverseLoop, if_neg (by omega)] at h4
      (repeat((conv=>whnf);first|apply ω0|apply ω1|apply ω2|refine τ3 rfl ?_|refine τ4 rfl ?_|refine ⟨rfl,?_⟩|apply τa|refine τb rfl ?_|refine ⟨⟨by kernel_rfl,by kernel_rfl⟩,?_⟩|refine ⟨by decide,?_⟩|apply τt|apply τf))
      rw [← h4]
      exact ret_is rfl ⟨_, _, AVle.refl _, hle_tell (rowH_u32 s (d) tl) [] rfl (List.Sublist.refl _) .slnil (BxLe.refl _) (PmEq.refl _), _, 1, rfl⟩
    · have g := yes_of g
      try dsimp only at g
      have hij : i < j := by omega
      rw [Go.Sort.reverseLoop, if_pos hij] at h4
      (repeat((conv=>whnf);first|apply ω0|apply ω1|apply ω2|refine τ3 rfl ?_|refine τ4 rfl ?_|refine ⟨rfl,?_⟩|apply τa|refine τb rfl ?_|refine ⟨⟨by kernel_rfl,by kernel_rfl⟩,?_⟩|refine ⟨by decide,?_⟩|apply τt|apply τf))
      refine aw_mix3 16 (fun i => match i with | 13 => true | 15 => true | _ => false) (fun i => match i with | 7 => true | 11 => true | _ => false) [0, 1, 2, 3, 4, 5, 6, 8, 9, 10, 7, 11, 12, 13, 14, 15] (by kernel_rfl) (by kernel_rfl) ?_
      (conv => whnf)
      refine ⟨⟨ixge (i := j) (rfl), ixlt (i := j) (rfl) (by omega)⟩, ?_⟩
      (conv => whnf)
      refine ⟨⟨ixge (i := i) (rfl), ixlt (i := i) (rfl) (by omega)⟩, ?_⟩
      (conv => whnf)
      refine ⟨eA_u32 d[j]!, now_row (E := eA_u32) (d := d) (tl := tl) (j := j) rfl rfl rfl (ixof (i := j) c_u32 (rfl)) rfl u_u32 rfl (by omega), ?_⟩
      (conv => whnf)
      refine ⟨eA_u32 d[i]!, now_row (E := eA_u32) (d := d) (tl := tl) (j := i) rfl rfl rfl (ixof (i := i) c_u32 (rfl)) rfl u_u32 rfl (by omega), ?_⟩
      (conv => whnf)
      refine ⟨⟨ixge (i := i) (rfl), ixlt (i := i) (rfl) (by omega)⟩, ?_⟩
      (conv => whnf)
      refine ⟨_, eff_row (E := eA_u32) (d := d) (tl := tl) (j := i) (z := d[j]!) rfl rfl rfl rfl (ixof (i := i) c_u32 (rfl)) rfl rfl rfl rfl (by kernel_rfl) c_u32 (by omega), fun r0 h0 hr0 => ?_⟩
      subst hr0
      (conv => whnf)
      refine ⟨⟨ixge (i := j) (rfl), ixlt (i := j) (rfl) (by omega)⟩, ?_⟩
      (conv => whnf)
      refine ⟨_, eff_row (E := eA_u32) (d := (d).setIfInBounds (i) d[j]!) (tl := tl) (j := j) (z := d[i]!) rfl rfl rfl rfl (ixof (i := j) c_u32 (rfl)) rfl rfl rfl rfl (by kernel_rfl) c_u32 (by simp; omega), fun r0 h0 hr0 => ?_⟩
      subst hr0
      (repeat((conv=>whnf);first|apply ω0|apply ω1|apply ω2|refine τ3 rfl ?_|refine τ4 rfl ?_|refine ⟨rfl,?_⟩|apply τa|refine τb rfl ?_|refine ⟨⟨by kernel_rfl,by kernel_rfl⟩,?_⟩|refine ⟨by decide,?_⟩|apply τt|apply τf))
      exact back (Go.Sort.swp d i j, (i + 1, j - 1), nx1) ⟨by dsimp only; rw [swpG_size]; exact h1, by dsimp only; omega, by dsimp only; omega, h4⟩ (by dsimp only; omega) (ele_tell _ _ rfl rfl (List.Sublist.refl _) .slnil (BxLe.refl _) trivial ⟨AVle.refl _, le_int (wrap_succ (by first | omega | (dsimp only; omega))), le_int (by rw [wrap_id (by first | omega | (dsimp only; omega)) (by first | omega | (dsimp only; omega))]; first | omega | (dsimp only; omega)), trivial⟩)
end Go.Proofs.W

namespace Go.Proofs.W
open Go.Vl
set_option maxRecDepth 100000

set_option maxHeartbeats 8000000 in
theorem part_u32 (d0 : Array (Int)) (tl : List AV) (n a b p : Nat) (hn : d0.size = n) (hap : a ≤ p) (hpb : p < b) (hb : b ≤ n) (hsz : n ≤ 1000000) (s cap nx : Nat) :
    ECall Tryz.prog 74 [.hs (0, s) 0 n cap, int a, int b, int p] ⟨rowH_u32 s d0 tl, [], nx, 1⟩ (fun r h' => ∃ fl nx' nn', r = .tup [int (Go.Sort.partition Go.Sort.ltInt d0 a b p).1, .v (.bool fl)] ∧ h' = ⟨rowH_u32 s (Go.Sort.partition Go.Sort.ltInt d0 a b p).2.2 tl, [], nx', nn'⟩) := by
  refine ECall.wk (ecall_of_aw Tryz.func74 rfl rfl ?_)
  (repeat((conv=>whnf);first|apply ω0|apply ω1|apply ω2|refine τ3 rfl ?_|refine τ4 rfl ?_|refine ⟨rfl,?_⟩|apply τa|refine τb rfl ?_|refine ⟨⟨by kernel_rfl,by kernel_rfl⟩,?_⟩|refine ⟨by decide,?_⟩|apply τt|apply τf))
  refine aw_mix3 16 (fun i => match i with | 13 => true | 15 => true | _ => false) (fun i => match i with | 7 => true | 11 => true | _ => false) [0, 1, 2, 3, 4, 5, 6, 8, 9, 10, 7, 11, 12, 13, 14, 15] (by kernel_rfl) (by kernel_rfl) ?_
  (conv => whnf)
  refine ⟨⟨ixge (i := p) (rfl), ixlt (i := p) (rfl) (by omega)⟩, ?_⟩
  (conv => whnf)
  refine ⟨⟨ixge (i := a) (rfl), ixlt (i := a) (rfl) (by omega)⟩, ?_⟩
  (conv => whnf)
  refine ⟨eA_u32 d0[p]!, now_row (E := eA_u32) (d := d0) (tl := tl) (j := p) rfl rfl rfl (ixof (i := p) c_u32 (rfl)) rfl u_u32 rfl (by omega), ?_⟩
  (conv => whnf)
  refine ⟨eA_u32 d0[a]!, now_row (E := eA_u32) (d := d0) (tl := tl) (j := a) rfl rfl rfl (ixof (i := a) c_u32 (rfl)) rfl u_u32 rfl (by omega), ?_⟩
  (conv => whnf)
  refine ⟨⟨ixge (i := a) (rfl), ixlt (i := a) (rfl) (by omega)⟩, ?_⟩
  (conv => whnf)
  refine ⟨_, eff_row (E := eA_u32) (d := d0) (tl := tl) (j := a) (z := d0[p]!) rfl rfl rfl rfl (ixof (i := a) c_u32 (rfl)) rfl rfl rfl rfl (by kernel_rfl) c_u32 (by omega), fun r0 h0 hr0 => ?_⟩
  subst hr0
  (conv => whnf)
  refine ⟨⟨ixge (i := p) (rfl), ixlt (i := p) (rfl) (by omega)⟩, ?_⟩
  (conv => whnf)
  refine ⟨_, eff_row (E := eA_u32) (d := (d0).setIfInBounds (a) d0[p]!) (tl := tl) (j := p) (z := d0[a]!) rfl rfl rfl rfl (ixof (i := p) c_u32 (rfl)) rfl rfl rfl rfl (by kernel_rfl) c_u32 (by simp; omega), fun r0 h0 hr0 => ?_⟩
  subst hr0
  (repeat((conv=>whnf);first|apply ω0|apply ω1|apply ω2|refine τ3 rfl ?_|refine τ4 rfl ?_|refine ⟨rfl,?_⟩|apply τa|refine τb rfl ?_|refine ⟨⟨by kernel_rfl,by kernel_rfl⟩,?_⟩|refine ⟨by decide,?_⟩|apply τt|apply τf))
  have hnow := fun i j => partG_now (lt := Go.Sort.ltInt) (d := d0) (a := a) (b := b) (p := p) (i := i) (j := j)
  have hgo := fun i j => partG_go (lt := Go.Sort.ltInt) (d := d0) (a := a) (b := b) (p := p) (i := i) (j := j)
  have h1n : (Go.Sort.swp d0 a p).size = n := by rw [swpG_size]; exact hn
  refine AW.le (E' := mk 168 [(0, .hs (0, s) 0 n cap), (1, int a), (10, int (a + 1 : Nat)), (11, int (b - 1 : Nat))] ⟨rowH_u32 s (Go.Sort.swp d0 a p) tl, [], nx, 1⟩) (ele_tell _ _ rfl rfl (List.Sublist.refl _) .slnil (BxLe.refl _) trivial ⟨AVle.refl _, AVle.refl _, le_int (wrap_succ (by omega)), le_int (by rw [wrap_id (by omega) (by omega)]; omega), trivial⟩) ?_
  generalize Go.Sort.swp d0 a p = d at hnow hgo h1n
  generalize hP : Go.Sort.partition Go.Sort.ltInt d0 a b p = Pt at hnow hgo ⊢
  refine aw_midB (fun y : Nat × Nat => mk 168 [(0, .hs (0, s) 0 n cap), (1, int a), (10, int y.1), (11, int (b - 1 : Nat))] ⟨rowH_u32 s d tl, [], y.2, 1⟩) (fun y => (a + 1 : Nat) ≤ y.1 ∧ y.1 ≤ n + 2 ∧ y.1 = Go.Sort.scanUp (fun x => Go.Sort.ltInt x d[a]!) d (b - 1 : Nat) (a + 1 : Nat)) ?_ ?_
  · refine aw_loop (fun y : Nat × Nat => mk 168 [(0, .hs (0, s) 0 n cap), (1, int a), (10, int y.1), (11, int (b - 1 : Nat))] ⟨rowH_u32 s d tl, [], y.2, 1⟩) (fun y => (a + 1 : Nat) ≤ y.1 ∧ y.1 ≤ n + 2 ∧ Go.Sort.scanUp (fun x => Go.Sort.ltInt x d[a]!) d (b - 1 : Nat) y.1 = Go.Sort.scanUp (fun x => Go.Sort.ltInt x d[a]!) d (b - 1 : Nat) (a + 1 : Nat)) (fun y => (b - 1 : Nat) + 1 - y.1) ?_ ?_
    · exact ⟨((a + 1 : Nat), _), ⟨Nat.le_refl _, (by dsimp only; omega), rfl⟩, ele_tell _ _ rfl rfl (List.Sublist.refl _) .slnil (BxLe.refl _) trivial ⟨AVle.refl _, AVle.refl _, AVle.refl _, AVle.refl _, trivial⟩⟩
    · rintro ⟨k, nx1⟩ ⟨h1, h2, h3⟩
      dsimp only at h1 h2 h3
      by_cases hij : k ≤ (b - 1 : Nat)
      · have hd : decide (((k : Nat) : Int) ≤ (((b - 1 : Nat) : Nat) : Int)) = true := decide_eq_true (by omega)
        (repeat((conv=>whnf);first|apply ω0|apply ω1|apply ω2|refine τ3 rfl ?_|refine τ4 rfl ?_|refine ⟨rfl,?_⟩|apply τa|refine τb rfl ?_|refine ⟨⟨by kernel_rfl,by kernel_rfl⟩,?_⟩|refine ⟨by decide,?_⟩|apply τt|apply τf))
        (refine aw_draw 14 ?_ ?_ ?_ ?_; (· kernel_rfl); (· kernel_rfl); (· kernel_rfl))
        (repeat((conv=>whnf);first|apply ω0|apply ω1|apply ω2|refine τ3 rfl ?_|refine τ4 rfl ?_|refine ⟨rfl,?_⟩|apply τa|refine τb rfl ?_|refine ⟨⟨by kernel_rfl,by kernel_rfl⟩,?_⟩|refine ⟨by decide,?_⟩|apply τt|apply τf))
        (conv => whnf)
        refine lit_eq hd ?_
        (repeat((conv=>whnf);first|apply ω0|apply ω1|apply ω2|refine τ3 rfl ?_|refine τ4 rfl ?_|refine ⟨rfl,?_⟩|apply τa|refine τb rfl ?_|refine ⟨⟨by kernel_rfl,by kernel_rfl⟩,?_⟩|refine ⟨by decide,?_⟩|apply τt|apply τf))
        refine ⟨⟨ixge (i := k) (rfl), ixlt (i := k) (rfl) (by omega)⟩, splitO_eq (b := .bp (0, s) (k)) (congrArg (AV.bp (0, s)) (ixof (i := k) c_u32 (rfl))) ?_⟩
        (conv => whnf)
        refine ⟨⟨rfl, rowG_in (show k < d.size by omega)⟩, splitO_eq (b := eA_u32 d[k]!) (rowG_get (show k < d.size by omega)) ?_⟩
        (repeat((conv=>whnf);first|apply ω0|apply ω1|apply ω2|refine τ3 rfl ?_|refine τ4 rfl ?_|refine ⟨rfl,?_⟩|apply τa|refine τb rfl ?_|refine ⟨⟨by kernel_rfl,by kernel_rfl⟩,?_⟩|refine ⟨by decide,?_⟩|apply τt|apply τf))
        refine ⟨⟨ixge (i := a) (rfl), ixlt (i := a) (rfl) (by omega)⟩, splitO_eq (b := .bp (0, s) (a)) (congrArg (AV.bp (0, s)) (ixof (i := a) c_u32 (rfl))) ?_⟩
        (conv => whnf)
        refine ⟨⟨rfl, rowG_in (show a < d.size by omega)⟩, splitO_eq (b := eA_u32 d[a]!) (rowG_get (show a < d.size by omega)) ?_⟩
        (repeat((conv=>whnf);first|apply ω0|apply ω1|apply ω2|refine τ3 rfl ?_|refine τ4 rfl ?_|refine ⟨rfl,?_⟩|apply τa|refine τb rfl ?_|refine ⟨⟨by kernel_rfl,by kernel_rfl⟩,?_⟩|refine ⟨by decide,?_⟩|apply τt|apply τf))
        refine ex_yields (yields_tells rfl rfl (less_u32 d[k]! d[a]!) ⟨AVle.refl _, AVle.refl _, trivial⟩ (NoId.v _)) ?_
        (repeat((conv=>whnf);first|apply ω0|apply ω1|apply ω2|refine τ3 rfl ?_|refine τ4 rfl ?_|refine ⟨rfl,?_⟩|apply τa|refine τb rfl ?_|refine ⟨⟨by kernel_rfl,by kernel_rfl⟩,?_⟩|refine ⟨by decide,?_⟩|apply τt|apply τf))
        intro c hlt; cases c
        · have hl : (fun x => Go.Sort.ltInt x d[a]!) d[k]! = false := hlt.symm
          rw [scanG_up_end (p := fun x => Go.Sort.ltInt x d[a]!) (d := d) (i := k) (fun hh => Bool.false_ne_true (hl.symm.trans hh.2))] at h3
          (repeat((conv=>whnf);first|apply ω0|apply ω1|apply ω2|refine τ3 rfl ?_|refine τ4 rfl ?_|refine ⟨rfl,?_⟩|apply τa|refine τb rfl ?_|refine ⟨⟨by kernel_rfl,by kernel_rfl⟩,?_⟩|refine ⟨by decide,?_⟩|apply τt|apply τf))
          exact ⟨(k, nx1), ⟨h1, h2, h3⟩, ele_tell _ _ rfl rfl (List.Sublist.refl _) .slnil (BxLe.refl _) trivial ⟨AVle.refl _, AVle.refl _, AVle.refl _, AVle.refl _, trivial⟩⟩
        · have hl : (fun x => Go.Sort.ltInt x d[a]!) d[k]! = true := hlt.symm
          rw [scanG_up_go (p := fun x => Go.Sort.ltInt x d[a]!) (d := d) (i := k) hij hl] at h3
          (repeat((conv=>whnf);first|apply ω0|apply ω1|apply ω2|refine τ3 rfl ?_|refine τ4 rfl ?_|refine ⟨rfl,?_⟩|apply τa|refine τb rfl ?_|refine ⟨⟨by kernel_rfl,by kernel_rfl⟩,?_⟩|refine ⟨by decide,?_⟩|apply τt|apply τf))
          exact back (k + 1, nx1) ⟨by dsimp only; omega, by dsimp only; omega, h3⟩ (by dsimp only; omega) (ele_tell _ _ rfl rfl (List.Sublist.refl _) .slnil (BxLe.refl _) trivial ⟨AVle.refl _, AVle.refl _, le_int (wrap_succ (by dsimp only; omega)), AVle.refl _, trivial⟩)
      · have hd : decide (((k : Nat) : Int) ≤ (((b - 1 : Nat) : Nat) : Int)) = false := decide_eq_false (by omega)
        rw [scanG_up_end (p := fun x => Go.Sort.ltInt x d[a]!) (d := d) (i := k) (fun hh => hij hh.1)] at h3
        (repeat((conv=>whnf);first|apply ω0|apply ω1|apply ω2|refine τ3 rfl ?_|refine τ4 rfl ?_|refine ⟨rfl,?_⟩|apply τa|refine τb rfl ?_|refine ⟨⟨by kernel_rfl,by kernel_rfl⟩,?_⟩|refine ⟨by decide,?_⟩|apply τt|apply τf))
        (refine aw_draw 14 ?_ ?_ ?_ ?_; (· kernel_rfl); (· kernel_rfl); (· kernel_rfl))
        (repeat((conv=>whnf);first|apply ω0|apply ω1|apply ω2|refine τ3 rfl ?_|refine τ4 rfl ?_|refine ⟨rfl,?_⟩|apply τa|refine τb rfl ?_|refine ⟨⟨by kernel_rfl,by kernel_rfl⟩,?_⟩|refine ⟨by decide,?_⟩|apply τt|apply τf))
        (conv => whnf)
        refine lit_eq hd ?_
        (repeat((conv=>whnf);first|apply ω0|apply ω1|apply ω2|refine τ3 rfl ?_|refine τ4 rfl ?_|refine ⟨rfl,?_⟩|apply τa|refine τb rfl ?_|refine ⟨⟨by kernel_rfl,by kernel_rfl⟩,?_⟩|refine ⟨by decide,?_⟩|apply τt|apply τf))
        exact ⟨(k, nx1), ⟨h1, h2, h3⟩, ele_tell _ _ rfl rfl (List.Sublist.refl _) .slnil (BxLe.refl _) trivial ⟨AVle.refl _, AVle.refl _, AVle.refl _, AVle.refl _, trivial⟩⟩
  rintro ⟨i, nx1⟩ ⟨hi1, hi2, hi3⟩
  dsimp only at hi1 hi2 hi3
  (repeat((conv=>whnf);first|apply ω0|apply ω1|apply ω2|refine τ3 rfl ?_|refine τ4 rfl ?_|refine ⟨rfl,?_⟩|apply τa|refine τb rfl ?_|refine ⟨⟨by kernel_rfl,by kernel_rfl⟩,?_⟩|refine ⟨by decide,?_⟩|apply τt|apply τf))
  refine aw_midB (fun y : Nat × Nat => mk 168 [(0, .hs (0, s) 0 n cap), (1, int a), (10, int i), (11, int y.1)] ⟨rowH_u32 s d tl, [], y.2, 1⟩) (fun y => y.1 ≤ (b - 1 : Nat) ∧ y.1 = Go.Sort.scanDown (fun x => !Go.Sort.ltInt x d[a]!) d i (b - 1 : Nat)) ?_ ?_
  · refine aw_loop (fun y : Nat × Nat => mk 168 [(0, .hs (0, s) 0 n cap), (1, int a), (10, int i), (11, int y.1)] ⟨rowH_u32 s d tl, [], y.2, 1⟩) (fun y => y.1 ≤ (b - 1 : Nat) ∧ Go.Sort.scanDown (fun x => !Go.Sort.ltInt x d[a]!) d i y.1 = Go.Sort.scanDown (fun x => !Go.Sort.ltInt x d[a]!) d i (b - 1 : Nat)) (fun y => y.1) ?_ ?_
    · exact ⟨((b - 1 : Nat), _), ⟨Nat.le_refl _, rfl⟩, ele_tell _ _ rfl rfl (List.Sublist.refl _) .slnil (BxLe.refl _) trivial ⟨AVle.refl _, AVle.refl _, AVle.refl _, AVle.refl _, trivial⟩⟩
    · rintro ⟨k, nx1⟩ ⟨h2, h3⟩
      dsimp only at h2 h3
      by_cases hij : i ≤ k
      · have hd : decide (((i : Nat) : Int) ≤ ((k : Nat) : Int)) = true := decide_eq_true (by omega)
        (repeat((conv=>whnf);first|apply ω0|apply ω1|apply ω2|refine τ3 rfl ?_|refine τ4 rfl ?_|refine ⟨rfl,?_⟩|apply τa|refine τb rfl ?_|refine ⟨⟨by kernel_rfl,by kernel_rfl⟩,?_⟩|refine ⟨by decide,?_⟩|apply τt|apply τf))
        (refine aw_draw 15 ?_ ?_ ?_ ?_; (· kernel_rfl); (· kernel_rfl); (· kernel_rfl))
        (repeat((conv=>whnf);first|apply ω0|apply ω1|apply ω2|refine τ3 rfl ?_|refine τ4 rfl ?_|refine ⟨rfl,?_⟩|apply τa|refine τb rfl ?_|refine ⟨⟨by kernel_rfl,by kernel_rfl⟩,?_⟩|refine ⟨by decide,?_⟩|apply τt|apply τf))
        (conv => whnf)
        refine lit_eq hd ?_
        (repeat((conv=>whnf);first|apply ω0|apply ω1|apply ω2|refine τ3 rfl ?_|refine τ4 rfl ?_|refine ⟨rfl,?_⟩|apply τa|refine τb rfl ?_|refine ⟨⟨by kernel_rfl,by kernel_rfl⟩,?_⟩|refine ⟨by decide,?_⟩|apply τt|apply τf))
        refine ⟨⟨ixge (i := k) (rfl), ixlt (i := k) (rfl) (by omega)⟩, splitO_eq (b := .bp (0, s) (k)) (congrArg (AV.bp (0, s)) (ixof (i := k) c_u32 (rfl))) ?_⟩
        (conv => whnf)
        refine ⟨⟨rfl, rowG_in (show k < d.size by omega)⟩, splitO_eq (b := eA_u32 d[k]!) (rowG_get (show k < d.size by omega)) ?_⟩
        (repeat((conv=>whnf);first|apply ω0|apply ω1|apply ω2|refine τ3 rfl ?_|refine τ4 rfl ?_|refine ⟨rfl,?_⟩|apply τa|refine τb rfl ?_|refine ⟨⟨by kernel_rfl,by kernel_rfl⟩,?_⟩|refine ⟨by decide,?_⟩|apply τt|apply τf))
        refine ⟨⟨ixge (i := a) (rfl), ixlt (i := a) (rfl) (by omega)⟩, splitO_eq (b := .bp (0, s) (a)) (congrArg (AV.bp (0, s)) (ixof (i := a) c_u32 (rfl))) ?_⟩
        (conv => whnf)
        refine ⟨⟨rfl, rowG_in (show a < d.size by omega)⟩, splitO_eq (b := eA_u32 d[a]!) (rowG_get (show a < d.size by omega)) ?_⟩
        (repeat((conv=>whnf);first|apply ω0|apply ω1|apply ω2|refine τ3 rfl ?_|refine τ4 rfl ?_|refine ⟨rfl,?_⟩|apply τa|refine τb rfl ?_|refine ⟨⟨by kernel_rfl,by kernel_rfl⟩,?_⟩|refine ⟨by decide,?_⟩|apply τt|apply τf))
        refine ex_yields (yields_tells rfl rfl (less_u32 d[k]! d[a]!) ⟨AVle.refl _, AVle.refl _, trivial⟩ (NoId.v _)) ?_
        (repeat((conv=>whnf);first|apply ω0|apply ω1|apply ω2|refine τ3 rfl ?_|refine τ4 rfl ?_|refine ⟨rfl,?_⟩|apply τa|refine τb rfl ?_|refine ⟨⟨by kernel_rfl,by kernel_rfl⟩,?_⟩|refine ⟨by decide,?_⟩|apply τt|apply τf))
        intro c hlt; cases c
        · have hl : (fun x => !Go.Sort.ltInt x d[a]!) d[k]! = true := (congrArg Bool.not hlt).symm
          rw [scanG_dn_go (p := fun x => !Go.Sort.ltInt x d[a]!) (d := d) (j := k) (by omega) hij hl] at h3
          (repeat((conv=>whnf);first|apply ω0|apply ω1|apply ω2|refine τ3 rfl ?_|refine τ4 rfl ?_|refine ⟨rfl,?_⟩|apply τa|refine τb rfl ?_|refine ⟨⟨by kernel_rfl,by kernel_rfl⟩,?_⟩|refine ⟨by decide,?_⟩|apply τt|apply τf))
          exact back (k - 1, nx1) ⟨by dsimp only; omega, h3⟩ (by dsimp only; omega) (ele_tell _ _ rfl rfl (List.Sublist.refl _) .slnil (BxLe.refl _) trivial ⟨AVle.refl _, AVle.refl _, AVle.refl _, le_int (by rw [wrap_id (by dsimp only; omega) (by dsimp only; omega)]; dsimp only; omega), trivial⟩)
        · have hl : (fun x => !Go.Sort.ltInt x d[a]!) d[k]! = false := (congrArg Bool.not hlt).symm
          rw [scanG_dn_end (p := fun x => !Go.Sort.ltInt x d[a]!) (d := d) (j := k) (fun hh => Bool.false_ne_true (hl.symm.trans hh.2))] at h3
          (repeat((conv=>whnf);first|apply ω0|apply ω1|apply ω2|refine τ3 rfl ?_|refine τ4 rfl ?_|refine ⟨rfl,?_⟩|apply τa|refine τb rfl ?_|refine ⟨⟨by kernel_rfl,by kernel_rfl⟩,?_⟩|refine ⟨by decide,?_⟩|apply τt|apply τf))
          exact ⟨(k, nx1), ⟨h2, h3⟩, ele_tell _ _ rfl rfl (List.Sublist.refl _) .slnil (BxLe.refl _) trivial ⟨AVle.refl _, AVle.refl _, AVle.refl _, AVle.refl _, trivial⟩⟩
      · have hd : decide (((i : Nat) : Int) ≤ ((k : Nat) : Int)) = false := decide_eq_false (by omega)
        rw [scanG_dn_end (p := fun x => !Go.Sort.ltInt x d[a]!) (d := d) (j := k) (fun hh => hij hh.1)] at h3
        (repeat((conv=>whnf);first|apply ω0|apply ω1|apply ω2|refine τ3 rfl ?_|refine τ4 rfl ?_|refine ⟨rfl,?_⟩|apply τa|refine τb rfl ?_|refine ⟨⟨by kernel_rfl,by kernel_rfl⟩,?_⟩|refine ⟨by decide,?_⟩|apply τt|apply τf))
        (refine aw_draw 15 ?_ ?_ ?_ ?_; (· kernel_rfl); (· kernel_rfl); (· kernel_rfl))
        (repeat((conv=>whnf);first|apply ω0|apply ω1|apply ω2|refine τ3 rfl ?_|refine τ4 rfl ?_|refine ⟨rfl,?_⟩|apply τa|refine τb rfl ?_|refine ⟨⟨by kernel_rfl,by kernel_rfl⟩,?_⟩|refine ⟨by decide,?_⟩|apply τt|apply τf))
        (conv => whnf)
        refine lit_eq hd ?_
        (repeat((conv=>whnf);first|apply ω0|apply ω1|apply ω2|refine τ3 rfl ?_|refine τ4 rfl ?_|refine ⟨rfl,?_⟩|apply τa|refine τb rfl ?_|refine ⟨⟨by kernel_rfl,by kernel_rfl⟩,?_⟩|refine ⟨by decide,?_⟩|apply τt|apply τf))
        exact ⟨(k, nx1), ⟨h2, h3⟩, ele_tell _ _ rfl rfl (List.Sublist.refl _) .slnil (BxLe.refl _) trivial ⟨AVle.refl _, AVle.refl _, AVle.refl _, AVle.refl _, trivial⟩⟩
  rintro ⟨j, nx2⟩ ⟨hj1, hj2⟩
  dsimp only at hj1 hj2
  (repeat((conv=>whnf);first|apply ω0|apply ω1|apply ω2|refine τ3 rfl ?_|refine τ4 rfl ?_|refine ⟨rfl,?_⟩|apply τa|refine τb rfl ?_|refine ⟨⟨by kernel_rfl,by kernel_rfl⟩,?_⟩|refine ⟨by decide,?_⟩|apply τt|apply τf))
  intro c g; cases c
  · have g := not_of g
    try dsimp only at g
    have hP := (hgo i j hi3 hj2 (by omega))
    have hij : i ≤ j := by omega
    (repeat((conv=>whnf);first|apply ω0|apply ω1|apply ω2|refine τ3 rfl ?_|refine τ4 rfl ?_|refine ⟨rfl,?_⟩|apply τa|refine τb rfl ?_|refine ⟨⟨by kernel_rfl,by kernel_rfl⟩,?_⟩|refine ⟨by decide,?_⟩|apply τt|apply τf))
    refine aw_mix3 16 (fun i => match i with | 13 => true | 15 => true | _ => false) (fun i => match i with | 7 => true | 11 => true | _ => false) [0, 1, 2, 3, 4, 5, 6, 8, 9, 10, 7, 11, 12, 13, 14, 15] (by kernel_rfl) (by kernel_rfl) ?_
    (conv => whnf)
    refine ⟨⟨ixge (i := j) (rfl), ixlt (i := j) (rfl) (by omega)⟩, ?_⟩
    (conv => whnf)
    refine ⟨⟨ixge (i := i) (rfl), ixlt (i := i) (rfl) (by omega)⟩, ?_⟩
    (conv => whnf)
    refine ⟨eA_u32 d[j]!, now_row (E := eA_u32) (d := d) (tl := tl) (j := j) rfl rfl rfl (ixof (i := j) c_u32 (rfl)) rfl u_u32 rfl (by omega), ?_⟩
    (conv => whnf)
    refine ⟨eA_u32 d[i]!, now_row (E := eA_u32) (d := d) (tl := tl) (j := i) rfl rfl rfl (ixof (i := i) c_u32 (rfl)) rfl u_u32 rfl (by omega), ?_⟩
    (conv => whnf)
    refine ⟨⟨ixge (i := i) (rfl), ixlt (i := i) (rfl) (by omega)⟩, ?_⟩
    (conv => whnf)
    refine ⟨_, eff_row (E := eA_u32) (d := d) (tl := tl) (j := i) (z := d[j]!) rfl rfl rfl rfl (ixof (i := i) c_u32 (rfl)) rfl rfl rfl rfl (by kernel_rfl) c_u32 (by omega), fun r0 h0 hr0 => ?_⟩
    subst hr0
    (conv => whnf)
    refine ⟨⟨ixge (i := j) (rfl), ixlt (i := j) (rfl) (by omega)⟩, ?_⟩
    (conv => whnf)
    refine ⟨_, eff_row (E := eA_u32) (d := (d).setIfInBounds (i) d[j]!) (tl := tl) (j := j) (z := d[i]!) rfl rfl rfl rfl (ixof (i := j) c_u32 (rfl)) rfl rfl rfl rfl (by kernel_rfl) c_u32 (by simp; omega), fun r0 h0 hr0 => ?_⟩
    subst hr0
    (repeat((conv=>whnf);first|apply ω0|apply ω1|apply ω2|refine τ3 rfl ?_|refine τ4 rfl ?_|refine ⟨rfl,?_⟩|apply τa|refine τb rfl ?_|refine ⟨⟨by kernel_rfl,by kernel_rfl⟩,?_⟩|refine ⟨by decide,?_⟩|apply τt|apply τf))
    have h2n : (Go.Sort.swp d i j).size = n := by rw [swpG_size]; exact h1n
    clear hnow hgo
    refine AW.le (E' := mk 168 [(0, .hs (0, s) 0 n cap), (1, int a), (10, int (i + 1 : Nat)), (11, int (j - 1 : Nat))] ⟨rowH_u32 s (Go.Sort.swp d i j) tl, [], nx2, 1⟩) (ele_tell _ _ rfl rfl (List.Sublist.refl _) .slnil (BxLe.refl _) trivial ⟨AVle.refl _, AVle.refl _, le_int (wrap_succ (by omega)), le_int (by rw [wrap_id (by omega) (by omega)]; omega), trivial⟩) ?_
    have hi1' : 1 ≤ i + 1 := by omega
    have hi2' : i + 1 ≤ n + 2 := by omega
    have hj1' : j - 1 < n := by omega
    generalize Go.Sort.swp d i j = e0 at hP h2n ⊢
    generalize i + 1 = i0 at hP hi1' hi2' ⊢
    generalize j - 1 = j0 at hP hj1' ⊢
    refine aw_midB (fun y : Array (Int) × Nat × Nat => mk 168 [(0, .hs (0, s) 0 n cap), (1, int a), (11, int y.2.1)] ⟨rowH_u32 s y.1 tl, [], y.2.2, 1⟩) (fun y => y.1.size = n ∧ y.2.1 < n ∧ (y.2.1, y.1) = Go.Sort.partLoop Go.Sort.ltInt a i0 j0 e0) ?_ ?_
    · refine aw_loop (fun y : Array (Int) × (Nat × Nat) × Nat => mk 168 [(0, .hs (0, s) 0 n cap), (1, int a), (10, int y.2.1.1), (11, int y.2.1.2)] ⟨rowH_u32 s y.1 tl, [], y.2.2, 1⟩) (fun y => y.1.size = n ∧ 1 ≤ y.2.1.1 ∧ y.2.1.1 ≤ n + 2 ∧ y.2.1.2 < n ∧ Go.Sort.partLoop Go.Sort.ltInt a y.2.1.1 y.2.1.2 y.1 = Go.Sort.partLoop Go.Sort.ltInt a i0 j0 e0) (fun y => y.2.1.2 + 1 - y.2.1.1) ?_ ?_
      · exact ⟨(e0, (i0, j0), _), ⟨h2n, hi1', hi2', hj1', rfl⟩, ele_tell _ _ rfl rfl (List.Sublist.refl _) .slnil (BxLe.refl _) trivial ⟨AVle.refl _, AVle.refl _, AVle.refl _, AVle.refl _, trivial⟩⟩
      · rintro ⟨e, ⟨i, j⟩, nx3⟩ ⟨m1, m2, m3, m4, m5⟩
        dsimp only at m1 m2 m3 m4 m5
        rw [Go.Sort.partLoop_eq] at m5
        (repeat((conv=>whnf);first|apply ω0|apply ω1|apply ω2|refine τ3 rfl ?_|refine τ4 rfl ?_|refine ⟨rfl,?_⟩|apply τa|refine τb rfl ?_|refine ⟨⟨by kernel_rfl,by kernel_rfl⟩,?_⟩|refine ⟨by decide,?_⟩|apply τt|apply τf))
        refine aw_midB (fun y : Nat × Nat => mk 168 [(0, .hs (0, s) 0 n cap), (1, int a), (10, int y.1), (11, int j)] ⟨rowH_u32 s e tl, [], y.2, 1⟩) (fun y => i ≤ y.1 ∧ y.1 ≤ n + 2 ∧ y.1 = Go.Sort.scanUp (fun x => Go.Sort.ltInt x e[a]!) e j i) ?_ ?_
        · refine aw_loop (fun y : Nat × Nat => mk 168 [(0, .hs (0, s) 0 n cap), (1, int a), (10, int y.1), (11, int j)] ⟨rowH_u32 s e tl, [], y.2, 1⟩) (fun y => i ≤ y.1 ∧ y.1 ≤ n + 2 ∧ Go.Sort.scanUp (fun x => Go.Sort.ltInt x e[a]!) e j y.1 = Go.Sort.scanUp (fun x => Go.Sort.ltInt x e[a]!) e j i) (fun y => j + 1 - y.1) ?_ ?_
          · exact ⟨(i, _), ⟨Nat.le_refl _, (by dsimp only; omega), rfl⟩, ele_tell _ _ rfl rfl (List.Sublist.refl _) .slnil (BxLe.refl _) trivial ⟨AVle.refl _, AVle.refl _, AVle.refl _, AVle.refl _, trivial⟩⟩
          · rintro ⟨k, nx1⟩ ⟨h1, h2, h3⟩
            dsimp only at h1 h2 h3
            by_cases hij : k ≤ j
            · have hd : decide (((k : Nat) : Int) ≤ ((j : Nat) : Int)) = true := decide_eq_true (by omega)
              (repeat((conv=>whnf);first|apply ω0|apply ω1|apply ω2|refine τ3 rfl ?_|refine τ4 rfl ?_|refine ⟨rfl,?_⟩|apply τa|refine τb rfl ?_|refine ⟨⟨by kernel_rfl,by kernel_rfl⟩,?_⟩|refine ⟨by decide,?_⟩|apply τt|apply τf))
              (refine aw_draw 14 ?_ ?_ ?_ ?_; (· kernel_rfl); (· kernel_rfl); (· kernel_rfl))
              (repeat((conv=>whnf);first|apply ω0|apply ω1|apply ω2|refine τ3 rfl ?_|refine τ4 rfl ?_|refine ⟨rfl,?_⟩|apply τa|refine τb rfl ?_|refine ⟨⟨by kernel_rfl,by kernel_rfl⟩,?_⟩|refine ⟨by decide,?_⟩|apply τt|apply τf))
              (conv => whnf)
              refine lit_eq hd ?_
              (repeat((conv=>whnf);first|apply ω0|apply ω1|apply ω2|refine τ3 rfl ?_|refine τ4 rfl ?_|refine ⟨rfl,?_⟩|apply τa|refine τb rfl ?_|refine ⟨⟨by kernel_rfl,by kernel_rfl⟩,?_⟩|refine ⟨by decide,?_⟩|apply τt|apply τf))
              refine ⟨⟨ixge (i := k) (rfl), ixlt (i := k) (rfl) (by omega)⟩, splitO_eq (b := .bp (0, s) (k)) (congrArg (AV.bp (0, s)) (ixof (i := k) c_u32 (rfl))) ?_⟩
              (conv => whnf)
              refine ⟨⟨rfl, rowG_in (show k < e.size by omega)⟩, splitO_eq (b := eA_u32 e[k]!) (rowG_get (show k < e.size by omega)) ?_⟩
              (repeat((conv=>whnf);first|apply ω0|apply ω1|apply ω2|refine τ3 rfl ?_|refine τ4 rfl ?_|refine ⟨rfl,?_⟩|apply τa|refine τb rfl ?_|refine ⟨⟨by kernel_rfl,by kernel_rfl⟩,?_⟩|refine ⟨by decide,?_⟩|apply τt|apply τf))
              refine ⟨⟨ixge (i := a) (rfl), ixlt (i := a) (rfl) (by omega)⟩, splitO_eq (b := .bp (0, s) (a)) (congrArg (AV.bp (0, s)) (ixof (i := a) c_u32 (rfl))) ?_⟩
              (conv => whnf)
              refine ⟨⟨rfl, rowG_in (show a < e.size by omega)⟩, splitO_eq (b := eA_u32 e[a]!) (rowG_get (show a < e.size by omega)) ?_⟩
              (repeat((conv=>whnf);first|apply ω0|apply ω1|apply ω2|refine τ3 rfl ?_|refine τ4 rfl ?_|refine ⟨rfl,?_⟩|apply τa|refine τb rfl ?_|refine ⟨⟨by kernel_rfl,by kernel_rfl⟩,?_⟩|refine ⟨by decide,?_⟩|apply τt|apply τf))
              refine ex_yields (yields_tells rfl rfl (less_u32 e[k]! e[a]!) ⟨AVle.refl _, AVle.refl _, trivial⟩ (NoId.v _)) ?_
              (repeat((conv=>whnf);first|apply ω0|apply ω1|apply ω2|refine τ3 rfl ?_|refine τ4 rfl ?_|refine ⟨rfl,?_⟩|apply τa|refine τb rfl ?_|refine ⟨⟨by kernel_rfl,by kernel_rfl⟩,?_⟩|refine ⟨by decide,?_⟩|apply τt|apply τf))
              intro c hlt; cases c
              · have hl : (fun x => Go.Sort.ltInt x e[a]!) e[k]! = false := hlt.symm
                rw [scanG_up_end (p := fun x => Go.Sort.ltInt x e[a]!) (d := e) (i := k) (fun hh => Bool.false_ne_true (hl.symm.trans hh.2))] at h3
                (repeat((conv=>whnf);first|apply ω0|apply ω1|apply ω2|refine τ3 rfl ?_|refine τ4 rfl ?_|refine ⟨rfl,?_⟩|apply τa|refine τb rfl ?_|refine ⟨⟨by kernel_rfl,by kernel_rfl⟩,?_⟩|refine ⟨by decide,?_⟩|apply τt|apply τf))
                exact ⟨(k, nx1), ⟨h1, h2, h3⟩, ele_tell _ _ rfl rfl (List.Sublist.refl _) .slnil (BxLe.refl _) trivial ⟨AVle.refl _, AVle.refl _, AVle.refl _, AVle.refl _, trivial⟩⟩
              · have hl : (fun x => Go.Sort.ltInt x e[a]!) e[k]! = true := hlt.symm
                rw [scanG_up_go (p := fun x => Go.Sort.ltInt x e[a]!) (d := e) (i := k) hij hl] at h3
                (repeat((conv=>whnf);first|apply ω0|apply ω1|apply ω2|refine τ3 rfl ?_|refine τ4 rfl ?_|refine ⟨rfl,?_⟩|apply τa|refine τb rfl ?_|refine ⟨⟨by kernel_rfl,by kernel_rfl⟩,?_⟩|refine ⟨by decide,?_⟩|apply τt|apply τf))
                exact back (k + 1, nx1) ⟨by dsimp only; omega, by dsimp only; omega, h3⟩ (by dsimp only; omega) (ele_tell _ _ rfl rfl (List.Sublist.refl _) .slnil (BxLe.refl _) trivial ⟨AVle.refl _, AVle.refl _, le_int (wrap_succ (by dsimp only; omega)), AVle.refl _, trivial⟩)
            · have hd : decide (((k : Nat) : Int) ≤ ((j : Nat) : Int)) = false := decide_eq_false (by omega)
              rw [scanG_up_end (p := fun x => Go.Sort.ltInt x e[a]!) (d := e) (i := k) (fun hh => hij hh.1)] at h3
              (repeat((conv=>whnf);first|apply ω0|apply ω1|apply ω2|refine τ3 rfl ?_|refine τ4 rfl ?_|refine ⟨rfl,?_⟩|apply τa|refine τb rfl ?_|refine ⟨⟨by kernel_rfl,by kernel_rfl⟩,?_⟩|refine ⟨by decide,?_⟩|apply τt|apply τf))
              (refine aw_draw 14 ?_ ?_ ?_ ?_; (· kernel_rfl); (· kernel_rfl); (· kernel_rfl))
              (repeat((conv=>whnf);first|apply ω0|apply ω1|apply ω2|refine τ3 rfl ?_|refine τ4 rfl ?_|refine ⟨rfl,?_⟩|apply τa|refine τb rfl ?_|refine ⟨⟨by kernel_rfl,by kernel_rfl⟩,?_⟩|refine ⟨by decide,?_⟩|apply τt|apply τf))
              (conv => whnf)
              refine lit_eq hd ?_
              (repeat((conv=>whnf);first|apply ω0|apply ω1|apply ω2|refine τ3 rfl ?_|refine τ4 rfl ?_|refine ⟨rfl,?_⟩|apply τa|refine τb rfl ?_|refine ⟨⟨by kernel_rfl,by kernel_rfl⟩,?_⟩|refine ⟨by decide,?_⟩|apply τt|apply τf))
              exact ⟨(k, nx1), ⟨h1, h2, h3⟩, ele_tell _ _ rfl rfl (List.Sublist.refl _) .slnil (BxLe.refl _) trivial ⟨AVle.refl _, AVle.refl _, AVle.refl _, AVle.refl _, trivial⟩⟩
        rintro ⟨i2, nx4⟩ ⟨hi1, hi2, hi3⟩
        dsimp only at hi1 hi2 hi3
        rw [← hi3] at m5
        have hi1 : 1 ≤ i2 := by omega
        (repeat((conv=>whnf);first|apply ω0|apply ω1|apply ω2|refine τ3 rfl ?_|refine τ4 rfl ?_|refine ⟨rfl,?_⟩|apply τa|refine τb rfl ?_|refine ⟨⟨by kernel_rfl,by kernel_rfl⟩,?_⟩|refine ⟨by decide,?_⟩|apply τt|apply τf))
        refine aw_midB (fun y : Nat × Nat => mk 168 [(0, .hs (0, s) 0 n cap), (1, int a), (10, int i2), (11, int y.1)] ⟨rowH_u32 s e tl, [], y.2, 1⟩) (fun y => y.1 ≤ j ∧ y.1 = Go.Sort.scanDown (fun x => !Go.Sort.ltInt x e[a]!) e i2 j) ?_ ?_
        · refine aw_loop (fun y : Nat × Nat => mk 168 [(0, .hs (0, s) 0 n cap), (1, int a), (10, int i2), (11, int y.1)] ⟨rowH_u32 s e tl, [], y.2, 1⟩) (fun y => y.1 ≤ j ∧ Go.Sort.scanDown (fun x => !Go.Sort.ltInt x e[a]!) e i2 y.1 = Go.Sort.scanDown (fun x => !Go.Sort.ltInt x e[a]!) e i2 j) (fun y => y.1) ?_ ?_
          · exact ⟨(j, _), ⟨Nat.le_refl _, rfl⟩, ele_tell _ _ rfl rfl (List.Sublist.refl _) .slnil (BxLe.refl _) trivial ⟨AVle.refl _, AVle.refl _, AVle.refl _, AVle.refl _, trivial⟩⟩
          · rintro ⟨k, nx1⟩ ⟨h2, h3⟩
            dsimp only at h2 h3
            by_cases hij : i2 ≤ k
            · have hd : decide (((i2 : Nat) : Int) ≤ ((k : Nat) : Int)) = true := decide_eq_true (by omega)
              (repeat((conv=>whnf);first|apply ω0|apply ω1|apply ω2|refine τ3 rfl ?_|refine τ4 rfl ?_|refine ⟨rfl,?_⟩|apply τa|refine τb rfl ?_|refine ⟨⟨by kernel_rfl,by kernel_rfl⟩,?_⟩|refine ⟨by decide,?_⟩|apply τt|apply τf))
              (refine aw_draw 15 ?_ ?_ ?_ ?_; (· kernel_rfl); (· kernel_rfl); (· kernel_rfl))
              (repeat((conv=>whnf);first|apply ω0|apply ω1|apply ω2|refine τ3 rfl ?_|refine τ4 rfl ?_|refine ⟨rfl,?_⟩|apply τa|refine τb rfl ?_|refine ⟨⟨by kernel_rfl,by kernel_rfl⟩,?_⟩|refine ⟨by decide,?_⟩|apply τt|apply τf))
              (conv => whnf)
              refine lit_eq hd ?_
              (repeat((conv=>whnf);first|apply ω0|apply ω1|apply ω2|refine τ3 rfl ?_|refine τ4 rfl ?_|refine ⟨rfl,?_⟩|apply τa|refine τb rfl ?_|refine ⟨⟨by kernel_rfl,by kernel_rfl⟩,?_⟩|refine ⟨by decide,?_⟩|apply τt|apply τf))
              refine ⟨⟨ixge (i := k) (rfl), ixlt (i := k) (rfl) (by omega)⟩, splitO_eq (b := .bp (0, s) (k)) (congrArg (AV.bp (0, s)) (ixof (i := k) c_u32 (rfl))) ?_⟩
              (conv => whnf)
              refine ⟨⟨rfl, rowG_in (show k < e.size by omega)⟩, splitO_eq (b := eA_u32 e[k]!) (rowG_get (show k < e.size by omega)) ?_⟩
              (repeat((conv=>whnf);first|apply ω0|apply ω1|apply ω2|refine τ3 rfl ?_|refine τ4 rfl ?_|refine ⟨rfl,?_⟩|apply τa|refine τb rfl ?_|refine ⟨⟨by kernel_rfl,by kernel_rfl⟩,?_⟩|refine ⟨by decide,?_⟩|apply τt|apply τf))
              refine ⟨⟨ixge (i := a) (rfl), ixlt (i := a) (rfl) (by omega)⟩, splitO_eq (b := .bp (0, s) (a)) (congrArg (AV.bp (0, s)) (ixof (i := a) c_u32 (rfl))) ?_⟩
              (conv => whnf)
              refine ⟨⟨rfl, rowG_in (show a < e.size by omega)⟩, splitO_eq (b := eA_u32 e[a]!) (rowG_get (show a < e.size by omega)) ?_⟩
              (repeat((conv=>whnf);first|apply ω0|apply ω1|apply ω2|refine τ3 rfl ?_|refine τ4 rfl ?_|refine ⟨rfl,?_⟩|apply τa|refine τb rfl ?_|refine ⟨⟨by kernel_rfl,by kernel_rfl⟩,?_⟩|refine ⟨by decide,?_⟩|apply τt|apply τf))
              refine ex_yields (yields_tells rfl rfl (less_u32 e[k]! e[a]!) ⟨AVle.refl _, AVle.refl _, trivial⟩ (NoId.v _)) ?_
              (repeat((conv=>whnf);first|apply ω0|apply ω1|apply ω2|refine τ3 rfl ?_|refine τ4 rfl ?_|refine ⟨rfl,?_⟩|apply τa|refine τb rfl ?_|refine ⟨⟨by kernel_rfl,by kernel_rfl⟩,?_⟩|refine ⟨by decide,?_⟩|apply τt|apply τf))
              intro c hlt; cases c
              · have hl : (fun x => !Go.Sort.ltInt x e[a]!) e[k]! = true := (congrArg Bool.not hlt).symm
                rw [scanG_dn_go (p := fun x => !Go.Sort.ltInt x e[a]!) (d := e) (j := k) (by omega) hij hl] at h3
                (repeat((conv=>whnf);first|apply ω0|apply ω1|apply ω2|refine τ3 rfl ?_|refine τ4 rfl ?_|refine ⟨rfl,?_⟩|apply τa|refine τb rfl ?_|refine ⟨⟨by kernel_rfl,by kernel_rfl⟩,?_⟩|refine ⟨by decide,?_⟩|apply τt|apply τf))
                exact back (k - 1, nx1) ⟨by dsimp only; omega, h3⟩ (by dsimp only; omega) (ele_tell _ _ rfl rfl (List.Sublist.refl _) .slnil (BxLe.refl _) trivial ⟨AVle.refl _, AVle.refl _, AVle.refl _, le_int (by rw [wrap_id (by dsimp only; omega) (by dsimp only; omega)]; dsimp only; omega), trivial⟩)
              · have hl : (fun x => !Go.Sort.ltInt x e[a]!) e[k]! = false := (congrArg Bool.not hlt).symm
                rw [scanG_dn_end (p := fun x => !Go.Sort.ltInt x e[a]!) (d := e) (j := k) (fun hh => Bool.false_ne_true (hl.symm.trans hh.2))] at h3
                (repeat((conv=>whnf);first|apply ω0|apply ω1|apply ω2|refine τ3 rfl ?_|refine τ4 rfl ?_|refine ⟨rfl,?_⟩|apply τa|refine τb rfl ?_|refine ⟨⟨by kernel_rfl,by kernel_rfl⟩,?_⟩|refine ⟨by decide,?_⟩|apply τt|apply τf))
                exact ⟨(k, nx1), ⟨h2, h3⟩, ele_tell _ _ rfl rfl (List.Sublist.refl _) .slnil (BxLe.refl _) trivial ⟨AVle.refl _, AVle.refl _, AVle.refl _, AVle.refl _, trivial⟩⟩
            · have hd : decide (((i2 : Nat) : Int) ≤ ((k : Nat) : Int)) = false := decide_eq_false (by omega)
              rw [scanG_dn_end (p := fun x => !Go.Sort.ltInt x e[a]!) (d := e) (j := k) (fun hh => hij hh.1)] at h3
              (repeat((conv=>whnf);first|apply ω0|apply ω1|apply ω2|refine τ3 rfl ?_|refine τ4 rfl ?_|refine ⟨rfl,?_⟩|apply τa|refine τb rfl ?_|refine ⟨⟨by kernel_rfl,by kernel_rfl⟩,?_⟩|refine ⟨by decide,?_⟩|apply τt|apply τf))
              (refine aw_draw 15 ?_ ?_ ?_ ?_; (· kernel_rfl); (· kernel_rfl); (· kernel_rfl))
              (repeat((conv=>whnf);first|apply ω0|apply ω1|apply ω2|refine τ3 rfl ?_|refine τ4 rfl ?_|refine ⟨rfl,?_⟩|apply τa|refine τb rfl ?_|refine ⟨⟨by kernel_rfl,by kernel_rfl⟩,?_⟩|refine ⟨by decide,?_⟩|apply τt|apply τf))
              (conv => whnf)
              refine lit_eq hd ?_
              (repeat((conv=>whnf);first|apply ω0|apply ω1|apply ω2|refine τ3 rfl ?_|refine τ4 rfl ?_|refine ⟨rfl,?_⟩|apply τa|refine τb rfl ?_|refine ⟨⟨by kernel_rfl,by kernel_rfl⟩,?_⟩|refine ⟨by decide,?_⟩|apply τt|apply τf))
              exact ⟨(k, nx1), ⟨h2, h3⟩, ele_tell _ _ rfl rfl (List.Sublist.refl _) .slnil (BxLe.refl _) trivial ⟨AVle.refl _, AVle.refl _, AVle.refl _, AVle.refl _, trivial⟩⟩
        rintro ⟨j2, nx5⟩ ⟨hj1, hj2⟩
        dsimp only at hj1 hj2
        rw [← hj2] at m5
        (repeat((conv=>whnf);first|apply ω0|apply ω1|apply ω2|refine τ3 rfl ?_|refine τ4 rfl ?_|refine ⟨rfl,?_⟩|apply τa|refine τb rfl ?_|refine ⟨⟨by kernel_rfl,by kernel_rfl⟩,?_⟩|refine ⟨by decide,?_⟩|apply τt|apply τf))
        intro c g; cases c
        · have g := not_of g
          try dsimp only at g
          rw [if_neg (by omega)] at m5
          (repeat((conv=>whnf);first|apply ω0|apply ω1|apply ω2|refine τ3 rfl ?_|refine τ4 rfl ?_|refine ⟨rfl,?_⟩|apply τa|refine τb rfl ?_|refine ⟨⟨by kernel_rfl,by kernel_rfl⟩,?_⟩|refine ⟨by decide,?_⟩|apply τt|apply τf))
          refine aw_mix3 16 (fun i => match i with | 13 => true | 15 => true | _ => false) (fun i => match i with | 7 => true | 11 => true | _ => false) [0, 1, 2, 3, 4, 5, 6, 8, 9, 10, 7, 11, 12, 13, 14, 15] (by kernel_rfl) (by kernel_rfl) ?_
          (conv => whnf)
          refine ⟨⟨ixge (i := j2) (rfl), ixlt (i := j2) (rfl) (by omega)⟩, ?_⟩
          (conv => whnf)
          refine ⟨⟨ixge (i := i2) (rfl), ixlt (i := i2) (rfl) (by omega)⟩, ?_⟩
          (conv => whnf)
          refine ⟨eA_u32 e[j2]!, now_row (E := eA_u32) (d := e) (tl := tl) (j := j2) rfl rfl rfl (ixof (i := j2) c_u32 (rfl)) rfl u_u32 rfl (by omega), ?_⟩
          (conv => whnf)
          refine ⟨eA_u32 e[i2]!, now_row (E := eA_u32) (d := e) (tl := tl) (j := i2) rfl rfl rfl (ixof (i := i2) c_u32 (rfl)) rfl u_u32 rfl (by omega), ?_⟩
          (conv => whnf)
          refine ⟨⟨ixge (i := i2) (rfl), ixlt (i := i2) (rfl) (by omega)⟩, ?_⟩
          (conv => whnf)
          refine ⟨_, eff_row (E := eA_u32) (d := e) (tl := tl) (j := i2) (z := e[j2]!) rfl rfl rfl rfl (ixof (i := i2) c_u32 (rfl)) rfl rfl rfl rfl (by kernel_rfl) c_u32 (by omega), fun r0 h0 hr0 => ?_⟩
          subst hr0
          (conv => whnf)
          refine ⟨⟨ixge (i := j2) (rfl), ixlt (i := j2) (rfl) (by omega)⟩, ?_⟩
          (conv => whnf)
          refine ⟨_, eff_row (E := eA_u32) (d := (e).setIfInBounds (i2) e[j2]!) (tl := tl) (j := j2) (z := e[i2]!) rfl rfl rfl rfl (ixof (i := j2) c_u32 (rfl)) rfl rfl rfl rfl (by kernel_rfl) c_u32 (by simp; omega), fun r0 h0 hr0 => ?_⟩
          subst hr0
          (repeat((conv=>whnf);first|apply ω0|apply ω1|apply ω2|refine τ3 rfl ?_|refine τ4 rfl ?_|refine ⟨rfl,?_⟩|apply τa|refine τb rfl ?_|refine ⟨⟨by kernel_rfl,by kernel_rfl⟩,?_⟩|refine ⟨by decide,?_⟩|apply τt|apply τf))
          exact back (Go.Sort.swp e i2 j2, (i2 + 1, j2 - 1), nx5) ⟨by dsimp only; rw [swpG_size]; exact m1, by first | omega | (dsimp only; omega), by first | omega | (dsimp only; omega), by first | omega | (dsimp only; omega), m5⟩ (by first | omega | (dsimp only; omega)) (ele_tell _ _ rfl rfl (List.Sublist.refl _) .slnil (BxLe.refl _) trivial ⟨AVle.refl _, AVle.refl _, le_int (wrap_succ (by first | omega | (dsimp only; omega))), le_int (by rw [wrap_id (by first | omega | (dsimp only; omega)) (by first | omega | (dsimp only; omega))]; dsimp only; omega), trivial⟩)
        · have g := yes_of g
          try dsimp only at g
          rw [if_pos (by omega)] at m5
          (repeat((conv=>whnf);first|apply ω0|apply ω1|apply ω2|refine τ3 rfl ?_|refine τ4 rfl ?_|refine ⟨rfl,?_⟩|apply τa|refine τb rfl ?_|refine ⟨⟨by kernel_rfl,by kernel_rfl⟩,?_⟩|refine ⟨by decide,?_⟩|apply τt|apply τf))
          exact ⟨(e, j2, nx5), ⟨m1, by first | omega | (dsimp only; omega), m5⟩, ele_tell _ _ rfl rfl (List.Sublist.refl _) .slnil (BxLe.refl _) trivial ⟨AVle.refl _, AVle.refl _, AVle.refl _, trivial⟩⟩
    · rintro ⟨e, j, nx3⟩ ⟨m1, m2, m3⟩
      dsimp only at m1 m2 m3
      rw [← m3] at hP
      subst hP
      dsimp only
      (repeat((conv=>whnf);first|apply ω0|apply ω1|apply ω2|refine τ3 rfl ?_|refine τ4 rfl ?_|refine ⟨rfl,?_⟩|apply τa|refine τb rfl ?_|refine ⟨⟨by kernel_rfl,by kernel_rfl⟩,?_⟩|refine ⟨by decide,?_⟩|apply τt|apply τf))
      refine aw_mix3 16 (fun i => match i with | 13 => true | 15 => true | _ => false) (fun i => match i with | 7 => true | 11 => true | _ => false) [0, 1, 2, 3, 4, 5, 6, 8, 9, 10, 7, 11, 12, 13, 14, 15] (by kernel_rfl) (by kernel_rfl) ?_
      (conv => whnf)
      refine ⟨⟨ixge (i := a) (rfl), ixlt (i := a) (rfl) (by omega)⟩, ?_⟩
      (conv => whnf)
      refine ⟨⟨ixge (i := j) (rfl), ixlt (i := j) (rfl) (by omega)⟩, ?_⟩
      (conv => whnf)
      refine ⟨eA_u32 e[a]!, now_row (E := eA_u32) (d := e) (tl := tl) (j := a) rfl rfl rfl (ixof (i := a) c_u32 (rfl)) rfl u_u32 rfl (by omega), ?_⟩
      (conv => whnf)
      refine ⟨eA_u32 e[j]!, now_row (E := eA_u32) (d := e) (tl := tl) (j := j) rfl rfl rfl (ixof (i := j) c_u32 (rfl)) rfl u_u32 rfl (by omega), ?_⟩
      (conv => whnf)
      refine ⟨⟨ixge (i := j) (rfl), ixlt (i := j) (rfl) (by omega)⟩, ?_⟩
      (conv => whnf)
      refine ⟨_, eff_row (E := eA_u32) (d := e) (tl := tl) (j := j) (z := e[a]!) rfl rfl rfl rfl (ixof (i := j) c_u32 (rfl)) rfl rfl rfl rfl (by kernel_rfl) c_u32 (by omega), fun r0 h0 hr0 => ?_⟩
      subst hr0
      (conv => whnf)
      refine ⟨⟨ixge (i := a) (rfl), ixlt (i := a) (rfl) (by omega)⟩, ?_⟩
      (conv => whnf)
      refine ⟨_, eff_row (E := eA_u32) (d := (e).setIfInBounds (j) e[a]!) (tl := tl) (j := a) (z := e[j]!) rfl rfl rfl rfl (ixof (i := a) c_u32 (rfl)) rfl rfl rfl rfl (by kernel_rfl) c_u32 (by simp; omega), fun r0 h0 hr0 => ?_⟩
      subst hr0
      (repeat((conv=>whnf);first|apply ω0|apply ω1|apply ω2|refine τ3 rfl ?_|refine τ4 rfl ?_|refine ⟨rfl,?_⟩|apply τa|refine τb rfl ?_|refine ⟨⟨by kernel_rfl,by kernel_rfl⟩,?_⟩|refine ⟨by decide,?_⟩|apply τt|apply τf))
      exact ret_is rfl ⟨_, _, AVle.refl _, hle_tell (rowH_u32 s (Go.Sort.swp e j a) tl) [] rfl (List.Sublist.refl _) .slnil (BxLe.refl _) (PmEq.refl _), false, _, 1, rfl, rfl⟩
  · have g := yes_of g
    try dsimp only at g
    have hP := (hnow i j hi3 hj2 (by omega))
    subst hP
    dsimp only
    (repeat((conv=>whnf);first|apply ω0|apply ω1|apply ω2|refine τ3 rfl ?_|refine τ4 rfl ?_|refine ⟨rfl,?_⟩|apply τa|refine τb rfl ?_|refine ⟨⟨by kernel_rfl,by kernel_rfl⟩,?_⟩|refine ⟨by decide,?_⟩|apply τt|apply τf))
    refine aw_mix3 16 (fun i => match i with | 13 => true | 15 => true | _ => false) (fun i => match i with | 7 => true | 11 => true | _ => false) [0, 1, 2, 3, 4, 5, 6, 8, 9, 10, 7, 11, 12, 13, 14, 15] (by kernel_rfl) (by kernel_rfl) ?_
    (conv => whnf)
    refine ⟨⟨ixge (i := a) (rfl), ixlt (i := a) (rfl) (by omega)⟩, ?_⟩
    (conv => whnf)
    refine ⟨⟨ixge (i := j) (rfl), ixlt (i := j) (rfl) (by omega)⟩, ?_⟩
    (conv => whnf)
    refine ⟨eA_u32 d[a]!, now_row (E := eA_u32) (d := d) (tl := tl) (j := a) rfl rfl rfl (ixof (i := a) c_u32 (rfl)) rfl u_u32 rfl (by omega), ?_⟩
    (conv => whnf)
    refine ⟨eA_u32 d[j]!, now_row (E := eA_u32) (d := d) (tl := tl) (j := j) rfl rfl rfl (ixof (i := j) c_u32 (rfl)) rfl u_u32 rfl (by omega), ?_⟩
    (conv => whnf)
    refine ⟨⟨ixge (i := j) (rfl), ixlt (i := j) (rfl) (by omega)⟩, ?_⟩
    (conv => whnf)
    refine ⟨_, eff_row (E := eA_u32) (d := d) (tl := tl) (j := j) (z := d[a]!) rfl rfl rfl rfl (ixof (i := j) c_u32 (rfl)) rfl rfl rfl rfl (by kernel_rfl) c_u32 (by omega), fun r0 h0 hr0 => ?_⟩
    subst hr0
    (conv => whnf)
    refine ⟨⟨ixge (i := a) (rfl), ixlt (i := a) (rfl) (by omega)⟩, ?_⟩
    (conv => whnf)
    refine ⟨_, eff_row (E := eA_u32) (d := (d).setIfInBounds (j) d[a]!) (tl := tl) (j := a) (z := d[j]!) rfl rfl rfl rfl (ixof (i := a) c_u32 (rfl)) rfl rfl rfl rfl (by kernel_rfl) c_u32 (by simp; omega), fun r0 h0 hr0 => ?_⟩
    subst hr0
    (repeat((conv=>whnf);first|apply ω0|apply ω1|apply ω2|refine τ3 rfl ?_|refine τ4 rfl ?_|refine ⟨rfl,?_⟩|apply τa|refine τb rfl ?_|refine ⟨⟨by kernel_rfl,by kernel_rfl⟩,?_⟩|refine ⟨by decide,?_⟩|apply τt|apply τf))
    exact ret_is rfl ⟨_, _, AVle.refl _, hle_tell (rowH_u32 s (Go.Sort.swp d j a) tl) [] rfl (List.Sublist.refl _) .slnil (BxLe.refl _) (PmEq.refl _), true, _, 1, rfl, rfl⟩
set_option maxHeartbeats 8000000 in
theorem parteq_u32 (d0 : Array (Int)) (tl : List AV) (n a b p : Nat) (hn : d0.size = n) (hap : a ≤ p) (hpb : p < b) (hb : b ≤ n) (hsz : n ≤ 1000000) (s cap nx : Nat) :
    ECall Tryz.prog 73 [.hs (0, s) 0 n cap, int a, int b, int p] ⟨rowH_u32 s d0 tl, [], nx, 1⟩ (fun r h' => ∃ nx' nn', r = int (Go.Sort.partitionEqual Go.Sort.ltInt d0 a b p).1 ∧ h' = ⟨rowH_u32 s (Go.Sort.partitionEqual Go.Sort.ltInt d0 a b p).2 tl, [], nx', nn'⟩) := by
  refine ECall.wk (ecall_of_aw Tryz.func73 rfl rfl ?_)
  (repeat((conv=>whnf);first|apply ω0|apply ω1|apply ω2|refine τ3 rfl ?_|refine τ4 rfl ?_|refine ⟨rfl,?_⟩|apply τa|refine τb rfl ?_|refine ⟨⟨by kernel_rfl,by kernel_rfl⟩,?_⟩|refine ⟨by decide,?_⟩|apply τt|apply τf))
  refine aw_mix3 16 (fun i => match i with | 13 => true | 15 => true | _ => false) (fun i => match i with | 7 => true | 11 => true | _ => false) [0, 1, 2, 3, 4, 5, 6, 8, 9, 10, 7, 11, 12, 13, 14, 15] (by kernel_rfl) (by kernel_rfl) ?_
  (conv => whnf)
  refine ⟨⟨ixge (i := p) (rfl), ixlt (i := p) (rfl) (by omega)⟩, ?_⟩
  (conv => whnf)
  refine ⟨⟨ixge (i := a) (rfl), ixlt (i := a) (rfl) (by omega)⟩, ?_⟩
  (conv => whnf)
  refine ⟨eA_u32 d0[p]!, now_row (E := eA_u32) (d := d0) (tl := tl) (j := p) rfl rfl rfl (ixof (i := p) c_u32 (rfl)) rfl u_u32 rfl (by omega), ?_⟩
  (conv => whnf)
  refine ⟨eA_u32 d0[a]!, now_row (E := eA_u32) (d := d0) (tl := tl) (j := a) rfl rfl rfl (ixof (i := a) c_u32 (rfl)) rfl u_u32 rfl (by omega), ?_⟩
  (conv => whnf)
  refine ⟨⟨ixge (i := a) (rfl), ixlt (i := a) (rfl) (by omega)⟩, ?_⟩
  (conv => whnf)
  refine ⟨_, eff_row (E := eA_u32) (d := d0) (tl := tl) (j := a) (z := d0[p]!) rfl rfl rfl rfl (ixof (i := a) c_u32 (rfl)) rfl rfl rfl rfl (by kernel_rfl) c_u32 (by omega), fun r0 h0 hr0 => ?_⟩
  subst hr0
  (conv => whnf)
  refine ⟨⟨ixge (i := p) (rfl), ixlt (i := p) (rfl) (by omega)⟩, ?_⟩
  (conv => whnf)
  refine ⟨_, eff_row (E := eA_u32) (d := (d0).setIfInBounds (a) d0[p]!) (tl := tl) (j := p) (z := d0[a]!) rfl rfl rfl rfl (ixof (i := p) c_u32 (rfl)) rfl rfl rfl rfl (by kernel_rfl) c_u32 (by simp; omega), fun r0 h0 hr0 => ?_⟩
  subst hr0
  (repeat((conv=>whnf);first|apply ω0|apply ω1|apply ω2|refine τ3 rfl ?_|refine τ4 rfl ?_|refine ⟨rfl,?_⟩|apply τa|refine τb rfl ?_|refine ⟨⟨by kernel_rfl,by kernel_rfl⟩,?_⟩|refine ⟨by decide,?_⟩|apply τt|apply τf))
  have h2n : (Go.Sort.swp d0 a p).size = n := by rw [swpG_size]; exact hn
  have hP : Go.Sort.partitionEqual Go.Sort.ltInt d0 a b p = Go.Sort.partEqLoop Go.Sort.ltInt a (a + 1) (b - 1) (Go.Sort.swp d0 a p) := rfl
  refine AW.le (E' := mk 84 [(0, .hs (0, s) 0 n cap), (1, int a), (9, int (a + 1 : Nat)), (10, int (b - 1 : Nat))] ⟨rowH_u32 s (Go.Sort.swp d0 a p) tl, [], nx, 1⟩) (ele_tell _ _ rfl rfl (List.Sublist.refl _) .slnil (BxLe.refl _) trivial ⟨AVle.refl _, AVle.refl _, le_int (wrap_succ (by omega)), le_int (by rw [wrap_id (by omega) (by omega)]; omega), trivial⟩) ?_
  have hi1' : 1 ≤ a + 1 := by omega
  have hi2' : a + 1 ≤ n + 2 := by omega
  have hj1' : b - 1 < n := by omega
  generalize Go.Sort.partitionEqual Go.Sort.ltInt d0 a b p = Pt at hP ⊢
  generalize Go.Sort.swp d0 a p = e0 at hP h2n ⊢
  generalize a + 1 = i0 at hP hi1' hi2' ⊢
  generalize b - 1 = j0 at hP hj1' ⊢
  refine aw_midB (fun y : Array (Int) × Nat × Nat => mk 84 [(0, .hs (0, s) 0 n cap), (1, int a), (9, int y.2.1)] ⟨rowH_u32 s y.1 tl, [], y.2.2, 1⟩) (fun y => (y.2.1, y.1) = Go.Sort.partEqLoop Go.Sort.ltInt a i0 j0 e0) ?_ ?_
  · refine aw_loop (fun y : Array (Int) × (Nat × Nat) × Nat => mk 84 [(0, .hs (0, s) 0 n cap), (1, int a), (9, int y.2.1.1), (10, int y.2.1.2)] ⟨rowH_u32 s y.1 tl, [], y.2.2, 1⟩) (fun y => y.1.size = n ∧ 1 ≤ y.2.1.1 ∧ y.2.1.1 ≤ n + 2 ∧ y.2.1.2 < n ∧ Go.Sort.partEqLoop Go.Sort.ltInt a y.2.1.1 y.2.1.2 y.1 = Go.Sort.partEqLoop Go.Sort.ltInt a i0 j0 e0) (fun y => y.2.1.2 + 1 - y.2.1.1) ?_ ?_
    · exact ⟨(e0, (i0, j0), _), ⟨h2n, hi1', hi2', hj1', rfl⟩, ele_tell _ _ rfl rfl (List.Sublist.refl _) .slnil (BxLe.refl _) trivial ⟨AVle.refl _, AVle.refl _, AVle.refl _, AVle.refl _, trivial⟩⟩
    · rintro ⟨e, ⟨i, j⟩, nx3⟩ ⟨m1, m2, m3, m4, m5⟩
      dsimp only at m1 m2 m3 m4 m5
      rw [Go.Sort.partEqLoop_eq] at m5
      (repeat((conv=>whnf);first|apply ω0|apply ω1|apply ω2|refine τ3 rfl ?_|refine τ4 rfl ?_|refine ⟨rfl,?_⟩|apply τa|refine τb rfl ?_|refine ⟨⟨by kernel_rfl,by kernel_rfl⟩,?_⟩|refine ⟨by decide,?_⟩|apply τt|apply τf))
      refine aw_midB (fun y : Nat × Nat => mk 84 [(0, .hs (0, s) 0 n cap), (1, int a), (9, int y.1), (10, int j)] ⟨rowH_u32 s e tl, [], y.2, 1⟩) (fun y => i ≤ y.1 ∧ y.1 ≤ n + 2 ∧ y.1 = Go.Sort.scanUp (fun x => !Go.Sort.ltInt e[a]! x) e j i) ?_ ?_
      · refine aw_loop (fun y : Nat × Nat => mk 84 [(0, .hs (0, s) 0 n cap), (1, int a), (9, int y.1), (10, int j)] ⟨rowH_u32 s e tl, [], y.2, 1⟩) (fun y => i ≤ y.1 ∧ y.1 ≤ n + 2 ∧ Go.Sort.scanUp (fun x => !Go.Sort.ltInt e[a]! x) e j y.1 = Go.Sort.scanUp (fun x => !Go.Sort.ltInt e[a]! x) e j i) (fun y => j + 1 - y.1) ?_ ?_
        · exact ⟨(i, _), ⟨Nat.le_refl _, (by dsimp only; omega), rfl⟩, ele_tell _ _ rfl rfl (List.Sublist.refl _) .slnil (BxLe.refl _) trivial ⟨AVle.refl _, AVle.refl _, AVle.refl _, AVle.refl _, trivial⟩⟩
        · rintro ⟨k, nx1⟩ ⟨h1, h2, h3⟩
          dsimp only at h1 h2 h3
          by_cases hij : k ≤ j
          · have hd : decide (((k : Nat) : Int) ≤ ((j : Nat) : Int)) = true := decide_eq_true (by omega)
            (repeat((conv=>whnf);first|apply ω0|apply ω1|apply ω2|refine τ3 rfl ?_|refine τ4 rfl ?_|refine ⟨rfl,?_⟩|apply τa|refine τb rfl ?_|refine ⟨⟨by kernel_rfl,by kernel_rfl⟩,?_⟩|refine ⟨by decide,?_⟩|apply τt|apply τf))
            (refine aw_draw 15 ?_ ?_ ?_ ?_; (· kernel_rfl); (· kernel_rfl); (· kernel_rfl))
            (repeat((conv=>whnf);first|apply ω0|apply ω1|apply ω2|refine τ3 rfl ?_|refine τ4 rfl ?_|refine ⟨rfl,?_⟩|apply τa|refine τb rfl ?_|refine ⟨⟨by kernel_rfl,by kernel_rfl⟩,?_⟩|refine ⟨by decide,?_⟩|apply τt|apply τf))
            (conv => whnf)
            refine lit_eq hd ?_
            (repeat((conv=>whnf);first|apply ω0|apply ω1|apply ω2|refine τ3 rfl ?_|refine τ4 rfl ?_|refine ⟨rfl,?_⟩|apply τa|refine τb rfl ?_|refine ⟨⟨by kernel_rfl,by kernel_rfl⟩,?_⟩|refine ⟨by decide,?_⟩|apply τt|apply τf))
            refine ⟨⟨ixge (i := a) (rfl), ixlt (i := a) (rfl) (by omega)⟩, splitO_eq (b := .bp (0, s) (a)) (congrArg (AV.bp (0, s)) (ixof (i := a) c_u32 (rfl))) ?_⟩
            (conv => whnf)
            refine ⟨⟨rfl, rowG_in (show a < e.size by omega)⟩, splitO_eq (b := eA_u32 e[a]!) (rowG_get (show a < e.size by omega)) ?_⟩
            (repeat((conv=>whnf);first|apply ω0|apply ω1|apply ω2|refine τ3 rfl ?_|refine τ4 rfl ?_|refine ⟨rfl,?_⟩|apply τa|refine τb rfl ?_|refine ⟨⟨by kernel_rfl,by kernel_rfl⟩,?_⟩|refine ⟨by decide,?_⟩|apply τt|apply τf))
            refine ⟨⟨ixge (i := k) (rfl), ixlt (i := k) (rfl) (by omega)⟩, splitO_eq (b := .bp (0, s) (k)) (congrArg (AV.bp (0, s)) (ixof (i := k) c_u32 (rfl))) ?_⟩
            (conv => whnf)
            refine ⟨⟨rfl, rowG_in (show k < e.size by omega)⟩, splitO_eq (b := eA_u32 e[k]!) (rowG_get (show k < e.size by omega)) ?_⟩
            (repeat((conv=>whnf);first|apply ω0|apply ω1|apply ω2|refine τ3 rfl ?_|refine τ4 rfl ?_|refine ⟨rfl,?_⟩|apply τa|refine τb rfl ?_|refine ⟨⟨by kernel_rfl,by kernel_rfl⟩,?_⟩|refine ⟨by decide,?_⟩|apply τt|apply τf))
            refine ex_yields (yields_tells rfl rfl (less_u32 e[a]! e[k]!) ⟨AVle.refl _, AVle.refl _, trivial⟩ (NoId.v _)) ?_
            (repeat((conv=>whnf);first|apply ω0|apply ω1|apply ω2|refine τ3 rfl ?_|refine τ4 rfl ?_|refine ⟨rfl,?_⟩|apply τa|refine τb rfl ?_|refine ⟨⟨by kernel_rfl,by kernel_rfl⟩,?_⟩|refine ⟨by decide,?_⟩|apply τt|apply τf))
            intro c hlt; cases c
            · have hl : (fun x => !Go.Sort.ltInt e[a]! x) e[k]! = true := (congrArg Bool.not hlt).symm
              rw [scanG_up_go (p := fun x => !Go.Sort.ltInt e[a]! x) (d := e) (i := k) hij hl] at h3
              (repeat((conv=>whnf);first|apply ω0|apply ω1|apply ω2|refine τ3 rfl ?_|refine τ4 rfl ?_|refine ⟨rfl,?_⟩|apply τa|refine τb rfl ?_|refine ⟨⟨by kernel_rfl,by kernel_rfl⟩,?_⟩|refine ⟨by decide,?_⟩|apply τt|apply τf))
              exact back (k + 1, nx1) ⟨by dsimp only; omega, by dsimp only; omega, h3⟩ (by dsimp only; omega) (ele_tell _ _ rfl rfl (List.Sublist.refl _) .slnil (BxLe.refl _) trivial ⟨AVle.refl _, AVle.refl _, le_int (wrap_succ (by dsimp only; omega)), AVle.refl _, trivial⟩)
            · have hl : (fun x => !Go.Sort.ltInt e[a]! x) e[k]! = false := (congrArg Bool.not hlt).symm
              rw [scanG_up_end (p := fun x => !Go.Sort.ltInt e[a]! x) (d := e) (i := k) (fun hh => Bool.false_ne_true (hl.symm.trans hh.2))] at h3
              (repeat((conv=>whnf);first|apply ω0|apply ω1|apply ω2|refine τ3 rfl ?_|refine τ4 rfl ?_|refine ⟨rfl,?_⟩|apply τa|refine τb rfl ?_|refine ⟨⟨by kernel_rfl,by kernel_rfl⟩,?_⟩|refine ⟨by decide,?_⟩|apply τt|apply τf))
              exact ⟨(k, nx1), ⟨h1, h2, h3⟩, ele_tell _ _ rfl rfl (List.Sublist.refl _) .slnil (BxLe.refl _) trivial ⟨AVle.refl _, AVle.refl _, AVle.refl _, AVle.refl _, trivial⟩⟩
          · have hd : decide (((k : Nat) : Int) ≤ ((j : Nat) : Int)) = false := decide_eq_false (by omega)
            rw [scanG_up_end (p := fun x => !Go.Sort.ltInt e[a]! x) (d := e) (i := k) (fun hh => hij hh.1)] at h3
            (repeat((conv=>whnf);first|apply ω0|apply ω1|apply ω2|refine τ3 rfl ?_|refine τ4 rfl ?_|refine ⟨rfl,?_⟩|apply τa|refine τb rfl ?_|refine ⟨⟨by kernel_rfl,by kernel_rfl⟩,?_⟩|refine ⟨by decide,?_⟩|apply τt|apply τf))
            (refine aw_draw 15 ?_ ?_ ?_ ?_; (· kernel_rfl); (· kernel_rfl); (· kernel_rfl))
            (repeat((conv=>whnf);first|apply ω0|apply ω1|apply ω2|refine τ3 rfl ?_|refine τ4 rfl ?_|refine ⟨rfl,?_⟩|apply τa|refine τb rfl ?_|refine ⟨⟨by kernel_rfl,by kernel_rfl⟩,?_⟩|refine ⟨by decide,?_⟩|apply τt|apply τf))
            (conv => whnf)
            refine lit_eq hd ?_
            (repeat((conv=>whnf);first|apply ω0|apply ω1|apply ω2|refine τ3 rfl ?_|refine τ4 rfl ?_|refine ⟨rfl,?_⟩|apply τa|refine τb rfl ?_|refine ⟨⟨by kernel_rfl,by kernel_rfl⟩,?_⟩|refine ⟨by decide,?_⟩|apply τt|apply τf))
            exact ⟨(k, nx1), ⟨h1, h2, h3⟩, ele_tell _ _ rfl rfl (List.Sublist.refl _) .slnil (BxLe.refl _) trivial ⟨AVle.refl _, AVle.refl _, AVle.refl _, AVle.refl _, trivial⟩⟩
      rintro ⟨i2, nx4⟩ ⟨hi1, hi2, hi3⟩
      dsimp only at hi1 hi2 hi3
      rw [← hi3] at m5
      have hi1 : 1 ≤ i2 := by omega
      (repeat((conv=>whnf);first|apply ω0|apply ω1|apply ω2|refine τ3 rfl ?_|refine τ4 rfl ?_|refine ⟨rfl,?_⟩|apply τa|refine τb rfl ?_|refine ⟨⟨by kernel_rfl,by kernel_rfl⟩,?_⟩|refine ⟨by decide,?_⟩|apply τt|apply τf))
      refine aw_midB (fun y : Nat × Nat => mk 84 [(0, .hs (0, s) 0 n cap), (1, int a), (9, int i2), (10, int y.1)] ⟨rowH_u32 s e tl, [], y.2, 1⟩) (fun y => y.1 ≤ j ∧ y.1 = Go.Sort.scanDown (fun x => Go.Sort.ltInt e[a]! x) e i2 j) ?_ ?_
      · refine aw_loop (fun y : Nat × Nat => mk 84 [(0, .hs (0, s) 0 n cap), (1, int a), (9, int i2), (10, int y.1)] ⟨rowH_u32 s e tl, [], y.2, 1⟩) (fun y => y.1 ≤ j ∧ Go.Sort.scanDown (fun x => Go.Sort.ltInt e[a]! x) e i2 y.1 = Go.Sort.scanDown (fun x => Go.Sort.ltInt e[a]! x) e i2 j) (fun y => y.1) ?_ ?_
        · exact ⟨(j, _), ⟨Nat.le_refl _, rfl⟩, ele_tell _ _ rfl rfl (List.Sublist.refl _) .slnil (BxLe.refl _) trivial ⟨AVle.refl _, AVle.refl _, AVle.refl _, AVle.refl _, trivial⟩⟩
        · rintro ⟨k, nx1⟩ ⟨h2, h3⟩
          dsimp only at h2 h3
          by_cases hij : i2 ≤ k
          · have hd : decide (((i2 : Nat) : Int) ≤ ((k : Nat) : Int)) = true := decide_eq_true (by omega)
            (repeat((conv=>whnf);first|apply ω0|apply ω1|apply ω2|refine τ3 rfl ?_|refine τ4 rfl ?_|refine ⟨rfl,?_⟩|apply τa|refine τb rfl ?_|refine ⟨⟨by kernel_rfl,by kernel_rfl⟩,?_⟩|refine ⟨by decide,?_⟩|apply τt|apply τf))
            (refine aw_draw 14 ?_ ?_ ?_ ?_; (· kernel_rfl); (· kernel_rfl); (· kernel_rfl))
            (repeat((conv=>whnf);first|apply ω0|apply ω1|apply ω2|refine τ3 rfl ?_|refine τ4 rfl ?_|refine ⟨rfl,?_⟩|apply τa|refine τb rfl ?_|refine ⟨⟨by kernel_rfl,by kernel_rfl⟩,?_⟩|refine ⟨by decide,?_⟩|apply τt|apply τf))
            (conv => whnf)
            refine lit_eq hd ?_
            (repeat((conv=>whnf);first|apply ω0|apply ω1|apply ω2|refine τ3 rfl ?_|refine τ4 rfl ?_|refine ⟨rfl,?_⟩|apply τa|refine τb rfl ?_|refine ⟨⟨by kernel_rfl,by kernel_rfl⟩,?_⟩|refine ⟨by decide,?_⟩|apply τt|apply τf))
            refine ⟨⟨ixge (i := a) (rfl), ixlt (i := a) (rfl) (by omega)⟩, splitO_eq (b := .bp (0, s) (a)) (congrArg (AV.bp (0, s)) (ixof (i := a) c_u32 (rfl))) ?_⟩
            (conv => whnf)
            refine ⟨⟨rfl, rowG_in (show a < e.size by omega)⟩, splitO_eq (b := eA_u32 e[a]!) (rowG_get (show a < e.size by omega)) ?_⟩
            (repeat((conv=>whnf);first|apply ω0|apply ω1|apply ω2|refine τ3 rfl ?_|refine τ4 rfl ?_|refine ⟨rfl,?_⟩|apply τa|refine τb rfl ?_|refine ⟨⟨by kernel_rfl,by kernel_rfl⟩,?_⟩|refine ⟨by decide,?_⟩|apply τt|apply τf))
            refine ⟨⟨ixge (i := k) (rfl), ixlt (i := k) (rfl) (by omega)⟩, splitO_eq (b := .bp (0, s) (k)) (congrArg (AV.bp (0, s)) (ixof (i := k) c_u32 (rfl))) ?_⟩
            (conv => whnf)
            refine ⟨⟨rfl, rowG_in (show k < e.size by omega)⟩, splitO_eq (b := eA_u32 e[k]!) (rowG_get (show k < e.size by omega)) ?_⟩
            (repeat((conv=>whnf);first|apply ω0|apply ω1|apply ω2|refine τ3 rfl ?_|refine τ4 rfl ?_|refine ⟨rfl,?_⟩|apply τa|refine τb rfl ?_|refine ⟨⟨by kernel_rfl,by kernel_rfl⟩,?_⟩|refine ⟨by decide,?_⟩|apply τt|apply τf))
            refine ex_yields (yields_tells rfl rfl (less_u32 e[a]! e[k]!) ⟨AVle.refl _, AVle.refl _, trivial⟩ (NoId.v _)) ?_
            (repeat((conv=>whnf);first|apply ω0|apply ω1|apply ω2|refine τ3 rfl ?_|refine τ4 rfl ?_|refine ⟨rfl,?_⟩|apply τa|refine τb rfl ?_|refine ⟨⟨by kernel_rfl,by kernel_rfl⟩,?_⟩|refine ⟨by decide,?_⟩|apply τt|apply τf))
            intro c hlt; cases c
            · have hl : (fun x => Go.Sort.ltInt e[a]! x) e[k]! = false := hlt.symm
              rw [scanG_dn_end (p := fun x => Go.Sort.ltInt e[a]! x) (d := e) (j := k) (fun hh => Bool.false_ne_true (hl.symm.trans hh.2))] at h3
              (repeat((conv=>whnf);first|apply ω0|apply ω1|apply ω2|refine τ3 rfl ?_|refine τ4 rfl ?_|refine ⟨rfl,?_⟩|apply τa|refine τb rfl ?_|refine ⟨⟨by kernel_rfl,by kernel_rfl⟩,?_⟩|refine ⟨by decide,?_⟩|apply τt|apply τf))
              exact ⟨(k, nx1), ⟨h2, h3⟩, ele_tell _ _ rfl rfl (List.Sublist.refl _) .slnil (BxLe.refl _) trivial ⟨AVle.refl _, AVle.refl _, AVle.refl _, AVle.refl _, trivial⟩⟩
            · have hl : (fun x => Go.Sort.ltInt e[a]! x) e[k]! = true := hlt.symm
              rw [scanG_dn_go (p := fun x => Go.Sort.ltInt e[a]! x) (d := e) (j := k) (by omega) hij hl] at h3
              (repeat((conv=>whnf);first|apply ω0|apply ω1|apply ω2|refine τ3 rfl ?_|refine τ4 rfl ?_|refine ⟨rfl,?_⟩|apply τa|refine τb rfl ?_|refine ⟨⟨by kernel_rfl,by kernel_rfl⟩,?_⟩|refine ⟨by decide,?_⟩|apply τt|apply τf))
              exact back (k - 1, nx1) ⟨by dsimp only; omega, h3⟩ (by dsimp only; omega) (ele_tell _ _ rfl rfl (List.Sublist.refl _) .slnil (BxLe.refl _) trivial ⟨AVle.refl _, AVle.refl _, AVle.refl _, le_int (by rw [wrap_id (by dsimp only; omega) (by dsimp only; omega)]; dsimp only; omega), trivial⟩)
          · have hd : decide (((i2 : Nat) : Int) ≤ ((k : Nat) : Int)) = false := decide_eq_false (by omega)
            rw [scanG_dn_end (p := fun x => Go.Sort.ltInt e[a]! x) (d := e) (j := k) (fun hh => hij hh.1)] at h3
            (repeat((conv=>whnf);first|apply ω0|apply ω1|apply ω2|refine τ3 rfl ?_|refine τ4 rfl ?_|refine ⟨rfl,?_⟩|apply τa|refine τb rfl ?_|refine ⟨⟨by kernel_rfl,by kernel_rfl⟩,?_⟩|refine ⟨by decide,?_⟩|apply τt|apply τf))
            (refine aw_draw 14 ?_ ?_ ?_ ?_; (· kernel_rfl); (· kernel_rfl); (· kernel_rfl))
            (repeat((conv=>whnf);first|apply ω0|apply ω1|apply ω2|refine τ3 rfl ?_|refine τ4 rfl ?_|refine ⟨rfl,?_⟩|apply τa|refine τb rfl ?_|refine ⟨⟨by kernel_rfl,by kernel_rfl⟩,?_⟩|refine ⟨by decide,?_⟩|apply τt|apply τf))
            (conv => whnf)
            refine lit_eq hd ?_
            (repeat((conv=>whnf);first|apply ω0|apply ω1|apply ω2|refine τ3 rfl ?_|refine τ4 rfl ?_|refine ⟨rfl,?_⟩|apply τa|refine τb rfl ?_|refine ⟨⟨by kernel_rfl,by kernel_rfl⟩,?_⟩|refine ⟨by decide,?_⟩|apply τt|apply τf))
            exact ⟨(k, nx1), ⟨h2, h3⟩, ele_tell _ _ rfl rfl (List.Sublist.refl _) .slnil (BxLe.refl _) trivial ⟨AVle.refl _, AVle.refl _, AVle.refl _, AVle.refl _, trivial⟩⟩
      rintro ⟨j2, nx5⟩ ⟨hj1, hj2⟩
      dsimp only at hj1 hj2
      rw [← hj2] at m5
      (repeat((conv=>whnf);first|apply ω0|apply ω1|apply ω2|refine τ3 rfl ?_|refine τ4 rfl ?_|refine ⟨rfl,?_⟩|apply τa|refine τb rfl ?_|refine ⟨⟨by kernel_rfl,by kernel_rfl⟩,?_⟩|refine ⟨by decide,?_⟩|apply τt|apply τf))
      intro c g; cases c
      · have g := not_of g
        try dsimp only at g
        rw [if_neg (by omega)] at m5
        (repeat((conv=>whnf);first|apply ω0|apply ω1|apply ω2|refine τ3 rfl ?_|refine τ4 rfl ?_|refine ⟨rfl,?_⟩|apply τa|refine τb rfl ?_|refine ⟨⟨by kernel_rfl,by kernel_rfl⟩,?_⟩|refine ⟨by decide,?_⟩|apply τt|apply τf))
        refine aw_mix3 16 (fun i => match i with | 13 => true | 15 => true | _ => false) (fun i => match i with | 7 => true | 11 => true | _ => false) [0, 1, 2, 3, 4, 5, 6, 8, 9, 10, 7, 11, 12, 13, 14, 15] (by kernel_rfl) (by kernel_rfl) ?_
        (conv => whnf)
        refine ⟨⟨ixge (i := j2) (rfl), ixlt (i := j2) (rfl) (by omega)⟩, ?_⟩
        (conv => whnf)
        refine ⟨⟨ixge (i := i2) (rfl), ixlt (i := i2) (rfl) (by omega)⟩, ?_⟩
        (conv => whnf)
        refine ⟨eA_u32 e[j2]!, now_row (E := eA_u32) (d := e) (tl := tl) (j := j2) rfl rfl rfl (ixof (i := j2) c_u32 (rfl)) rfl u_u32 rfl (by omega), ?_⟩
        (conv => whnf)
        refine ⟨eA_u32 e[i2]!, now_row (E := eA_u32) (d := e) (tl := tl) (j := i2) rfl rfl rfl (ixof (i := i2) c_u32 (rfl)) rfl u_u32 rfl (by omega), ?_⟩
        (conv => whnf)
        refine ⟨⟨ixge (i := i2) (rfl), ixlt (i := i2) (rfl) (by omega)⟩, ?_⟩
        (conv => whnf)
        refine ⟨_, eff_row (E := eA_u32) (d := e) (tl := tl) (j := i2) (z := e[j2]!) rfl rfl rfl rfl (ixof (i := i2) c_u32 (rfl)) rfl rfl rfl rfl (by kernel_rfl) c_u32 (by omega), fun r0 h0 hr0 => ?_⟩
        subst hr0
        (conv => whnf)
        refine ⟨⟨ixge (i := j2) (rfl), ixlt (i := j2) (rfl) (by omega)⟩, ?_⟩
        (conv => whnf)
        refine ⟨_, eff_row (E := eA_u32) (d := (e).setIfInBounds (i2) e[j2]!) (tl := tl) (j := j2) (z := e[i2]!) rfl rfl rfl rfl (ixof (i := j2) c_u32 (rfl)) rfl rfl rfl rfl (by kernel_rfl) c_u32 (by simp; omega), fun r0 h0 hr0 => ?_⟩
        subst hr0
        (repeat((conv=>whnf);first|apply ω0|apply ω1|apply ω2|refine τ3 rfl ?_|refine τ4 rfl ?_|refine ⟨rfl,?_⟩|apply τa|refine τb rfl ?_|refine ⟨⟨by kernel_rfl,by kernel_rfl⟩,?_⟩|refine ⟨by decide,?_⟩|apply τt|apply τf))
        exact back (Go.Sort.swp e i2 j2, (i2 + 1, j2 - 1), nx5) ⟨by dsimp only; rw [swpG_size]; exact m1, by first | omega | (dsimp only; omega), by first | omega | (dsimp only; omega), by first | omega | (dsimp only; omega), m5⟩ (by first | omega | (dsimp only; omega)) (ele_tell _ _ rfl rfl (List.Sublist.refl _) .slnil (BxLe.refl _) trivial ⟨AVle.refl _, AVle.refl _, le_int (wrap_succ (by first | omega | (dsimp only; omega))), le_int (by rw [wrap_id (by first | omega | (dsimp only; omega)) (by first | omega | (dsimp only; omega))]; dsimp only; omega), trivial⟩)
      · have g := yes_of g
        try dsimp only at g
        rw [if_pos (by omega)] at m5
        (repeat((conv=>whnf);first|apply ω0|apply ω1|apply ω2|refine τ3 rfl ?_|refine τ4 rfl ?_|refine ⟨rfl,?_⟩|apply τa|refine τb rfl ?_|refine ⟨⟨by kernel_rfl,by kernel_rfl⟩,?_⟩|refine ⟨by decide,?_⟩|apply τt|apply τf))
        exact ⟨(e, i2, nx5), m5, ele_tell _ _ rfl rfl (List.Sublist.refl _) .slnil (BxLe.refl _) trivial ⟨AVle.refl _, AVle.refl _, AVle.refl _, trivial⟩⟩
  · rintro ⟨e, i, nx3⟩ m3
    dsimp only at m3
    rw [← m3] at hP
    subst hP
    dsimp only
    (repeat((conv=>whnf);first|apply ω0|apply ω1|apply ω2|refine τ3 rfl ?_|refine τ4 rfl ?_|refine ⟨rfl,?_⟩|apply τa|refine τb rfl ?_|refine ⟨⟨by kernel_rfl,by kernel_rfl⟩,?_⟩|refine ⟨by decide,?_⟩|apply τt|apply τf))
    exact ret_is rfl ⟨_, _, AVle.refl _, hle_tell (rowH_u32 s e tl) [] rfl (List.Sublist.refl _) .slnil (BxLe.refl _) (PmEq.refl _), _, 1, rfl, rfl⟩
end Go.Proofs.W

namespace Go.Proofs
open Go.Shelf
shelf_lay Lays.n125 Nm 125 at Tryz as Tryz.lays125
end Go.Proofs
namespace Go.Proofs.W
open Go.Vl Go.Shelf
set_option maxRecDepth 100000

theorem bitsLen_spec (n : Nat) (hn : n ≤ 1000000000) : Tells Tryz.prog 60 [.v (.int .u64 (n : Int))] (.v (.int .i64 (Lib.bitLen n))) :=
  tells_of_calls (vs := [.int .u64 (n : Int)]) ⟨_, Tryz.func60, rfl, rfl⟩ fun w => (Any.bits_Len Tryz.lays125 (n : Int) w (by omega) (by omega)).mono fun e w' ⟨h1, h2⟩ => ⟨h1, by subst h2; exact ⟨rfl, rfl, rfl, Nat.le_refl _, fun _ _ => rfl⟩⟩
theorem bitLen_two {n : Nat} (h0 : 0 < n) (h1 : n ≤ 1000000000) : 2 ^ Lib.bitLen n ≤ 2 * n ∧ Lib.bitLen n ≤ 32 := by
  obtain ⟨a, b, c⟩ := Lib.bitLenAux_bounds 64 n (by omega) (by omega)
  have e : 2 ^ Lib.bitLenAux 64 n = 2 * 2 ^ (Lib.bitLenAux 64 n - 1) := by
    obtain ⟨k, hk⟩ : ∃ k, Lib.bitLenAux 64 n = k + 1 := ⟨Lib.bitLenAux 64 n - 1, by omega⟩
    rw [hk, Nat.add_sub_cancel, Nat.pow_succ]; omega
  unfold Lib.bitLen
  refine ⟨by omega, ?_⟩
  rcases Nat.lt_or_ge 32 (Lib.bitLenAux 64 n) with h | h
  · have : 2 ^ 32 ≤ 2 ^ (Lib.bitLenAux 64 n - 1) := Nat.pow_le_pow_right (by decide) (by omega)
    omega
  · exact h
theorem nextPow_spec (n : Nat) (h0 : 0 < n) (hn : n ≤ 1000000000) : Tells Tryz.prog 94 [int n] (.v (.int .u64 (2 ^ Lib.bitLen n : Nat))) := by
  obtain ⟨h1, h2⟩ := bitLen_two h0 hn
  refine tells_of_aw Tryz.func94 rfl rfl fun nx => ?_
  (repeat((conv=>whnf);first|apply ω0|apply ω1|apply ω2|refine τ3 rfl ?_|refine τ4 rfl ?_|refine ⟨rfl,?_⟩|apply τa|refine τb rfl ?_|refine ⟨⟨by kernel_rfl,by kernel_rfl⟩,?_⟩|refine ⟨by decide,?_⟩|apply τt|apply τf))
  refine aop_tells rfl rfl (bitsLen_spec n hn) ⟨AVle.of_eq (congrArg (fun z => AV.v (.int .u64 z)) (IntWalk.u64_in _ (by omega))), trivial⟩ fun nx1 => ?_
  (repeat((conv=>whnf);first|apply ω0|apply ω1|apply ω2|refine τ3 rfl ?_|refine τ4 rfl ?_|refine ⟨rfl,?_⟩|apply τa|refine τb rfl ?_|refine ⟨⟨by kernel_rfl,by kernel_rfl⟩,?_⟩|refine ⟨by decide,?_⟩|apply τt|apply τf))
  refine ⟨by omega, ?_⟩
  (repeat((conv=>whnf);first|apply ω0|apply ω1|apply ω2|refine τ3 rfl ?_|refine τ4 rfl ?_|refine ⟨rfl,?_⟩|apply τa|refine τb rfl ?_|refine ⟨⟨by kernel_rfl,by kernel_rfl⟩,?_⟩|refine ⟨by decide,?_⟩|apply τt|apply τf))
  refine ret_tells_all rfl (by trivial) (AVle.of_eq (congrArg (fun z => AV.v (.int .u64 z)) ?_))
  rw [show ((Lib.bitLen n : Nat) : Int).toNat = Lib.bitLen n from rfl, Nat.min_eq_left (show Lib.bitLen n ≤ IntKind.u64.bits by show _ ≤ 64; omega)]
  rw [show (1 : Int) * 2 ^ Lib.bitLen n = ((2 ^ Lib.bitLen n : Nat) : Int) by simp]
  generalize 2 ^ Lib.bitLen n = p at h1 ⊢
  exact IntWalk.u64_in _ (by omega)
theorem band_le (z : Int) {m : Nat} (hm : m < 18446744073709551616) : ∃ k : Nat, k ≤ m ∧ bitsI .and .u64 z (m : Int) = (k : Int) := by
  unfold bitsI
  simp only [BitVec.toNat_and]
  rw [ofInt_nat (w := IntKind.u64.bits) (a := m) (by exact hm)]
  refine ⟨(BitVec.ofInt IntKind.u64.bits z).toNat &&& m, Nat.and_le_right, IntWalk.u64_in _ ?_⟩
  have : (BitVec.ofInt IntKind.u64.bits z).toNat &&& m ≤ m := Nat.and_le_right
  omega
/-- The next random number: some number. -/
theorem xorNext_spec (z : Int) (R : List AV) (s s1 nx : Nat) :
    ECall Tryz.prog 95 [.bp (1, s1) 0] ⟨[((1, s1), .c [.v (.int .u64 z)]), ((0, s), .c R)], [], nx, 2⟩ (fun r h' => ∃ z' nx' nn', r = .v (.int .u64 z') ∧ h' = ⟨[((1, s1), .c [.v (.int .u64 z')]), ((0, s), .c R)], [], nx', nn'⟩) := by
  refine ECall.wk (ecall_of_aw Tryz.func95 rfl rfl ?_)
  (repeat((conv=>whnf);first|apply ω0|apply ω1|apply ω2|refine τ3 rfl ?_|refine τ4 rfl ?_|refine ⟨rfl,?_⟩|apply τa|refine τb rfl ?_|refine ⟨⟨by kernel_rfl,by kernel_rfl⟩,?_⟩|refine ⟨by decide,?_⟩|apply τt|apply τf))
  (refine aw_draw 9 ?_ ?_ ?_ ?_; (· kernel_rfl); (· kernel_rfl); (· kernel_rfl))
  (repeat((conv=>whnf);first|apply ω0|apply ω2|refine τ3 rfl ?_|refine τ4 rfl ?_|refine ⟨rfl,?_⟩|apply τa|refine τb rfl ?_|refine ⟨⟨by kernel_rfl,by kernel_rfl⟩,?_⟩|refine ⟨by decide,?_⟩|apply τt|apply τf))
  refine AW.le (E' := mk 33 [(0, .bp (1, s1) 0)] ⟨[((1, s1), .c [.v (.int .u64 (bitsI .xor .u64 z (IntKind.u64.wrap (z * 2 ^ min (Int.toNat 13) IntKind.u64.bits))))]), ((0, s), .c R)], [], nx, 2⟩) (ele_tell _ _ rfl rfl (List.Sublist.refl _) .slnil (BxLe.refl _) trivial ⟨AVle.refl _, trivial⟩) ?_
  generalize bitsI .xor .u64 z (IntKind.u64.wrap (z * 2 ^ min (Int.toNat 13) IntKind.u64.bits)) = z1
  (refine aw_draw 9 ?_ ?_ ?_ ?_; (· kernel_rfl); (· kernel_rfl); (· kernel_rfl))
  (repeat((conv=>whnf);first|apply ω0|apply ω2|refine τ3 rfl ?_|refine τ4 rfl ?_|refine ⟨rfl,?_⟩|apply τa|refine τb rfl ?_|refine ⟨⟨by kernel_rfl,by kernel_rfl⟩,?_⟩|refine ⟨by decide,?_⟩|apply τt|apply τf))
  refine AW.le (E' := mk 33 [(0, .bp (1, s1) 0)] ⟨[((1, s1), .c [.v (.int .u64 (bitsI .xor .u64 z1 (z1.fdiv (2 ^ min (Int.toNat 7) IntKind.u64.bits))))]), ((0, s), .c R)], [], nx, 2⟩) (ele_tell _ _ rfl rfl (List.Sublist.refl _) .slnil (BxLe.refl _) trivial ⟨AVle.refl _, trivial⟩) ?_
  generalize bitsI .xor .u64 z1 (z1.fdiv (2 ^ min (Int.toNat 7) IntKind.u64.bits)) = z2
  (refine aw_draw 9 ?_ ?_ ?_ ?_; (· kernel_rfl); (· kernel_rfl); (· kernel_rfl))
  (repeat((conv=>whnf);first|apply ω0|apply ω2|refine τ3 rfl ?_|refine τ4 rfl ?_|refine ⟨rfl,?_⟩|apply τa|refine τb rfl ?_|refine ⟨⟨by kernel_rfl,by kernel_rfl⟩,?_⟩|refine ⟨by decide,?_⟩|apply τt|apply τf))
  refine AW.le (E' := mk 33 [(0, .bp (1, s1) 0)] ⟨[((1, s1), .c [.v (.int .u64 (bitsI .xor .u64 z2 (IntKind.u64.wrap (z2 * 2 ^ min (Int.toNat 17) IntKind.u64.bits))))]), ((0, s), .c R)], [], nx, 2⟩) (ele_tell _ _ rfl rfl (List.Sublist.refl _) .slnil (BxLe.refl _) trivial ⟨AVle.refl _, trivial⟩) ?_
  generalize bitsI .xor .u64 z2 (IntKind.u64.wrap (z2 * 2 ^ min (Int.toNat 17) IntKind.u64.bits)) = z3
  (repeat((conv=>whnf);first|apply ω0|apply ω1|apply ω2|refine τ3 rfl ?_|refine τ4 rfl ?_|refine ⟨rfl,?_⟩|apply τa|refine τb rfl ?_|refine ⟨⟨by kernel_rfl,by kernel_rfl⟩,?_⟩|refine ⟨by decide,?_⟩|apply τt|apply τf))
  exact ret_is rfl ⟨_, _, AVle.refl _, HLe.refl _, z3, nx, 2, rfl, rfl⟩
end Go.Proofs.W

namespace Go.Proofs.W
open Go.Vl
set_option maxRecDepth 100000

def hp2_u32 (s s2 : Nat) (k : Int) (d : Array (Int)) (tl : List AV) : List (Vl.Id × Own) := [((1, s2), .c [int k]), ((0, s), .c (rowG eA_u32 d tl))]

theorem ord2_u32 (d : Array (Int)) (tl : List AV) (n a b : Nat) (hn : d.size = n) (ha : a < n) (hb : b < n) (hsz : n ≤ 1000000) (k : Int) (s s2 cap nx : Nat) :
    ECall Tryz.prog 106 [.hs (0, s) 0 n cap, int a, int b, .bp (1, s2) 0] ⟨hp2_u32 s s2 k d tl, [], nx, 2⟩ (fun r h' => ∃ x y : Nat, ∃ k' nx' nn', ((x = a ∧ y = b) ∨ (x = b ∧ y = a)) ∧ r = .tup [int x, int y] ∧ h' = ⟨hp2_u32 s s2 k' d tl, [], nx', nn'⟩) := by
  refine ECall.wk (ecall_of_aw Tryz.func106 rfl rfl ?_)
  (repeat((conv=>whnf);first|apply ω0|apply ω1|apply ω2|refine τ3 rfl ?_|refine τ4 rfl ?_|refine ⟨rfl,?_⟩|apply τa|refine τb rfl ?_|refine ⟨⟨by kernel_rfl,by kernel_rfl⟩,?_⟩|refine ⟨by decide,?_⟩|apply τt|apply τf))
  (refine aw_draw 9 ?_ ?_ ?_ ?_; (· kernel_rfl); (· kernel_rfl); (· kernel_rfl))
  (repeat((conv=>whnf);first|apply ω0|apply ω1|apply ω2|refine τ3 rfl ?_|refine τ4 rfl ?_|refine ⟨rfl,?_⟩|apply τa|refine τb rfl ?_|refine ⟨⟨by kernel_rfl,by kernel_rfl⟩,?_⟩|refine ⟨by decide,?_⟩|apply τt|apply τf))
  refine ⟨⟨ixge (i := b) (rfl), ixlt (i := b) (rfl) (by omega)⟩, splitO_eq (b := .bp (0, s) (b)) (congrArg (AV.bp (0, s)) (ixof (i := b) c_u32 (rfl))) ?_⟩
  (conv => whnf)
  refine ⟨⟨rfl, rowG_in (show b < d.size by omega)⟩, splitO_eq (b := eA_u32 d[b]!) (rowG_get (show b < d.size by omega)) ?_⟩
  (repeat((conv=>whnf);first|apply ω0|apply ω1|apply ω2|refine τ3 rfl ?_|refine τ4 rfl ?_|refine ⟨rfl,?_⟩|apply τa|refine τb rfl ?_|refine ⟨⟨by kernel_rfl,by kernel_rfl⟩,?_⟩|refine ⟨by decide,?_⟩|apply τt|apply τf))
  refine ⟨⟨ixge (i := a) (rfl), ixlt (i := a) (rfl) (by omega)⟩, splitO_eq (b := .bp (0, s) (a)) (congrArg (AV.bp (0, s)) (ixof (i := a) c_u32 (rfl))) ?_⟩
  (conv => whnf)
  refine ⟨⟨rfl, rowG_in (show a < d.size by omega)⟩, splitO_eq (b := eA_u32 d[a]!) (rowG_get (show a < d.size by omega)) ?_⟩
  (repeat((conv=>whnf);first|apply ω0|apply ω1|apply ω2|refine τ3 rfl ?_|refine τ4 rfl ?_|refine ⟨rfl,?_⟩|apply τa|refine τb rfl ?_|refine ⟨⟨by kernel_rfl,by kernel_rfl⟩,?_⟩|refine ⟨by decide,?_⟩|apply τt|apply τf))
  refine ex_yields (yields_tells rfl rfl (less_u32 d[b]! d[a]!) ⟨AVle.refl _, AVle.refl _, trivial⟩ (NoId.v _)) ?_
  (repeat((conv=>whnf);first|apply ω0|apply ω1|apply ω2|refine τ3 rfl ?_|refine τ4 rfl ?_|refine ⟨rfl,?_⟩|apply τa|refine τb rfl ?_|refine ⟨⟨by kernel_rfl,by kernel_rfl⟩,?_⟩|refine ⟨by decide,?_⟩|apply τt|apply τf))
  intro c hlt; cases c
  · (repeat((conv=>whnf);first|apply ω0|apply ω1|apply ω2|refine τ3 rfl ?_|refine τ4 rfl ?_|refine ⟨rfl,?_⟩|apply τa|refine τb rfl ?_|refine ⟨⟨by kernel_rfl,by kernel_rfl⟩,?_⟩|refine ⟨by decide,?_⟩|apply τt|apply τf))
    exact ret_is rfl ⟨_, _, AVle.refl _, hle_tell (hp2_u32 s s2 _ d tl) [] rfl (List.Sublist.refl _) .slnil (BxLe.refl _) (PmEq.refl _), a, b, k, nx, 2, .inl ⟨rfl, rfl⟩, rfl, rfl⟩
  · (repeat((conv=>whnf);first|apply ω0|apply ω1|apply ω2|refine τ3 rfl ?_|refine τ4 rfl ?_|refine ⟨rfl,?_⟩|apply τa|refine τb rfl ?_|refine ⟨⟨by kernel_rfl,by kernel_rfl⟩,?_⟩|refine ⟨by decide,?_⟩|apply τt|apply τf))
    exact ret_is rfl ⟨_, _, AVle.refl _, hle_tell (hp2_u32 s s2 _ d tl) [] rfl (List.Sublist.refl _) .slnil (BxLe.refl _) (PmEq.refl _), b, a, _, nx, 2, .inr ⟨rfl, rfl⟩, rfl, rfl⟩
set_option maxHeartbeats 1000000 in
theorem med_u32 (d : Array (Int)) (tl : List AV) (n a b c : Nat) (hn : d.size = n) (ha : a < n) (hb : b < n) (hc : c < n) (hsz : n ≤ 1000000) (k : Int) (s s2 cap nx : Nat) :
    ECall Tryz.prog 97 [.hs (0, s) 0 n cap, int a, int b, int c, .bp (1, s2) 0] ⟨hp2_u32 s s2 k d tl, [], nx, 2⟩ (fun r h' => ∃ x : Nat, ∃ k' nx' nn', (x = a ∨ x = b ∨ x = c) ∧ r = int x ∧ h' = ⟨hp2_u32 s s2 k' d tl, [], nx', nn'⟩) := by
  refine ECall.wk (ecall_of_aw Tryz.func97 rfl rfl ?_)
  (repeat((conv=>whnf);first|apply ω0|apply ω1|apply ω2|refine τ3 rfl ?_|refine τ4 rfl ?_|refine ⟨rfl,?_⟩|apply τa|refine τb rfl ?_|refine ⟨⟨by kernel_rfl,by kernel_rfl⟩,?_⟩|refine ⟨by decide,?_⟩|apply τt|apply τf))
  refine aop_callF (xs := [.hs (0, s) 0 n cap, int a, int b, .bp (1, s2) 0]) [] [] 2 rfl rfl rfl rfl ⟨AVle.refl _, AVle.refl _, AVle.refl _, AVle.refl _, trivial⟩ (ord2_u32 d tl n a b hn ha hb hsz k s s2 cap _) (BxLe.refl _) (PmEq.refl _) rfl fun r h' hq => ?_
  obtain ⟨x1, y1, k1, nx1, nn1, ho1, rfl, rfl⟩ := hq
  (repeat((conv=>whnf);first|apply ω0|apply ω1|apply ω2|refine τ3 rfl ?_|refine τ4 rfl ?_|refine ⟨rfl,?_⟩|apply τa|refine τb rfl ?_|refine ⟨⟨by kernel_rfl,by kernel_rfl⟩,?_⟩|refine ⟨by decide,?_⟩|apply τt|apply τf))
  refine aop_callF (xs := [.hs (0, s) 0 n cap, int y1, int c, .bp (1, s2) 0]) [] [] 2 rfl rfl rfl rfl ⟨AVle.refl _, AVle.refl _, AVle.refl _, AVle.refl _, trivial⟩ (ord2_u32 d tl n y1 c hn (by omega) hc hsz k1 s s2 cap _) (BxLe.refl _) (PmEq.refl _) rfl fun r h' hq => ?_
  obtain ⟨x2, y2, k2, nx2, nn2, ho2, rfl, rfl⟩ := hq
  (repeat((conv=>whnf);first|apply ω0|apply ω1|apply ω2|refine τ3 rfl ?_|refine τ4 rfl ?_|refine ⟨rfl,?_⟩|apply τa|refine τb rfl ?_|refine ⟨⟨by kernel_rfl,by kernel_rfl⟩,?_⟩|refine ⟨by decide,?_⟩|apply τt|apply τf))
  refine aop_callF (xs := [.hs (0, s) 0 n cap, int x1, int x2, .bp (1, s2) 0]) [] [] 2 rfl rfl rfl rfl ⟨AVle.refl _, AVle.refl _, AVle.refl _, AVle.refl _, trivial⟩ (ord2_u32 d tl n x1 x2 hn (by omega) (by omega) hsz k2 s s2 cap _) (BxLe.refl _) (PmEq.refl _) rfl fun r h' hq => ?_
  obtain ⟨x3, y3, k3, nx3, nn3, ho3, rfl, rfl⟩ := hq
  (repeat((conv=>whnf);first|apply ω0|apply ω1|apply ω2|refine τ3 rfl ?_|refine τ4 rfl ?_|refine ⟨rfl,?_⟩|apply τa|refine τb rfl ?_|refine ⟨⟨by kernel_rfl,by kernel_rfl⟩,?_⟩|refine ⟨by decide,?_⟩|apply τt|apply τf))
  exact ret_is rfl ⟨_, _, AVle.refl _, hle_tell (hp2_u32 s s2 _ d tl) [] rfl (List.Sublist.refl _) .slnil (BxLe.refl _) (PmEq.refl _), y3, k3, nx3, 2, by omega, rfl, rfl⟩
theorem medadj_u32 (d : Array (Int)) (tl : List AV) (n a : Nat) (hn : d.size = n) (h1 : 1 ≤ a) (ha : a + 1 < n) (hsz : n ≤ 1000000) (k : Int) (s s2 cap nx : Nat) :
    ECall Tryz.prog 96 [.hs (0, s) 0 n cap, int a, .bp (1, s2) 0] ⟨hp2_u32 s s2 k d tl, [], nx, 2⟩ (fun r h' => ∃ x : Nat, ∃ k' nx' nn', (x = a - 1 ∨ x = a ∨ x = a + 1) ∧ r = int x ∧ h' = ⟨hp2_u32 s s2 k' d tl, [], nx', nn'⟩) := by
  refine ECall.wk (ecall_of_aw Tryz.func96 rfl rfl ?_)
  (repeat((conv=>whnf);first|apply ω0|apply ω1|apply ω2|refine τ3 rfl ?_|refine τ4 rfl ?_|refine ⟨rfl,?_⟩|apply τa|refine τb rfl ?_|refine ⟨⟨by kernel_rfl,by kernel_rfl⟩,?_⟩|refine ⟨by decide,?_⟩|apply τt|apply τf))
  refine aop_callF (xs := [.hs (0, s) 0 n cap, int (a - 1 : Nat), int a, int (a + 1 : Nat), .bp (1, s2) 0]) [] [] 2 rfl rfl rfl rfl ⟨AVle.refl _, le_int (by rw [wrap_id (by omega) (by omega)]; omega), AVle.refl _, le_int (wrap_succ (by omega)), AVle.refl _, trivial⟩ (med_u32 d tl n (a - 1) a (a + 1) hn (by omega) (by omega) ha hsz k s s2 cap _) (BxLe.refl _) (PmEq.refl _) rfl fun r h' hq => ?_
  obtain ⟨x1, k1, nx1, nn1, ho1, rfl, rfl⟩ := hq
  (repeat((conv=>whnf);first|apply ω0|apply ω1|apply ω2|refine τ3 rfl ?_|refine τ4 rfl ?_|refine ⟨rfl,?_⟩|apply τa|refine τb rfl ?_|refine ⟨⟨by kernel_rfl,by kernel_rfl⟩,?_⟩|refine ⟨by decide,?_⟩|apply τt|apply τf))
  exact ret_is rfl ⟨_, _, AVle.refl _, hle_tell (hp2_u32 s s2 _ d tl) [] rfl (List.Sublist.refl _) .slnil (BxLe.refl _) (PmEq.refl _), x1, k1, nx1, 2, ho1, rfl, rfl⟩
set_option maxHeartbeats 2000000 in
theorem pivot_u32 (d : Array (Int)) (tl : List AV) (n a b : Nat) (hn : d.size = n) (hab : a < b) (hb : b ≤ n) (hsz : n ≤ 1000000) (s cap nx : Nat) :
    ECall Tryz.prog 69 [.hs (0, s) 0 n cap, int a, int b] ⟨rowH_u32 s d tl, [], nx, 1⟩ (fun r h' => ∃ p : Nat, ∃ hint : Int, ∃ nx' nn', a ≤ p ∧ p < b ∧ r = .tup [int p, int hint] ∧ h' = ⟨rowH_u32 s d tl, [], nx', nn'⟩) := by
  refine ECall.wk (ecall_of_aw Tryz.func69 rfl rfl ?_)
  have el : IntKind.i64.wrap ((b : Int) - (a : Int)) = ((b - a : Nat) : Int) := wrapN (by omega) (by omega)
  have e1 : ∀ c : Nat, c ≤ 3 → IntKind.i64.wrap ((a : Int) + IntKind.i64.wrap (IntKind.i64.wrap (Int.tdiv ((b - a : Nat) : Int) 4) * (c : Int))) = ((a + (b - a) / 4 * c : Nat) : Int) := fun c hc => by
    have h4 : (b - a) / 4 * c ≤ (b - a) / 4 * 3 := Nat.mul_le_mul_left _ hc
    rw [show Int.tdiv ((b - a : Nat) : Int) 4 = (((b - a) / 4 : Nat) : Int) from rfl, wrap_id (n := (((b - a) / 4 : Nat) : Int)) (by omega) (by omega), ← Int.natCast_mul, wrap_id (n := (((b - a) / 4 * c : Nat) : Int)) (by omega) (by omega), ← Int.natCast_add]
    exact wrapN rfl (by omega)
  ((repeat((conv=>whnf);first|apply ω0|apply ω2|refine τ3 rfl ?_|refine τ4 rfl ?_|refine ⟨rfl,?_⟩|apply τa|refine τb rfl ?_|refine ⟨⟨by kernel_rfl,by kernel_rfl⟩,?_⟩|refine ⟨by decide,?_⟩|apply τt|apply τf)); refine aw_region ?_; (repeat((conv=>whnf);first|apply ω0|apply ω2|refine τ3 rfl ?_|refine τ4 rfl ?_|refine ⟨rfl,?_⟩|apply τa|refine τb rfl ?_|refine ⟨⟨by kernel_rfl,by kernel_rfl⟩,?_⟩|refine ⟨by decide,?_⟩|apply τt|apply τf)); refine aw_region ?_; (repeat((conv=>whnf);first|apply ω0|apply ω2|refine τ3 rfl ?_|refine τ4 rfl ?_|refine ⟨rfl,?_⟩|apply τa|refine τb rfl ?_|refine ⟨⟨by kernel_rfl,by kernel_rfl⟩,?_⟩|refine ⟨by decide,?_⟩|apply τt|apply τf)))
  refine aw_reset (bx := rowH_u32 s d tl) (pm := []) (nx := nx) (nn := 1) (df := some []) (L := [(0, .hs (0, s) 0 n cap), (1, int a), (2, int b), (8, int (b - a : Nat))]) rfl rfl rfl (List.Sublist.refl _) .slnil ⟨AVle.refl _, AVle.refl _, AVle.refl _, le_int el, trivial⟩ ?_
  ((repeat((conv=>whnf);first|apply ω0|apply ω2|refine τ3 rfl ?_|refine τ4 rfl ?_|refine ⟨rfl,?_⟩|apply τa|refine τb rfl ?_|refine ⟨⟨by kernel_rfl,by kernel_rfl⟩,?_⟩|refine ⟨by decide,?_⟩|apply τt|apply τf)); refine aw_region ?_; (repeat((conv=>whnf);first|apply ω0|apply ω2|refine τ3 rfl ?_|refine τ4 rfl ?_|refine ⟨rfl,?_⟩|apply τa|refine τb rfl ?_|refine ⟨⟨by kernel_rfl,by kernel_rfl⟩,?_⟩|refine ⟨by decide,?_⟩|apply τt|apply τf)); refine aw_region ?_; (repeat((conv=>whnf);first|apply ω0|apply ω2|refine τ3 rfl ?_|refine τ4 rfl ?_|refine ⟨rfl,?_⟩|apply τa|refine τb rfl ?_|refine ⟨⟨by kernel_rfl,by kernel_rfl⟩,?_⟩|refine ⟨by decide,?_⟩|apply τt|apply τf)); refine aw_region ?_; (repeat((conv=>whnf);first|apply ω0|apply ω2|refine τ3 rfl ?_|refine τ4 rfl ?_|refine ⟨rfl,?_⟩|apply τa|refine τb rfl ?_|refine ⟨⟨by kernel_rfl,by kernel_rfl⟩,?_⟩|refine ⟨by decide,?_⟩|apply τt|apply τf)); refine aw_region ?_; (repeat((conv=>whnf);first|apply ω0|apply ω2|refine τ3 rfl ?_|refine τ4 rfl ?_|refine ⟨rfl,?_⟩|apply τa|refine τb rfl ?_|refine ⟨⟨by kernel_rfl,by kernel_rfl⟩,?_⟩|refine ⟨by decide,?_⟩|apply τt|apply τf)))
  refine AW.le (E' := mk 57 [(0, .hs (0, s) 0 n cap), (1, int a), (2, int b), (8, int (b - a : Nat)), (9, .bp (1, nx) 0), (10, int (a + (b - a) / 4 * 1 : Nat)), (11, int (a + (b - a) / 4 * 2 : Nat)), (12, int (a + (b - a) / 4 * 3 : Nat))] ⟨hp2_u32 s nx 0 d tl, [], nx + 1, 2⟩) (ele_tell _ _ rfl rfl (List.Sublist.refl _) .slnil (BxLe.refl _) trivial ⟨AVle.refl _, AVle.refl _, AVle.refl _, AVle.refl _, AVle.refl _, le_int (e1 1 (by omega)), le_int (e1 2 (by omega)), le_int (e1 3 (by omega)), trivial⟩) ?_
  clear e1 el
  refine aw_mid2 (fun y : Nat × Int × Nat => mk 57 [(9, .bp (1, nx) 0), (11, int y.1)] ⟨hp2_u32 s nx y.2.1 d tl, [], y.2.2, 2⟩) (fun y => a ≤ y.1 ∧ y.1 < b) ?_ ?_
  · (repeat((conv=>whnf);first|apply ω0|apply ω1|apply ω2|refine τ3 rfl ?_|refine τ4 rfl ?_|refine ⟨rfl,?_⟩|apply τa|refine τb rfl ?_|refine ⟨⟨by kernel_rfl,by kernel_rfl⟩,?_⟩|refine ⟨by decide,?_⟩|apply τt|apply τf))
    intro c g8; cases c
    · have g8 := not_of g8
      try dsimp only at g8
      (repeat((conv=>whnf);first|apply ω0|apply ω1|apply ω2|refine τ3 rfl ?_|refine τ4 rfl ?_|refine ⟨rfl,?_⟩|apply τa|refine τb rfl ?_|refine ⟨⟨by kernel_rfl,by kernel_rfl⟩,?_⟩|refine ⟨by decide,?_⟩|apply τt|apply τf))
      exact ⟨(a + (b - a) / 4 * 2, 0, nx + 1), ⟨by dsimp only; omega, by dsimp only; omega⟩, ele_tell _ _ rfl rfl (List.Sublist.refl _) .slnil (BxLe.refl _) trivial ⟨AVle.refl _, AVle.refl _, trivial⟩⟩
    · have g8 := yes_of g8
      try dsimp only at g8
      (repeat((conv=>whnf);first|apply ω0|apply ω2|refine τ3 rfl ?_|refine τ4 rfl ?_|refine ⟨rfl,?_⟩|apply τa|refine τb rfl ?_|refine ⟨⟨by kernel_rfl,by kernel_rfl⟩,?_⟩|refine ⟨by decide,?_⟩|apply τt|apply τf))
      refine aw_mid2 (fun y : (Nat × Nat × Nat) × Int × Nat => mk 57 [(0, .hs (0, s) 0 n cap), (9, .bp (1, nx) 0), (10, int y.1.1), (11, int y.1.2.1), (12, int y.1.2.2)] ⟨hp2_u32 s nx y.2.1 d tl, [], y.2.2, 2⟩) (fun y => (a ≤ y.1.1 ∧ y.1.1 < b) ∧ (a ≤ y.1.2.1 ∧ y.1.2.1 < b) ∧ a ≤ y.1.2.2 ∧ y.1.2.2 < b) ?_ ?_
      · (repeat((conv=>whnf);first|apply ω0|apply ω1|apply ω2|refine τ3 rfl ?_|refine τ4 rfl ?_|refine ⟨rfl,?_⟩|apply τa|refine τb rfl ?_|refine ⟨⟨by kernel_rfl,by kernel_rfl⟩,?_⟩|refine ⟨by decide,?_⟩|apply τt|apply τf))
        intro c g; cases c
        · have g := not_of g
          try dsimp only at g
          (repeat((conv=>whnf);first|apply ω0|apply ω1|apply ω2|refine τ3 rfl ?_|refine τ4 rfl ?_|refine ⟨rfl,?_⟩|apply τa|refine τb rfl ?_|refine ⟨⟨by kernel_rfl,by kernel_rfl⟩,?_⟩|refine ⟨by decide,?_⟩|apply τt|apply τf))
          exact ⟨((a + (b - a) / 4 * 1, a + (b - a) / 4 * 2, a + (b - a) / 4 * 3), 0, nx + 1), ⟨⟨by dsimp only; omega, by dsimp only; omega⟩, ⟨by dsimp only; omega, by dsimp only; omega⟩, by dsimp only; omega, by dsimp only; omega⟩, ele_tell _ _ rfl rfl (List.Sublist.refl _) .slnil (BxLe.refl _) trivial ⟨AVle.refl _, AVle.refl _, AVle.refl _, AVle.refl _, AVle.refl _, trivial⟩⟩
        · have g := yes_of g
          try dsimp only at g
          (repeat((conv=>whnf);first|apply ω0|apply ω1|apply ω2|refine τ3 rfl ?_|refine τ4 rfl ?_|refine ⟨rfl,?_⟩|apply τa|refine τb rfl ?_|refine ⟨⟨by kernel_rfl,by kernel_rfl⟩,?_⟩|refine ⟨by decide,?_⟩|apply τt|apply τf))
          refine aop_callF (xs := [.hs (0, s) 0 n cap, int (a + (b - a) / 4 * 1 : Nat), .bp (1, nx) 0]) [] [] 2 rfl rfl rfl rfl ⟨AVle.refl _, AVle.refl _, AVle.refl _, trivial⟩ (medadj_u32 d tl n (a + (b - a) / 4 * 1) hn (by omega) (by omega) hsz 0 s nx cap _) (BxLe.refl _) (PmEq.refl _) rfl fun r h' hq => ?_
          obtain ⟨x1, k1, nx1, nn1, ho1, rfl, rfl⟩ := hq
          (repeat((conv=>whnf);first|apply ω0|apply ω1|apply ω2|refine τ3 rfl ?_|refine τ4 rfl ?_|refine ⟨rfl,?_⟩|apply τa|refine τb rfl ?_|refine ⟨⟨by kernel_rfl,by kernel_rfl⟩,?_⟩|refine ⟨by decide,?_⟩|apply τt|apply τf))
          refine aop_callF (xs := [.hs (0, s) 0 n cap, int (a + (b - a) / 4 * 2 : Nat), .bp (1, nx) 0]) [] [] 2 rfl rfl rfl rfl ⟨AVle.refl _, AVle.refl _, AVle.refl _, trivial⟩ (medadj_u32 d tl n (a + (b - a) / 4 * 2) hn (by omega) (by omega) hsz k1 s nx cap _) (BxLe.refl _) (PmEq.refl _) rfl fun r h' hq => ?_
          obtain ⟨x2, k2, nx2, nn2, ho2, rfl, rfl⟩ := hq
          (repeat((conv=>whnf);first|apply ω0|apply ω1|apply ω2|refine τ3 rfl ?_|refine τ4 rfl ?_|refine ⟨rfl,?_⟩|apply τa|refine τb rfl ?_|refine ⟨⟨by kernel_rfl,by kernel_rfl⟩,?_⟩|refine ⟨by decide,?_⟩|apply τt|apply τf))
          refine aop_callF (xs := [.hs (0, s) 0 n cap, int (a + (b - a) / 4 * 3 : Nat), .bp (1, nx) 0]) [] [] 2 rfl rfl rfl rfl ⟨AVle.refl _, AVle.refl _, AVle.refl _, trivial⟩ (medadj_u32 d tl n (a + (b - a) / 4 * 3) hn (by omega) (by omega) hsz k2 s nx cap _) (BxLe.refl _) (PmEq.refl _) rfl fun r h' hq => ?_
          obtain ⟨x3, k3, nx3, nn3, ho3, rfl, rfl⟩ := hq
          (repeat((conv=>whnf);first|apply ω0|apply ω1|apply ω2|refine τ3 rfl ?_|refine τ4 rfl ?_|refine ⟨rfl,?_⟩|apply τa|refine τb rfl ?_|refine ⟨⟨by kernel_rfl,by kernel_rfl⟩,?_⟩|refine ⟨by decide,?_⟩|apply τt|apply τf))
          exact ⟨((x1, x2, x3), k3, nx3), ⟨⟨by dsimp only; omega, by dsimp only; omega⟩, ⟨by dsimp only; omega, by dsimp only; omega⟩, by dsimp only; omega, by dsimp only; omega⟩, ele_tell _ _ rfl rfl (List.Sublist.refl _) .slnil (BxLe.refl _) trivial ⟨AVle.refl _, AVle.refl _, AVle.refl _, AVle.refl _, AVle.refl _, trivial⟩⟩
      · rintro ⟨⟨i, j, l⟩, k, nx1⟩ ⟨hi, hj, hl⟩
        dsimp only at hi hj hl
        (repeat((conv=>whnf);first|apply ω0|apply ω1|apply ω2|refine τ3 rfl ?_|refine τ4 rfl ?_|refine ⟨rfl,?_⟩|apply τa|refine τb rfl ?_|refine ⟨⟨by kernel_rfl,by kernel_rfl⟩,?_⟩|refine ⟨by decide,?_⟩|apply τt|apply τf))
        refine aop_callF (xs := [.hs (0, s) 0 n cap, int i, int j, int l, .bp (1, nx) 0]) [] [] 2 rfl rfl rfl rfl ⟨AVle.refl _, AVle.refl _, AVle.refl _, AVle.refl _, AVle.refl _, trivial⟩ (med_u32 d tl n i j l hn (by omega) (by omega) (by omega) hsz k s nx cap _) (BxLe.refl _) (PmEq.refl _) rfl fun r h' hq => ?_
        obtain ⟨x3, k3, nx3, nn3, ho3, rfl, rfl⟩ := hq
        (repeat((conv=>whnf);first|apply ω0|apply ω1|apply ω2|refine τ3 rfl ?_|refine τ4 rfl ?_|refine ⟨rfl,?_⟩|apply τa|refine τb rfl ?_|refine ⟨⟨by kernel_rfl,by kernel_rfl⟩,?_⟩|refine ⟨by decide,?_⟩|apply τt|apply τf))
        exact ⟨(x3, k3, nx3), ⟨by dsimp only; omega, by dsimp only; omega⟩, ele_tell _ _ rfl rfl (List.Sublist.refl _) .slnil (BxLe.refl _) trivial ⟨AVle.refl _, AVle.refl _, trivial⟩⟩
  · rintro ⟨p, k, nx1⟩ ⟨h1, h2⟩
    dsimp only at h1 h2
    (repeat((conv=>whnf);first|apply ω0|apply ω1|apply ω2|refine τ3 rfl ?_|refine τ4 rfl ?_|refine ⟨rfl,?_⟩|apply τa|refine τb rfl ?_|refine ⟨⟨by kernel_rfl,by kernel_rfl⟩,?_⟩|refine ⟨by decide,?_⟩|apply τt|apply τf))
    intro c g0; cases c
    · (repeat((conv=>whnf);first|apply ω0|apply ω1|apply ω2|refine τ3 rfl ?_|refine τ4 rfl ?_|refine ⟨rfl,?_⟩|apply τa|refine τb rfl ?_|refine ⟨⟨by kernel_rfl,by kernel_rfl⟩,?_⟩|refine ⟨by decide,?_⟩|apply τt|apply τf))
      intro c g1; cases c
      · (repeat((conv=>whnf);first|apply ω0|apply ω1|apply ω2|refine τ3 rfl ?_|refine τ4 rfl ?_|refine ⟨rfl,?_⟩|apply τa|refine τb rfl ?_|refine ⟨⟨by kernel_rfl,by kernel_rfl⟩,?_⟩|refine ⟨by decide,?_⟩|apply τt|apply τf))
        exact ret_is rfl ⟨_, _, AVle.refl _, hle_tell (rowH_u32 s d tl) [] rfl (.cons _ (List.Sublist.refl _)) .slnil (BxLe.refl _) (PmEq.refl _), p, 0, _, 2, h1, h2, rfl, rfl⟩
      · (repeat((conv=>whnf);first|apply ω0|apply ω1|apply ω2|refine τ3 rfl ?_|refine τ4 rfl ?_|refine ⟨rfl,?_⟩|apply τa|refine τb rfl ?_|refine ⟨⟨by kernel_rfl,by kernel_rfl⟩,?_⟩|refine ⟨by decide,?_⟩|apply τt|apply τf))
        exact ret_is rfl ⟨_, _, AVle.refl _, hle_tell (rowH_u32 s d tl) [] rfl (.cons _ (List.Sublist.refl _)) .slnil (BxLe.refl _) (PmEq.refl _), p, 2, _, 2, h1, h2, rfl, rfl⟩
    · (repeat((conv=>whnf);first|apply ω0|apply ω1|apply ω2|refine τ3 rfl ?_|refine τ4 rfl ?_|refine ⟨rfl,?_⟩|apply τa|refine τb rfl ?_|refine ⟨⟨by kernel_rfl,by kernel_rfl⟩,?_⟩|refine ⟨by decide,?_⟩|apply τt|apply τf))
      exact ret_is rfl ⟨_, _, AVle.refl _, hle_tell (rowH_u32 s d tl) [] rfl (.cons _ (List.Sublist.refl _)) .slnil (BxLe.refl _) (PmEq.refl _), p, 1, _, 2, h1, h2, rfl, rfl⟩
end Go.Proofs.W
