/- A region that draws, in which one conversion may be late: it need not stand ahead of what is stored. -/
import Derived.Test.YtgllcdchhfcoiaaVlU
namespace Go.Vl
open Go.RowKit
variable {P : Program}

/-- What is looked up: as ordB, but one operation (z) may be late: of those of the tail each waits for it or is apart from it. -/
def ordZ (ops : Array Oper) (m z : Nat) : Bool :=
  let bf := Region.before ops
  let l := ops.toList.zipIdx
  Nat.blt z m && (l.all fun (oj, j) => (oj.after.toList.all fun e => !Region.binds .any e || Nat.blt e.on j) &&
    bif Nat.blt j m then l.all fun (oi, i) => !Nat.blt i j || (bf.getD j 0).testBit i || oi.apart ops oj
    else (List.range j).all (fun i => (bf.getD j 0).testBit i || (Nat.beq i z && (match ops[z]? with | some oz => oz.apart ops oj | none => false))) && (match oj.op with | .store .. => true | .fieldAddr .. => true | .indexAddr .. => true | _ => false))
structure OrdOkZ (ops : Array Oper) (m z : Nat) : Prop where
  lt : z < m
  back : ∀ (j : Nat) (o : Oper), ops[j]? = some o → ∀ e ∈ o.after, Region.binds .any e = true → e.on < j
  pair : ∀ (i j : Nat) (oi oj : Oper), ops[i]? = some oi → ops[j]? = some oj → i < j → j < m → ((Region.before ops).getD j 0).testBit i = true ∨ oi.apart ops oj = true
  tail : ∀ (i j : Nat) (oj : Oper), ops[j]? = some oj → m ≤ j → i < j → i ≠ z → ((Region.before ops).getD j 0).testBit i = true
  late : ∀ (j : Nat) (oj oz : Oper), ops[j]? = some oj → ops[z]? = some oz → m ≤ j → ((Region.before ops).getD j 0).testBit z = true ∨ oz.apart ops oj = true
  quiet : ∀ (j : Nat) (oj : Oper), ops[j]? = some oj → m ≤ j → (∀ c, oj.op ≠ .defer c) ∧ (∀ cs b, oj.op ≠ .select cs b)
theorem ordOkZ {ops : Array Oper} {m z : Nat} (h : ordZ ops m z = true) : OrdOkZ ops m z := by
  have get : ∀ (j : Nat) (o : Oper), ops[j]? = some o → (o, j) ∈ ops.toList.zipIdx := fun j o hj => by
    rw [List.mk_mem_zipIdx_iff_getElem?, Array.getElem?_toList]; exact hj
  simp only [ordZ, Bool.and_eq_true, List.all_eq_true] at h
  obtain ⟨hz, h⟩ := h
  have hlt := blt_true hz
  have tl : ∀ (j : Nat) (oj : Oper), ops[j]? = some oj → m ≤ j → (∀ i, i < j → (((Region.before ops).getD j 0).testBit i = true ∨ (i = z ∧ (match ops[z]? with | some oz => oz.apart ops oj | none => false) = true))) ∧ (match oj.op with | .store .. => true | .fieldAddr .. => true | .indexAddr .. => true | _ => false) = true := by
    intro j oj hj hm
    have := (h _ (get j oj hj)).2
    have hn : Nat.blt j m = false := by cases h' : Nat.blt j m with | true => exact absurd (blt_true h') (by omega) | false => rfl
    simp only [hn, cond_false, Bool.and_eq_true, List.all_eq_true, List.mem_range] at this
    refine ⟨fun i hi => ?_, this.2⟩
    have h3 := this.1 i hi
    simp only [Bool.or_eq_true, Bool.and_eq_true] at h3
    rcases h3 with h3 | ⟨h3, h4⟩
    · exact .inl h3
    · exact .inr ⟨Nat.eq_of_beq_eq_true h3, h4⟩
  refine ⟨hlt, fun j o hj e he hb => ?_, fun i j oi oj hi hj hij hjm => ?_, fun i j oj hj hm hij hz => ?_, fun j oj oz hj hoz hm => ?_, fun j oj hj hm => ?_⟩
  · have := (h _ (get j o hj)).1 e (Array.mem_toList_iff.2 he)
    simp only [hb, Bool.not_true, Bool.false_or] at this
    exact blt_true this
  · have := (h _ (get j oj hj)).2
    simp only [blt_iff.2 hjm, cond_true, List.all_eq_true] at this
    have := this _ (get i oi hi)
    simp only [blt_iff.2 hij, Bool.not_true, Bool.false_or, Bool.or_eq_true] at this
    exact this
  · rcases (tl j oj hj hm).1 i hij with h3 | ⟨h3, _⟩
    · exact h3
    · exact absurd h3 hz
  · rcases (tl j oj hj hm).1 z (by omega) with h3 | ⟨_, h3⟩
    · exact .inl h3
    · rw [hoz] at h3; exact .inr h3
  · have := (tl j oj hj hm).2
    constructor
    · intro c hc; rw [hc] at this; cases this
    · intro c b hc; rw [hc] at this; cases this

theorem DC.set' {ops : Array Oper} {listed : Array Bool} (hd : DC ops listed) (hsz : listed.size = ops.size) {j : Nat} (hj : j ∈ Region.ready .any ops listed) : DC ops (listed.setIfInBounds j true) := by
  obtain ⟨h1, o, ho, h2⟩ := mem_ready_iff.1 hj
  have hjlt : j < listed.size := by rw [hsz]; exact (Array.getElem?_eq_some_iff.1 ho).1
  intro k o' ho' hl e he hb
  rw [listed_set hjlt] at hl ⊢
  by_cases hkj : k = j
  · subst hkj
    rw [ho] at ho'; cases ho'
    split
    · rfl
    · exact h2 e he hb
  · rw [if_neg hkj] at hl
    split
    · rfl
    · exact hd k o' ho' hl e he hb

/-- The fence's rules, where nothing is put off. -/
theorem yf_wp {F : Fence} {n : Nat} {ops : Array Oper} {Q : Exit → Act → World → Prop} {i : Nat} {o : Oper} {v : Value} {a : Act} (hi : ops[i]? = some o) (hdf : ∀ c, o.op ≠ .defer c) (hy : YieldsFenced P ops o v a)
    {K : Act → World → Prop} {w : World} (h : K (a.put o.dst v) w) : wpOpIn F n P ops Q i K a w := by
  unfold Go.wpOpIn
  simp only [hi]
  have hab : ∀ f, o.about P w a.eval = some f → F.fn f := fun f hf => by rw [hy.2 w] at hf; cases hf
  rcases hy.1 with ⟨hw, hv⟩ | ⟨hw, rfl⟩
  · simp only [hw, if_true, Oper.wpIn, Oper.semAt_eq _ _ _ hdf, hv w, Oper.uponIn]; exact ⟨hab, h⟩
  · simp only [hw, Bool.false_eq_true, if_false]; exact ⟨hab, h⟩
theorem put_wp {F : Fence} {n : Nat} {ops : Array Oper} {Q : Exit → Act → World → Prop} {j : Nat} {oi oj : Oper} {v : Value} (hj : ops[j]? = some oj) (hap : oi.apart ops oj = true)
    (hsi : ∀ cs b, oi.op ≠ .select cs b) (hsj : ∀ cs b, oj.op ≠ .select cs b) (hdj : ∀ c, oj.op ≠ .defer c)
    (hQ : ∀ c a w, ¬ Q (.panic c) a w) {K : Act → World → Prop} {a : Act} {w : World}
    (hy : YieldsFenced P ops oi v a) (h : wpOpIn F n P ops Q j K (a.put oi.dst v) w) :
    wpOpIn F n P ops Q j (fun a' w' => YieldsFenced P ops oi v a' ∧ K (a'.put oi.dst v) w') a w := by
  obtain ⟨h1, h2, h3⟩ := Oper.apart_spec hap
  have keep : ∀ (a : Act), YieldsFenced P ops oi v a → ∀ u, YieldsFenced P ops oi v (a.put oj.dst u) := fun a hy u =>
    hy.of_same (execOp_put oi hsi a oj.dst u h3) (wanted_put oi a oj.dst u h3) (fun w => about_put oi w a oj.dst u h3)
  have keepD : ∀ d, YieldsFenced P ops oi v { a with defers := d :: a.defers } := fun d => hy.of_same rfl rfl (fun _ => rfl)
  unfold wpOpIn at *
  simp only [hj] at *
  rw [wanted_put oj a oi.dst v h1, about_put oj w a oi.dst v h1] at h
  split
  · rename_i hw
    simp only [hw, if_true] at h
    unfold Oper.wpIn at *
    rw [about_put oj w a oi.dst v h1] at h
    refine ⟨h.1, ?_⟩
    have h := h.2
    rw [Oper.semAt_eq _ _ _ hdj, execOp_put oj hsj a oi.dst v h1] at h
    rw [Oper.semAt_eq _ _ _ hdj]
    generalize (execOp a.eval oj).run P w = r at *
    cases r with
    | ok x w' =>
      cases x <;> simp only [Oper.uponIn] at h ⊢
      case value u => exact ⟨keep a hy u, by rw [← Act.put_comm a v u h2]; exact h⟩
      case skip => exact ⟨keep a hy _, by rw [← Act.put_comm a v undef h2]; exact h⟩
      case defer d =>
        refine ⟨keep _ (keepD d) _, ?_⟩
        rw [← Act.put_comm _ v undef h2, ← Act.put_defers]
        exact h
      case enter f args =>
        refine ⟨h.1, CallsIn.mono h.2 fun e w'' he => ?_⟩
        cases e with
        | returned u => exact ⟨keep a hy u, by rw [← Act.put_comm a v u h2]; exact he⟩
        | panicked c => exact absurd he (hQ _ _ _)
        | outgrown => exact he
      case row row args => exact ⟨h.1, RowsIn.mono h.2 fun u w'' he => ⟨keep a hy u, by rw [← Act.put_comm a v u h2]; exact he⟩⟩
      case round l f tmps assign body =>
        refine ⟨h.1, RoundIn.mono h.2 fun e w'' he => ?_⟩
        cases e with
        | returned u => exact ⟨keep a hy u, by rw [← Act.put_comm a v u h2]; exact he⟩
        | panicked c => exact absurd he (hQ _ _ _)
        | outgrown => exact he
    | halt x w' =>
      cases x <;> simp only [Oper.uponIn] at h ⊢
      case panic u => exact absurd h (hQ _ _ _)
  · rename_i hw
    simp only [hw] at h
    exact ⟨h.1, keep a hy _, by rw [← Act.put_comm a v undef h2]; exact h.2⟩

section
variable {ops : Array Oper} {m z : Nat} {Q : Exit → Act → World → Prop}
theorem tailZ {ro : Option Nat} (hk : OrdOkZ ops m z) {oz : Oper} (hoz : ops[z]? = some oz) (hdz : ∀ c, oz.op ≠ .defer c) (hsz' : ∀ cs b, oz.op ≠ .select cs b) (hQ : ∀ c a w, ¬ Q (.panic c) a w) (v : Value) :
    ∀ (n k : Nat) (late : Bool) (listed : Array Bool) (a : Act) (w : World), k + n = ops.size → m ≤ k → listed.size = ops.size → DC ops listed →
    (∀ i, i < ops.size → (listed.getD i true = false ↔ (late = true ∧ i = z) ∨ k ≤ i)) → (late = true → YieldsFenced P ops oz v a) →
    wpOpsIn (Fr ro) 0 P ops Q (List.range' k n) (if late then a.put oz.dst v else a) w → wpAnyIn (Fr ro) 0 P .any ops Q (n + if late then 1 else 0) listed a w := by
  have hzl : z < ops.size := (Array.getElem?_eq_some_iff.1 hoz).1
  have step : ∀ (n k : Nat), (∀ (listed : Array Bool) (a : Act) (w : World), k + n = ops.size → m ≤ k → listed.size = ops.size → DC ops listed →
      (∀ i, i < ops.size → (listed.getD i true = false ↔ k ≤ i)) → wpOpsIn (Fr ro) 0 P ops Q (List.range' k n) a w → wpAnyIn (Fr ro) 0 P .any ops Q n listed a w) := by
    intro n
    induction n with
    | zero =>
      intro k listed a w hkn hm hsz hd hun h
      refine ⟨?_, h⟩
      refine List.eq_nil_iff_forall_not_mem.2 fun j hj => ?_
      obtain ⟨h1, o, ho, _⟩ := mem_ready_iff.1 hj
      have hlt := (Array.getElem?_eq_some_iff.1 ho).1
      have := (hun j hlt).1 h1
      omega
    | succ n ih =>
      intro k listed a w hkn hm hsz hd hun h
      have hklt : k < ops.size := by omega
      have hko : ops[k]? = some ops[k] := Array.getElem?_eq_getElem hklt
      have hkr : k ∈ Region.ready .any ops listed := by
        refine mem_ready_iff.2 ⟨(hun k hklt).2 (Nat.le_refl _), _, hko, fun e he hb => ?_⟩
        have hlt := hk.back k _ hko e he hb
        rw [listed_bool (by omega)]
        cases hl : listed.getD e.on true with
        | true => simpa using hl
        | false => exact absurd ((hun e.on (by omega)).1 hl) (by omega)
      refine ⟨fun h0 => (by rw [h0] at hkr; cases hkr), fun j hj => ?_⟩
      have hjk : j = k := by
        obtain ⟨h1, o, ho, h2⟩ := mem_ready_iff.1 hj
        have hlt := (Array.getElem?_eq_some_iff.1 ho).1
        have hge := (hun j hlt).1 h1
        rcases Nat.lt_or_ge k j with hlt' | hle
        · have hb := hk.tail k j o ho (by omega) hlt' (by have := hk.lt; omega)
          have := before_listed hd hsz ho h2 hb
          have h3 := (hun k hklt).2 (Nat.le_refl _)
          rw [listed_bool (by omega)] at this
          simp [h3] at this
        · omega
      subst hjk
      rw [List.range'_succ, wpOpsIn_cons] at h
      refine wpOpIn_mono (fun a' w' h' => ih (j + 1) _ a' w' (by omega) (by omega) (by simp [hsz]) (hd.set' hsz hkr) (fun i hi => ?_) h') h
      rw [listed_set (by omega)]
      by_cases hij : i = j
      · subst hij; simp
      · rw [if_neg hij, hun i hi]; omega
  intro n
  induction n with
  | zero =>
    intro k late listed a w hkn hm hsz hd hun hy h
    cases late with
    | false => exact step 0 k listed a w hkn hm hsz hd (fun i hi => by simpa using hun i hi) h
    | true =>
      have hzr : z ∈ Region.ready .any ops listed := by
        refine mem_ready_iff.2 ⟨(hun z hzl).2 (.inl ⟨rfl, rfl⟩), _, hoz, fun e he hb => ?_⟩
        have hlt := hk.back z _ hoz e he hb
        rw [listed_bool (by omega)]
        cases hl : listed.getD e.on true with
        | true => simpa using hl
        | false => have := hk.lt; exact absurd ((hun e.on (by omega)).1 hl) (by omega)
      refine ⟨fun h0 => (by rw [h0] at hzr; cases hzr), fun j hj => ?_⟩
      have hjz : j = z := by
        obtain ⟨h1, o, ho, _⟩ := mem_ready_iff.1 hj
        have hlt := (Array.getElem?_eq_some_iff.1 ho).1
        have := (hun j hlt).1 h1
        omega
      subst hjz
      refine yf_wp hoz hdz (hy rfl) (step 0 k _ _ w hkn hm (by simp [hsz]) (hd.set' hsz hzr) (fun i hi => ?_) h)
      rw [listed_set (by omega)]
      by_cases hij : i = j
      · subst hij; have := hk.lt; simp; omega
      · rw [if_neg hij, hun i hi]; simp [hij]
  | succ n ih =>
    intro k late listed a w hkn hm hsz hd hun hy h
    cases late with
    | false => exact step (n + 1) k listed a w hkn hm hsz hd (fun i hi => by simpa using hun i hi) h
    | true =>
      have hklt : k < ops.size := by omega
      have hko : ops[k]? = some ops[k] := Array.getElem?_eq_getElem hklt
      have hzr : z ∈ Region.ready .any ops listed := by
        refine mem_ready_iff.2 ⟨(hun z hzl).2 (.inl ⟨rfl, rfl⟩), _, hoz, fun e he hb => ?_⟩
        have hlt := hk.back z _ hoz e he hb
        rw [listed_bool (by omega)]
        cases hl : listed.getD e.on true with
        | true => simpa using hl
        | false => have := hk.lt; exact absurd ((hun e.on (by omega)).1 hl) (by omega)
      refine ⟨fun h0 => (by rw [h0] at hzr; cases hzr), fun j hj => ?_⟩
      obtain ⟨h1, o, ho, h2⟩ := mem_ready_iff.1 hj
      have hlt := (Array.getElem?_eq_some_iff.1 ho).1
      have hge := (hun j hlt).1 h1
      have hcase : j = z ∨ j = k := by
        rcases hge with ⟨_, h3⟩ | h3
        · exact .inl h3
        · right
          rcases Nat.lt_or_ge k j with hlt' | hle
          · have hb := hk.tail k j o ho (by omega) hlt' (by have := hk.lt; omega)
            have := before_listed hd hsz ho h2 hb
            have h4 := (hun k hklt).2 (.inr (Nat.le_refl _))
            rw [listed_bool (by omega)] at this
            simp [h4] at this
          · omega
      rcases hcase with rfl | rfl
      · refine yf_wp hoz hdz (hy rfl) (step (n + 1) k _ _ w hkn hm (by simp [hsz]) (hd.set' hsz hzr) (fun i hi => ?_) h)
        rw [listed_set (by omega)]
        by_cases hij : i = j
        · subst hij; have := hk.lt; simp; omega
        · rw [if_neg hij, hun i hi]; simp [hij]
      · have hap : oz.apart ops o = true := by
          rcases hk.late j o oz ho hoz hm with hb | hb
          · have := before_listed hd hsz ho h2 hb
            have h4 := (hun z hzl).2 (.inl ⟨rfl, rfl⟩)
            rw [listed_bool (by omega)] at this
            simp [h4] at this
          · exact hb
        obtain ⟨hdq, hsq⟩ := hk.quiet j o ho hm
        simp only [if_true] at h
        rw [List.range'_succ, wpOpsIn_cons] at h
        have h5 := put_wp ho hap hsz' hsq hdq hQ (hy rfl) h
        have hne : j ≠ z := by have := hk.lt; omega
        have := ih (j + 1) true
        show wpOpIn _ _ _ _ _ _ (wpAnyIn _ _ _ _ _ _ (n + 1) _) _ _
        refine wpOpIn_mono (fun a' w' h' => ih (j + 1) true _ a' w' (by omega) (by omega) (by simp [hsz]) (hd.set' hsz hj) (fun i hi => ?_) (fun _ => h'.1) h'.2) h5
        rw [listed_set (by omega)]
        by_cases hij : i = j
        · subst hij; simp [hne]
        · rw [if_neg hij, hun i hi]; simp only [true_and]; omega

theorem run_conv {s d : TypeId} {ds : TypeDesc} {kd k : IntKind} {x : Operand} {ρ : Operand → Value} {n : Int} {o : Oper} (ho : o.op = .convert s d x) (hs : P.underlying s = some ds) (hd : P.underlying d = some (.int kd)) (hx : ρ x = .int k n) (w : World) :
    (execOp ρ o).run P w = .ok (.value (.int kd (kd.wrap n))) w := by
  unfold execOp
  simp [ho, hx, convert, run_underlying hs, run_underlying hd, Conv.intToInt]

theorem pureZ (hk : OrdOkZ ops m z) (hm : m ≤ ops.size) {ro : Option Nat} {X M : Nat → Nat → Prop} {w0 : World} {g : List Nat} {oz : Oper} (hoz : ops[z]? = some oz) (hgz : oz.guard = none) {s d : TypeId} {ds : TypeDesc} {kd : IntKind} {x : Tmp} (hcz : oz.op = .convert s d (.tmp x))
    (hs : P.underlying s = some ds) (hd' : P.underlying d = some (.int kd)) (hxz : oz.dst ≠ some x) (hQ : ∀ c a w, ¬ Q (.panic c) a w) :
    ∀ (n : Nat) (L : List Nat) (listed : Array Bool) (E E' : Env) (a : Act) (w : World), L.length = n → (∀ i ∈ L, i < m) → L.Pairwise (· < ·) → listed.size = ops.size → DC ops listed →
    (∀ i, i < ops.size → (listed.getD i true = false ↔ i ∈ L ∨ m ≤ i)) → RunL P ops L E E' → St ro X M w0 E a w g → (∃ k n, E'.t x = .v (.int k n)) →
    (∀ a w, St ro X M w0 E' a w g → wpOpsIn (Fr ro) 0 P ops Q (List.range' m (ops.size - m)) a w) → wpAnyIn (Fr ro) 0 P .any ops Q (n + (ops.size - m)) listed a w := by
  have hdz : ∀ c, oz.op ≠ .defer c := by rw [hcz]; intro c h; cases h
  have hsz' : ∀ cs b, oz.op ≠ .select cs b := by rw [hcz]; intro c b h; cases h
  intro n
  induction n with
  | zero =>
    intro L listed E E' a w hl _ _ hsz hd hun hrun hs _ hq
    have : L = [] := List.eq_nil_of_length_eq_zero hl
    subst this
    simp only [RunL] at hrun
    subst hrun
    rw [Nat.zero_add]
    exact tailZ hk hoz hdz hsz' hQ undef (ops.size - m) m false listed a w (by omega) (Nat.le_refl _) hsz hd (fun i hi => by simpa using hun i hi) (fun h => by cases h) (hq a w hs)
  | succ n ih =>
    intro L listed E E' a w hl hlm hpw hsz hd hun hrun hst hxE hq
    by_cases hLz : L = [z]
    · subst hLz
      simp only [List.length_singleton] at hl
      obtain rfl : n = 0 := by omega
      obtain ⟨o, r, ho, hg, he⟩ := hrun
      rw [hoz] at ho; cases ho
      simp only [RunL] at he
      subst he
      obtain ⟨kx, nx, hxv⟩ := hxE
      rw [Env.set_other hxz] at hxv
      have hev := hst.ev (.tmp x)
      have hev2 : a.eval (.tmp x) = .int kx nx := by
        have h0 : E.ev (.tmp x) = .v (.int kx nx) := hxv
        rw [h0] at hev
        generalize a.eval (.tmp x) = u at hev
        cases hev; rfl
      have hrunv := fun w => run_conv (P := P) (ρ := a.eval) hcz hs hd' hev2 w
      have hyf : YieldsFenced P ops oz (.int kd (kd.wrap nx)) a := by
        refine ⟨.inl ⟨by simp [Region.wanted, hgz], hrunv⟩, fun w => ?_⟩
        unfold Oper.about
        rw [hcz]
      have hrep : Rep w (excl X g E.h) g r (.int kd (kd.wrap nx)) := by
        unfold GY at hg
        simp only [hgz] at hg
        rcases hg.2 a.eval w X g hst.hok (fun x _ => hst.ev x) with ⟨u, w', h1, h2, h3⟩ | ⟨f, vs, w1, h1, _⟩
        · rw [hrunv w] at h1
          cases h1
          exact h3
        · rw [hrunv w] at h1; cases h1
      have hst' := hst.put oz.dst hrep
      have := tailZ (ro := ro) hk hoz hdz hsz' hQ (.int kd (kd.wrap nx)) (ops.size - m) m true listed a w (by omega) (Nat.le_refl _) hsz hd (fun i hi => by simpa using hun i hi) (fun _ => hyf) (hq _ _ hst')
      rw [Nat.zero_add, Nat.add_comm]
      exact this
    rw [Nat.add_right_comm]
    obtain ⟨k0, L', hL'⟩ : ∃ k L', L = k :: L' := by cases L with | nil => simp at hl | cons k L' => exact ⟨k, L', rfl⟩
    obtain ⟨k, hkL, hkz⟩ : ∃ k ∈ L, k ≠ z := by
      subst hL'
      by_cases h0 : k0 = z
      · cases L' with
        | nil => exact absurd (by rw [h0]) hLz
        | cons k1 L2 =>
          have := (List.pairwise_cons.1 hpw).1 k1 (by simp)
          exact ⟨k1, by simp, by omega⟩
      · exact ⟨k0, by simp, h0⟩
    have hkm : k < m := hlm k hkL
    have hkm0 : k0 < m := hlm k0 (by simp [hL'])
    have hko0 : ops[k0]? = some ops[k0] := Array.getElem?_eq_getElem (by omega)
    have hkr0 : k0 ∈ Region.ready .any ops listed := by
      refine mem_ready_iff.2 ⟨(hun k0 (by omega)).2 (.inl (by simp [hL'])), _, hko0, fun e he hb => ?_⟩
      have hlt := hk.back k0 _ hko0 e he hb
      rw [listed_bool (by omega)]
      cases hl : listed.getD e.on true with
      | true => simpa using hl
      | false =>
        rcases (hun e.on (by omega)).1 hl with h' | h'
        · rw [hL'] at h' hpw
          rcases List.mem_cons.1 h' with h' | h'
          · omega
          · have := (List.pairwise_cons.1 hpw).1 _ h'; omega
        · omega
    refine ⟨fun h0 => (by rw [h0] at hkr0; cases hkr0), fun j hj => ?_⟩
    obtain ⟨h1, oj, hoj, h2⟩ := mem_ready_iff.1 hj
    have hjlt := (Array.getElem?_eq_some_iff.1 hoj).1
    have hjL : j ∈ L := by
      rcases (hun j hjlt).1 h1 with h' | h'
      · exact h'
      · have hb := hk.tail k j oj hoj h' (by omega) hkz
        have := before_listed hd hsz hoj h2 hb
        have h3 := (hun k (by omega)).2 (.inl hkL)
        rw [listed_bool (by omega)] at this
        simp [h3] at this
    clear hL' hkr0 hko0 hkm0
    obtain ⟨l1, l2, hl12⟩ := List.append_of_mem hjL
    subst hl12
    have hl1 : ∀ i ∈ l1, i < j := fun i hi => (List.pairwise_append.1 hpw).2.2 i hi j (by simp)
    obtain ⟨r, hy, hrun'⟩ := RunL.front hoj l1 l2 E E' (fun i hi oi hoi => by
      rcases hk.pair i j oi oj hoi hoj (hl1 i hi) (hlm j (by simp)) with hb | hb
      · have := before_listed hd hsz hoj h2 hb
        have hilt : i < ops.size := (Array.getElem?_eq_some_iff.1 hoi).1
        have h3 := (hun i hilt).2 (.inl (by simp [hi]))
        rw [listed_bool (by omega)] at this
        simp [h3] at this
      · exact hb) hrun
    refine hy.does hoj hst fun a' w' hs' => ?_
    refine ih (l1 ++ l2) _ _ E' a' w' (by simp at hl ⊢; omega) (fun i hi => hlm i ?_) ?_ (by simp [hsz]) (hd.set' hsz hj) (fun i hi => ?_) hrun' hs' hxE hq
    · rcases List.mem_append.1 hi with h | h <;> simp [h]
    · have := List.pairwise_append.1 hpw
      refine List.pairwise_append.2 ⟨this.1, (List.pairwise_cons.1 this.2.1).2, fun a ha b hb => this.2.2 a ha b (by simp [hb])⟩
    · rw [listed_set (by omega)]
      by_cases hij : i = j
      · subst hij
        simp only [if_true]
        constructor
        · intro h; cases h
        · intro h
          exfalso
          rcases h with h | h
          · have h5 := (List.pairwise_append.1 hpw)
            rcases List.mem_append.1 h with h | h
            · exact absurd (hl1 i h) (by omega)
            · exact absurd ((List.pairwise_cons.1 h5.2.1).1 i h) (by omega)
          · have := hlm i (by simp); omega
      · rw [if_neg hij, hun i hi]
        simp only [List.mem_append, List.mem_cons]
        constructor
        · rintro ((h | h | h) | h)
          · exact .inl (.inl h)
          · exact absurd h hij
          · exact .inl (.inr h)
          · exact .inr h
        · rintro ((h | h) | h)
          · exact .inl (.inl h)
          · exact .inl (.inr (.inr h))
          · exact .inr h
end
/-- A region that draws: the first m only yield, of which z converts and may be late; the others are forced else. -/
theorem aw_drawZ {id : Nat} {ops : Array Oper} {E : Env} {Q : AExit → Env → Prop} (m z : Nat) {oz : Oper} {s d : TypeId} {ds : TypeDesc} {kd : IntKind} {x : Tmp} (hf : P.follows .mixedOrders = true) (hb : ordZ ops m z = true) (hm : Nat.ble m ops.size = true)
    (hoz : ops[z]? = some oz) (hgz : oz.guard = none) (hcz : oz.op = .convert s d (.tmp x)) (hs' : P.underlying s = some ds) (hd' : P.underlying d = some (.int kd)) (hxz : oz.dst ≠ some x)
    (h : aQ P ops (ops.toList.take m) E fun E' => (∃ k n, E'.t x = .v (.int k n)) ∧ aK P ops (ops.toList.drop m) E' (Q .normal) (fun _ _ => False)) : AW P (.region id ops true) E Q := by
  unfold AW
  intro ro X M w0 a w g g0 hg hs
  have hm := ble_true hm
  let Q0 : Exit → Act → World → Prop := fun e a w => match e with | .normal => lift ro X M w0 g0 Q .normal a w | _ => False
  refine wpIn_mono (Q := Q0) ?_ (fun e a w h => by cases e <;> first | exact h | exact h.elim)
  refine wpIn_region_any hf ?_
  have hlt : (ops.toList.take m).length = m := by simp; omega
  obtain ⟨E', h1, hx, h2⟩ := aQ_run (P := P) (ops := ops) (ops.toList.take m) 0 E (fun j => by
    rw [hlt, List.getElem?_take, Nat.zero_add]
    by_cases hj : j < m
    · left; simp [hj]
    · right; omega) h
  rw [hlt] at h1
  have hs'' : St ro X M w0 E a { w with drawn := w.drawn + 1 } g := hs.drew
  have hun : ∀ i, i < ops.size → ((Array.replicate ops.size false).getD i true = false ↔ i ∈ List.range' 0 m ∨ m ≤ i) := by
    intro i hi
    have : (Array.replicate ops.size false).getD i true = false := by simp [Array.getD_eq_getD_getElem?, hi]
    simp only [this, true_iff, List.mem_range'_1]
    omega
  have key := pureZ (P := P) (Q := Q0) (ordOkZ hb) hm (ro := ro) (X := X) (M := M) (w0 := w0) (g := g) hoz hgz hcz hs' hd' hxz (fun c a w h => h) m (List.range' 0 m) (Array.replicate ops.size false) E E' a _ (by simp) (fun i hi => by simp only [List.mem_range'_1] at hi; omega)
    List.pairwise_lt_range' (by simp) (fun k o ho hl => by
      have hk := (Array.getElem?_eq_some_iff.1 ho).1
      simp [Array.getD_eq_getD_getElem?, hk] at hl) hun h1 hs'' hx (fun a' w' hs'' => by
      have := aK_sound (P := P) (ops := ops) (K := Q .normal) (X := X) (M := M) (w0 := w0) (g0 := g0) (Kp := fun _ _ => False) (ro := ro) (Q := Q0) (fun E a w g hk hg hs => ⟨.normal, E, g, hk, rfl, hg, hs⟩) (fun x E a w g v hk hg hs hr => hk.elim) (ops.toList.drop m) m E' a' w' g (fun j => .inl (by simp)) hg hs'' h2
      simpa using this)
  have e : m + (ops.size - m) = ops.size := by omega
  rw [e] at key
  exact key
end Go.Vl
