/- The table's operations are told rightly. -/
import Derived.Test.YtgllcdchhfcoiaaVl6
namespace Go.Vl
open Go.RowKit
variable {P : Program}
section sound
variable {h : Heap} {w : World} {X : Nat → Nat → Prop} {g : List Nat}

theorem afieldAddr_sound {t : TypeId} {x : AV} {f : Nat} {C : Option Prop} {r : AV} {u : Value} (h1 : afieldAddr P t x f = some (C, r)) (hx : Rep w X g x u) :
    Gives P (Instr.fieldAt t u f) h w X g r := by
  unfold afieldAddr at h1
  split at h1
  · rename_i fs ht
    split at h1
    · rename_i fd hfd
      cases hb : (P.underlying fd.type).isSome && !(Nat.beq (P.cellsOf fd.type) 0) with
      | false => simp [hb] at h1
      | true =>
        simp only [hb, cond_true] at h1
        simp only [Bool.and_eq_true, Bool.not_eq_true'] at hb
        obtain ⟨d, hd⟩ := Option.isSome_iff_exists.1 hb.1
        have hz : P.cellsOf fd.type ≠ 0 := fun e => by rw [e] at hb; simp at hb
        split at h1
        · rename_i cs
          cases hl : Nat.ble fd.offset cs.length with
          | false => simp [hl] at h1
          | true =>
            simp only [hl, cond_true, Option.some.injEq, Prod.mk.injEq] at h1
            obtain ⟨_, rfl⟩ := h1
            cases hx with
            | rp _ b off vs hn hcell hr =>
              refine gives_same (u := .pointer (some ⟨b, off + fd.offset, none⟩)) ?_ (.rp _ b _ (vs.drop fd.offset) (by simp [hn]) (fun k u hk => by rw [List.getElem?_drop] at hk; rw [Nat.add_assoc]; exact hcell _ u hk)
                (fun k c u hk hu => by rw [List.getElem?_drop] at hk hu; exact hr _ c u hk hu))
              simp [Instr.fieldAt, run_underlying ht, hfd, Instr.sureAddr, fieldPlace, run_sizeOf' hd, hz, add_none]
        · rename_i i off
          simp only [Option.some.injEq, Prod.mk.injEq] at h1
          obtain ⟨_, rfl⟩ := h1
          cases hx with
          | bp _ _ b hg =>
            refine gives_same (u := .pointer (some ⟨b, off + fd.offset, none⟩)) ?_ (.bp _ _ b hg)
            simp [Instr.fieldAt, run_underlying ht, hfd, Instr.sureAddr, fieldPlace, run_sizeOf' hd, hz, add_none]
        · cases h1
    · cases h1
  · cases h1

theorem afield_sound {t : TypeId} {x : AV} {f : Nat} {C : Option Prop} {r : AV} {u : Value} (h1 : afield P t x f = some (C, r)) (hx : Rep w X g x u) :
    Gives P (Instr.field t u f) h w X g r := by
  unfold afield at h1
  split at h1
  · rename_i fs cs ht
    split at h1
    · rename_i fd hfd
      obtain ⟨h2, _⟩ := pureO_eq h1
      cases hx with
      | ag _ vs hn hr =>
        obtain ⟨u', h3, h4⟩ := apart_sound h2 hn hr
        exact gives_same (by simp [Instr.field, run_underlying ht, hfd, asAgg, h3]) h4
    · cases h1
  · cases h1

/-- A row told by one function is told by another that agrees with it. -/
theorem rep_sl {sz n n' : Nat} {f f' : Nat → AV} {b off l cap : Nat} {vs : List Value} (hlen : vs.length = n * sz)
      (hcell : ∀ (k : Nat) (u : Value), vs[k]? = some u → w.cell? ⟨b, off + k, none⟩ = some u ∧ ¬ X b (off + k))
      (hc : ∀ i, i < n → (f i).cells.length = sz)
      (hr : ∀ (i j : Nat) (c : AV) (u : Value), i < n → (f i).cells[j]? = some c → vs[i * sz + j]? = some u → Rep w X g c u)
      (hl : l + n' ≤ n) (hcap : n' ≤ cap) (hf : ∀ i, i < n' → f' i = f (l + i)) :
    Rep w X g (.sl sz n' f') (.slice (some ⟨b, off + l * sz, none⟩) n' cap) := by
  have hmul : ∀ i, i < n' → (l + i + 1) * sz ≤ n * sz := fun i hi => Nat.mul_le_mul_right _ (by omega)
  have hle : (l + n') * sz ≤ n * sz := Nat.mul_le_mul_right _ hl
  rw [Nat.add_mul] at hle
  refine .sl _ _ _ b _ cap ((vs.drop (l * sz)).take (n' * sz)) (by simp; omega) hcap (fun k u hk => ?_) (fun i hi => by rw [hf i hi]; exact hc _ (by omega)) (fun i j c u hi hj hu => ?_)
  · rw [List.getElem?_take] at hk
    split at hk
    · rw [List.getElem?_drop] at hk
      rw [Nat.add_assoc]
      exact hcell _ u hk
    · cases hk
  · rw [List.getElem?_take] at hu
    split at hu
    · rw [List.getElem?_drop] at hu
      rw [hf i hi] at hj
      exact hr (l + i) j c u (by omega) hj (by rw [Nat.add_mul, Nat.add_assoc]; exact hu)
    · cases hu

theorem sl_of_os {sz n : Nat} {f : Nat → AV} {oi : Option Id} {u : Value} (hx : Rep w X g (.os sz n f oi) u) : Rep w X g (.sl sz n f) u := by
  cases hx with
  | os0 sz f a => exact .sl0 sz f a 0
  | osn _ _ _ b off vs hlen hcell hcs hr => exact .sl _ _ _ b off n vs hlen (Nat.le_refl _) hcell hcs hr
  | oss _ _ _ i' b cap vs hg hlen hcap hcell _ hcs hr => exact .sl _ _ _ b 0 cap vs hlen hcap (fun k u hk => by rw [Nat.zero_add]; exact hcell k u hk) hcs hr

theorem slice_bounds {e : TypeId} {t : TypeId} (ht : P.underlying t = some (.slice e)) {d : TypeDesc} (hd : P.underlying e = some d) {sz n : Nat} (hsz : sz = P.cellsOf e) {f : Nat → AV} {u : Value} (hx : Rep w X g (.sl sz n f) u) (l n' : Nat) (hl : l + n' ≤ n)
    (lo hi : Option Value) (hlo : (lo = none ∧ l = 0) ∨ ∃ k, lo = some (.int k l)) (hhi : (hi = none ∧ l + n' = n) ∨ ∃ k, hi = some (.int k ((l + n' : Nat) : Int))) :
    ∃ u', (Instr.sliceAt t u lo hi none).run P w = .ok u' w ∧ Rep w X g (.sl sz n' (fun k => f (l + k))) u' := by
  have hN : ∀ (N cap : Nat), n = N → n ≤ cap → (Instr.sliceBounds true n cap lo hi none).run P w = .ok (l, l + n', cap) w := by
    intro N cap _ hcap
    have e1 : (l : Int) ≤ ((l + n' : Nat) : Int) := by omega
    have e2 : ((l + n' : Nat) : Int) ≤ (cap : Int) := by omega
    have e3 : ¬ cap < l + n' := by omega
    rcases hlo with ⟨rfl, rfl⟩ | ⟨k, rfl⟩ <;> rcases hhi with ⟨rfl, hh⟩ | ⟨k', rfl⟩
    · simp [Instr.sliceBounds, ← hh]
    · simp [Instr.sliceBounds, Instr.sliceBound, asIntOf]
      omega
    · have e4 : l ≤ n := by omega
      simp [Instr.sliceBounds, Instr.sliceBound, asIntOf, hh, e4]
    · have e5 : (0 : Int) ≤ (l : Int) + (n' : Int) := by omega
      have e6 : (l : Int) + (n' : Int) ≤ (cap : Int) := by omega
      have e7 : ((l : Int) + (n' : Int)).toNat = l + n' := by omega
      simp [Instr.sliceBounds, Instr.sliceBound, asIntOf, e5, e6, e7]
  cases hx with
  | sl0 _ _ a cap =>
    have hl0 : l = 0 ∧ n' = 0 := by omega
    obtain ⟨rfl, rfl⟩ := hl0
    refine ⟨.slice (if cap = 0 then a else a.map (·.add (0 * P.cellsOf e))) 0 (cap - 0), ?_, .sl0 _ _ _ _⟩
    simp only [Instr.sliceAt, Sem.run_bind, run_underlying ht, Result.andThen_ok, Instr.slice, hN 0 cap rfl (Nat.zero_le _), run_sizeOf' hd, Sem.run_pure, Nat.add_zero, Nat.sub_zero]
  | sl _ _ _ b off cap vs hlen hcap hcell hcs hr =>
    by_cases hcl : cap = l
    · have h0 : n' = 0 := by omega
      subst h0
      refine ⟨.slice (some ⟨b, off, none⟩) 0 (cap - l), ?_, .sl0 _ _ _ _⟩
      simp only [Instr.sliceAt, Sem.run_bind, run_underlying ht, Result.andThen_ok, Instr.slice, hN n cap rfl hcap, run_sizeOf' hd, Sem.run_pure, Nat.add_zero, Nat.sub_self, if_pos hcl]
    · refine ⟨.slice (some ⟨b, off + l * sz, none⟩) n' (cap - l), ?_, rep_sl hlen hcell hcs hr hl (by omega) (fun _ _ => rfl)⟩
      simp only [Instr.sliceAt, Sem.run_bind, run_underlying ht, Result.andThen_ok, Instr.slice, hN n cap rfl hcap, run_sizeOf' hd, Sem.run_pure, if_neg hcl, Option.map_some, add_none, ← hsz, Nat.add_sub_cancel_left]

theorem aelem_row {e : TypeId} {cs : List AV} {n : Nat} (hlen : cs.length = n * P.cellsOf e) (h1 : oneOk P e cs = true) {vs : List Value} (hn : vs.length = cs.length)
    (hr : ∀ (k : Nat) (c : AV) (u : Value), cs[k]? = some c → vs[k]? = some u → Rep w X g c u) :
    (∀ i, i < n → (aelem P e cs i).cells.length = P.cellsOf e) ∧ (∀ (i j : Nat) (c : AV) (u : Value), i < n → (aelem P e cs i).cells[j]? = some c → vs[i * P.cellsOf e + j]? = some u → Rep w X g c u) := by
  unfold oneOk at h1
  cases hd : P.underlying e with
  | none => simp [hd] at h1
  | some d =>
    simp only [hd] at h1
    cases ha : agD d with
    | true =>
      refine ⟨fun i hi => ?_, fun i j c u hi hj hu => ?_⟩
      · have hle : (i + 1) * P.cellsOf e ≤ n * P.cellsOf e := Nat.mul_le_mul_right _ hi
        rw [Nat.add_mul, Nat.one_mul] at hle
        simp [aelem, hd, ha, AV.cells]; omega
      · simp only [aelem, hd, ha, cond_true, AV.cells] at hj
        rw [List.getElem?_take] at hj
        split at hj
        · rw [List.getElem?_drop] at hj
          exact hr _ c u hj hu
        · cases hj
    | false =>
      simp only [ha, cond_false, Bool.and_eq_true, List.all_eq_true] at h1
      have h2 := Nat.eq_of_beq_eq_true h1.1
      have cell : ∀ i, i < n → ∃ c, cs[i]? = some c ∧ aelem P e cs i = c ∧ c.cells = [c] := fun i hi => by
        have hlt : i < cs.length := by rw [hlen, h2]; omega
        refine ⟨cs[i], List.getElem?_eq_getElem hlt, by simp [aelem, hd, ha, List.getD, List.getElem?_eq_getElem hlt], ?_⟩
        have := h1.2 cs[i] (List.getElem_mem hlt)
        generalize cs[i] = c at this
        cases c <;> first | rfl | simp [isCell] at this
      refine ⟨fun i hi => ?_, fun i j c u hi hj hu => ?_⟩
      · obtain ⟨c, _, h4, h5⟩ := cell i hi
        rw [h4, h5, h2]; rfl
      · obtain ⟨c', h3, h4, h5⟩ := cell i hi
        rw [h4, h5] at hj
        cases j with
        | zero => simp at hj; subst hj; rw [h2] at hu; simp at hu; exact hr i _ u h3 hu
        | succ j => simp at hj

theorem aslice_sound {t : TypeId} {x : AV} {lo hi mx : Option AV} {C : Option Prop} {r : AV} {u : Value} {vlo vhi vmx : Option Value} (h1 : aslice P t x lo hi mx = some (C, r)) (hc : condP C) (hx : Rep w X g x u)
    (hlo : ∀ a, lo = some a → ∃ v, vlo = some v ∧ Rep w X g a v) (hlo' : lo = none → vlo = none) (hhi : ∀ a, hi = some a → ∃ v, vhi = some v ∧ Rep w X g a v) (hhi' : hi = none → vhi = none)
    (hmx : ∀ a, mx = some a → ∃ v, vmx = some v ∧ Rep w X g a v) (hmx' : mx = none → vmx = none) : Gives P (Instr.sliceAt t u vlo vhi vmx) h w X g r := by
  have iv : ∀ {o : Option AV} {vo : Option Value} {k : IntKind} {i : Int}, (∀ a, o = some a → ∃ v, vo = some v ∧ Rep w X g a v) → o = some (.v (.int k i)) → vo = some (.int k i) := by
    intro o vo k i h1 h2
    obtain ⟨v, h3, h4⟩ := h1 _ h2
    have := rep_v h4
    subst this
    exact h3
  unfold aslice at h1
  split at h1
  · rename_i e ht
    cases hs : (P.underlying e).isSome with
    | false => simp [hs] at h1
    | true =>
      obtain ⟨d, hd⟩ := Option.isSome_iff_exists.1 hs
      simp only [hs, cond_true] at h1
      have rowcase : ∀ {sz n : Nat} {f : Nat → AV}, Rep w X g (.sl sz n f) u → ∀ (l n' : Nat), l + n' ≤ n → sz = P.cellsOf e → ((vlo = none ∧ l = 0) ∨ ∃ k, vlo = some (.int k l)) → ((vhi = none ∧ l + n' = n) ∨ ∃ k, vhi = some (.int k ((l + n' : Nat) : Int))) → vmx = none →
          Gives P (Instr.sliceAt t u vlo vhi vmx) h w X g (.sl sz n' (fun k => f (l + k))) := by
        intro sz n f hx l n' hl hsz h3 h4 h5
        subst h5
        obtain ⟨u', h6, h7⟩ := slice_bounds ht hd hsz hx l n' hl vlo vhi h3 h4
        exact gives_same h6 h7
      have all : ∀ {sz n : Nat} {f : Nat → AV}, Rep w X g (.sl sz n f) u → vlo = none → vhi = none → vmx = none → Gives P (Instr.sliceAt t u vlo vhi vmx) h w X g (.sl sz n f) := by
        intro sz n f hx h3 h4 h5
        subst h3; subst h4; subst h5
        have key : ∀ (a : Option Addr) (cap : Nat), (Instr.sliceAt t (.slice a n cap) none none none).run P w = .ok (.slice (if cap = 0 then a else a.map (·.add 0)) n cap) w := by
          intro a cap
          simp [Instr.sliceAt, run_underlying ht, Instr.slice, Instr.sliceBounds, run_sizeOf' hd]
        cases hx with
        | sl0 _ _ a cap => exact gives_same (key a cap) (.sl0 _ _ _ _)
        | sl _ _ _ b off cap vs hlen hcap hcell hcs hr =>
          refine gives_same (key _ cap) ?_
          have : (if cap = 0 then some (⟨b, off, none⟩ : Addr) else (some (⟨b, off, none⟩ : Addr)).map (·.add 0)) = some ⟨b, off, none⟩ := by split <;> simp [add_none]
          rw [this]
          exact .sl _ _ _ b off cap vs hlen hcap hcell hcs hr
      have full : ∀ {sz n : Nat} {f : Nat → AV} {i : Nat}, Rep w X g (.sl sz n f) u → i ≤ n → sz = P.cellsOf e → vlo = none → (∃ k, vhi = some (.int k i)) → (∃ k, vmx = some (.int k i)) → Gives P (Instr.sliceAt t u vlo vhi vmx) h w X g (.os sz i f none) := by
        intro sz n f i hx hi hsz h3 ⟨k, h4⟩ ⟨k', h5⟩
        subst h3; subst h4; subst h5
        have key : ∀ (a : Option Addr) (cap : Nat), n ≤ cap → (Instr.sliceAt t (.slice a n cap) none (some (.int k i)) (some (.int k' i))).run P w = .ok (.slice (if i = 0 then a else a.map (·.add 0)) i i) w := by
          intro a cap hcap
          have e1 : i ≤ cap := by omega
          have e2 : ¬ cap < i := by omega
          simp [Instr.sliceAt, run_underlying ht, Instr.slice, Instr.sliceBounds, Instr.sliceBound, asIntOf, run_sizeOf' hd, e1]
        cases hx with
        | sl0 _ _ a cap => 
          have : i = 0 := by omega
          subst this
          exact gives_same (key a cap (Nat.zero_le _)) (.os0 _ _ _)
        | sl _ _ _ b off cap vs hlen hcap hcell hcs hr =>
          refine gives_same (key _ cap hcap) ?_
          have : (if i = 0 then some (⟨b, off, none⟩ : Addr) else (some (⟨b, off, none⟩ : Addr)).map (·.add 0)) = some ⟨b, off, none⟩ := by split <;> simp [add_none]
          rw [this]
          have hle : i * sz ≤ n * sz := Nat.mul_le_mul_right _ hi
          refine .osn _ _ _ b off (vs.take (i * sz)) (by simp; omega) (fun k u hk => ?_) (fun j hj => hcs j (by omega)) (fun j k c u hj hk hu => ?_)
          · rw [List.getElem?_take] at hk
            split at hk
            · exact hcell _ u hk
            · cases hk
          · rw [List.getElem?_take] at hu
            split at hu
            · exact hr j k c u (by omega) hk hu
            · cases hu
      have nat : ∀ {i : Int} {k : IntKind}, 0 ≤ i → Value.int k i = .int k ((i.toNat : Nat) : Int) := fun h => by rw [Int.toNat_of_nonneg h]
      have zadd : ∀ {f : Nat → AV}, (fun k => f (0 + k)) = f := fun {f} => funext fun k => by rw [Nat.zero_add]
      split at h1
      · cases h1; exact all hx (hlo' rfl) (hhi' rfl) (hmx' rfl)
      · rename_i sz n f k l
        cases hb : Nat.beq sz (P.cellsOf e) with
        | false => simp [hb] at h1
        | true =>
          simp only [hb, cond_true, Option.some.injEq, Prod.mk.injEq] at h1
          obtain ⟨rfl, rfl⟩ := h1
          simp only [condP] at hc
          exact rowcase hx l.toNat (n - l.toNat) (by omega) (Nat.eq_of_beq_eq_true hb) (.inr ⟨k, by rw [iv hlo rfl, nat hc.1]⟩) (.inl ⟨hhi' rfl, by omega⟩) (hmx' rfl)
      · rename_i sz n f k i
        cases hb : Nat.beq sz (P.cellsOf e) with
        | false => simp [hb] at h1
        | true =>
          simp only [hb, cond_true, Option.some.injEq, Prod.mk.injEq] at h1
          obtain ⟨rfl, rfl⟩ := h1
          simp only [condP] at hc
          have := rowcase hx 0 i.toNat (by omega) (Nat.eq_of_beq_eq_true hb) (.inl ⟨hlo' rfl, rfl⟩) (.inr ⟨k, by rw [iv hhi rfl, nat hc.1, Nat.zero_add]⟩) (hmx' rfl)
          rw [zadd] at this
          exact this
      · rename_i sz n f k l k' i
        cases hb : Nat.beq sz (P.cellsOf e) with
        | false => simp [hb] at h1
        | true =>
          simp only [hb, cond_true, Option.some.injEq, Prod.mk.injEq] at h1
          obtain ⟨rfl, rfl⟩ := h1
          simp only [condP] at hc
          exact rowcase hx l.toNat (i.toNat - l.toNat) (by omega) (Nat.eq_of_beq_eq_true hb) (.inr ⟨k, by rw [iv hlo rfl, nat hc.1]⟩) (.inr ⟨k', by rw [iv hhi rfl]; congr 2; omega⟩) (hmx' rfl)
      · rename_i sz n f k i k' m
        cases hb : Nat.beq sz (P.cellsOf e) with
        | false => simp [hb] at h1
        | true =>
          simp only [hb, cond_true, Option.some.injEq, Prod.mk.injEq] at h1
          obtain ⟨rfl, rfl⟩ := h1
          simp only [condP] at hc
          obtain ⟨c1, c2, rfl⟩ := hc
          exact full hx (by omega) (Nat.eq_of_beq_eq_true hb) (hlo' rfl) ⟨k, by rw [iv hhi rfl, nat c1]⟩ ⟨k', by rw [iv hmx rfl, nat c1]⟩
      · cases h1; exact all (sl_of_os hx) (hlo' rfl) (hhi' rfl) (hmx' rfl)
      · rename_i sz n f oi k l
        cases hb : Nat.beq sz (P.cellsOf e) with
        | false => simp [hb] at h1
        | true =>
          simp only [hb, cond_true, Option.some.injEq, Prod.mk.injEq] at h1
          obtain ⟨rfl, rfl⟩ := h1
          simp only [condP] at hc
          exact rowcase (sl_of_os hx) l.toNat (n - l.toNat) (by omega) (Nat.eq_of_beq_eq_true hb) (.inr ⟨k, by rw [iv hlo rfl, nat hc.1]⟩) (.inl ⟨hhi' rfl, by omega⟩) (hmx' rfl)
      · rename_i sz n f oi k i
        cases hb : Nat.beq sz (P.cellsOf e) with
        | false => simp [hb] at h1
        | true =>
          simp only [hb, cond_true, Option.some.injEq, Prod.mk.injEq] at h1
          obtain ⟨rfl, rfl⟩ := h1
          simp only [condP] at hc
          have := rowcase (sl_of_os hx) 0 i.toNat (by omega) (Nat.eq_of_beq_eq_true hb) (.inl ⟨hlo' rfl, rfl⟩) (.inr ⟨k, by rw [iv hhi rfl, nat hc.1, Nat.zero_add]⟩) (hmx' rfl)
          rw [zadd] at this
          exact this
      · rename_i sz n f oi k l k' i
        cases hb : Nat.beq sz (P.cellsOf e) with
        | false => simp [hb] at h1
        | true =>
          simp only [hb, cond_true, Option.some.injEq, Prod.mk.injEq] at h1
          obtain ⟨rfl, rfl⟩ := h1
          simp only [condP] at hc
          exact rowcase (sl_of_os hx) l.toNat (i.toNat - l.toNat) (by omega) (Nat.eq_of_beq_eq_true hb) (.inr ⟨k, by rw [iv hlo rfl, nat hc.1]⟩) (.inr ⟨k', by rw [iv hhi rfl]; congr 2; omega⟩) (hmx' rfl)
      · cases h1
  · rename_i ht
    have out : ∀ {s : ByteArray}, u = .string s → (l i : Nat) → l ≤ i → i ≤ s.size → ((vlo = none ∧ l = 0) ∨ ∃ k, vlo = some (.int k l)) → ((vhi = none ∧ i = s.size) ∨ ∃ k, vhi = some (.int k i)) → vmx = none →
        (Instr.sliceAt t u vlo vhi vmx).run P w = .ok (.string (s.extract l i)) w := by
      intro s hu l i h1 h2 h3 h4 h5
      subst hu; subst h5
      rcases h3 with ⟨rfl, rfl⟩ | ⟨k, rfl⟩ <;> rcases h4 with ⟨rfl, rfl⟩ | ⟨k', rfl⟩
      · simp [Instr.sliceAt, run_underlying ht, Instr.slice, Instr.sliceBounds]
      · simp [Instr.sliceAt, run_underlying ht, Instr.slice, Instr.sliceBounds, Instr.sliceBound, asIntOf, h2]
      · simp [Instr.sliceAt, run_underlying ht, Instr.slice, Instr.sliceBounds, Instr.sliceBound, asIntOf, h1]
      · simp [Instr.sliceAt, run_underlying ht, Instr.slice, Instr.sliceBounds, Instr.sliceBound, asIntOf, h1, h2]
    have nat : ∀ {i : Int} {k : IntKind}, 0 ≤ i → Value.int k i = .int k ((i.toNat : Nat) : Int) := fun h => by rw [Int.toNat_of_nonneg h]
    split at h1
    · have := rep_v hx; cases h1
      exact gives_same (out this 0 _ (Nat.zero_le _) (Nat.le_refl _) (.inl ⟨hlo' rfl, rfl⟩) (.inl ⟨hhi' rfl, rfl⟩) (hmx' rfl)) (.v _)
    · have := rep_v hx; simp only [Option.some.injEq, Prod.mk.injEq] at h1; obtain ⟨rfl, rfl⟩ := h1; simp only [condP] at hc
      exact gives_same (out this _ _ (by omega) (Nat.le_refl _) (.inr ⟨_, by rw [iv hlo rfl, nat hc.1]⟩) (.inl ⟨hhi' rfl, rfl⟩) (hmx' rfl)) (.v _)
    · have := rep_v hx; simp only [Option.some.injEq, Prod.mk.injEq] at h1; obtain ⟨rfl, rfl⟩ := h1; simp only [condP] at hc
      exact gives_same (out this 0 _ (Nat.zero_le _) (by omega) (.inl ⟨hlo' rfl, rfl⟩) (.inr ⟨_, by rw [iv hhi rfl, nat hc.1]⟩) (hmx' rfl)) (.v _)
    · have := rep_v hx; simp only [Option.some.injEq, Prod.mk.injEq] at h1; obtain ⟨rfl, rfl⟩ := h1; simp only [condP] at hc
      exact gives_same (out this _ _ (by omega) (by omega) (.inr ⟨_, by rw [iv hlo rfl, nat hc.1]⟩) (.inr ⟨_, by rw [iv hhi rfl, nat (by omega)]⟩) (hmx' rfl)) (.v _)
    · cases h1
  · rename_i n e ht
    cases hs : (P.underlying e).isSome with
    | false => simp [hs] at h1
    | true =>
      obtain ⟨d, hd⟩ := Option.isSome_iff_exists.1 hs
      simp only [hs, cond_true] at h1
      have key : ∀ (b off : Nat), u = .pointer (some ⟨b, off, none⟩) → vlo = none → vhi = none → vmx = none → (Instr.sliceAt t u vlo vhi vmx).run P w = .ok (.slice (some ⟨b, off, none⟩) n n) w := by
        intro b off h2 h3 h4 h5
        subst h2; subst h3; subst h4; subst h5
        have : (if n = 0 then (⟨b, off, none⟩ : Addr) else (⟨b, off, none⟩ : Addr).add 0) = ⟨b, off, none⟩ := by split <;> simp [add_none]
        simp [Instr.sliceAt, run_underlying ht, Instr.sureAddr, Instr.sliceBounds, run_sizeOf' hd, this]
      split at h1
      · cases h1
        cases hx with
        | bp _ _ b hg => exact gives_same (key b _ rfl (hlo' rfl) (hhi' rfl) (hmx' rfl)) (.hs _ _ _ _ b hg)
      · rename_i cs
        cases hb : Nat.beq cs.length (n * P.cellsOf e) && (Nat.blt 0 (P.cellsOf e) && oneOk P e cs) with
        | false => simp [hb] at h1
        | true =>
          simp only [hb, cond_true, Option.some.injEq, Prod.mk.injEq] at h1
          obtain ⟨rfl, rfl⟩ := h1
          simp only [Bool.and_eq_true] at hb
          have hl := Nat.eq_of_beq_eq_true hb.1
          cases hx with
          | rp _ b off vs hn hcell hr =>
            obtain ⟨q1, q2⟩ := aelem_row (P := P) (w := w) (X := X) (g := g) hl hb.2.2 hn hr
            exact gives_same (key b off rfl (hlo' rfl) (hhi' rfl) (hmx' rfl)) (.sl _ _ _ b off n vs (by rw [hn, hl]) (Nat.le_refl _) hcell q1 q2)
      · rename_i cs k i
        simp only [Option.some.injEq, Prod.mk.injEq] at h1
        obtain ⟨rfl, rfl⟩ := h1
        simp only [condP] at hc
        obtain ⟨⟨hl, hb⟩, hc⟩ := hc
        have hone := hb
        have hi : vhi = some (.int k i) := iv hhi rfl
        have hin : i.toNat ≤ n := by omega
        cases hx with
        | rp _ b off vs hn hcell hr =>
          obtain ⟨q1, q2⟩ := aelem_row (P := P) (w := w) (X := X) (g := g) hl hb hn hr
          have h2 : (Instr.sliceAt t (.pointer (some ⟨b, off, none⟩)) vlo vhi vmx).run P w = .ok (.slice (some ⟨b, off, none⟩) i.toNat n) w := by
            rw [hlo' rfl, hi, hmx' rfl]
            have e1 : (if n = 0 then (⟨b, off, none⟩ : Addr) else (⟨b, off, none⟩ : Addr).add 0) = ⟨b, off, none⟩ := by split <;> simp [add_none]
            have e2 : ¬ i < 0 := by omega
            simp [Instr.sliceAt, run_underlying ht, Instr.sureAddr, Instr.sliceBounds, Instr.sliceBound, asIntOf, run_sizeOf' hd, e1, e2, hin]
            intro h3; omega
          refine gives_same h2 (.sl _ _ _ b off n (vs.take (i.toNat * P.cellsOf e)) ?_ hin (fun j v hj => ?_) (fun j hj => q1 j (by omega)) (fun j m c v hj hm hv => q2 j m c v (by omega) hm ?_))
          · rw [List.length_take, hn, hl]
            exact Nat.min_eq_left (Nat.mul_le_mul_right _ hin)
          · rw [List.getElem?_take] at hj
            split at hj
            · exact hcell j v hj
            · cases hj
          · rw [List.getElem?_take] at hv
            split at hv
            · exact hv
            · cases hv
      · cases h1
  · cases h1
end sound
end Go.Vl
