/- Maps: what they give, how they are written. -/
import Derived.Test.YtgllcdchhfcoiaaVl8
import Derived.Test.YtgllcdchhfcoiaaVlA
namespace Go.Vl
open Go.RowKit
variable {P : Program} {w : World} {X : Nat → Nat → Prop} {g : List Nat} {h : Heap}

theorem kindEq_refl (k : IntKind) : kindEq k k = true := by cases k <;> rfl
theorem same_of_key {d : TypeDesc} {a b : Value} (ha : keyFit d a = true) (hb : keyFit d b = true) : Instr.sameNow d a b = some (keyIs a b) := by
  unfold keyFit at ha
  split at ha
  · rename_i k k' n
    have := kindEq_eq ha; subst this
    unfold keyFit at hb
    split at hb
    · rename_i k2 k2' n2 hd
      cases hd
      have := kindEq_eq hb; subst this
      simp [Instr.sameNow, keyIs, kindEq_refl]
    · rename_i hd; cases hd
    · rename_i hd; cases hd
    · cases hb
  · unfold keyFit at hb
    split at hb
    · rename_i hd; cases hd
    · simp [Instr.sameNow, keyIs, beq_toListBytes]
    · rename_i hd; cases hd
    · cases hb
  · unfold keyFit at hb
    split at hb
    · rename_i hd; cases hd
    · rename_i hd; cases hd
    · simp [Instr.sameNow, keyIs]
    · cases hb
  · cases ha
theorem key_eq {a b : Value} (h : keyIs a b = true) : b = a := by
  unfold keyIs at h
  split at h
  · simp only [Bool.and_eq_true, beq_iff_eq] at h
    rw [kindEq_eq h.1, h.2]
  · rename_i x y
    rw [ByteArray.toList_eq, ByteArray.toList_eq] at h
    obtain ⟨⟨x⟩⟩ := x
    obtain ⟨⟨y⟩⟩ := y
    have h : x = y := eq_of_beq h
    rw [h]
  · simp only [beq_iff_eq] at h; rw [h]
  · cases h
theorem checkKey_run {d : TypeDesc} {kt : TypeId} {key : Value} {b : Bool} (hd : P.underlying kt = some d) (hk : keyFit d key = true) : (Instr.checkKey b 10000 kt key).run P w = .ok () w := by
  unfold Instr.checkKey
  simp only [Sem.run_bind, run_underlying hd, Result.andThen_ok]
  unfold keyFit at hk
  split at hk <;> first | rfl | (cases hk)

/-- Entries read so. -/
def EntsRep (w : World) (X : Nat → Nat → Prop) (g : List Nat) (es : List (Value × AV)) (ents : List MapEntry) : Prop :=
  ents.length = es.length ∧ ∀ (k : Nat) (p : Value × AV) (e : MapEntry), es[k]? = some p → ents[k]? = some e → e.key = p.1 ∧ Rep w X g p.2 e.val
theorem findNow_none {d : TypeDesc} {key : Value} (hk : keyFit d key = true) : ∀ (es : List (Value × AV)) (ents : List MapEntry) (i : Nat), keysFit d es = true → EntsRep w X g es ents → alook key es = none →
    Instr.findNow d key ents i = some none
  | [], [], i, _, _, _ => rfl
  | [], e :: ents, i, _, h, _ => by have := h.1; simp at this
  | p :: es, [], i, _, h, _ => by have := h.1; simp at this
  | p :: es, e :: ents, i, hf, h, hl => by
    simp only [keysFit, List.all_cons, Bool.and_eq_true] at hf
    have h0 := h.2 0 p e rfl rfl
    unfold alook at hl
    unfold Instr.findNow
    rw [h0.1, same_of_key hk hf.1]
    cases hb : keyIs key p.1 with
    | true => simp [hb] at hl
    | false =>
      simp only [hb, cond_false] at hl
      exact findNow_none hk es ents (i + 1) hf.2 ⟨by have := h.1; simpa using this, fun k p' e' h1 h2 => h.2 (k + 1) p' e' (by simpa using h1) (by simpa using h2)⟩ hl
theorem findNow_some {d : TypeDesc} {key : Value} (hk : keyFit d key = true) : ∀ (es : List (Value × AV)) (ents : List MapEntry) (i : Nat) (v : AV), keysFit d es = true → EntsRep w X g es ents → alook key es = some v →
    ∃ j e, ents[j]? = some e ∧ es[j]? = some (key, v) ∧ e.key = key ∧ Rep w X g v e.val ∧ Instr.findNow d key ents i = some (some (i + j, e.val)) ∧ ∀ x, aput key x es = es.set j (key, x)
  | [], [], i, v, _, _, hl => by simp [alook] at hl
  | [], e :: ents, i, v, _, h, _ => by have := h.1; simp at this
  | p :: es, [], i, v, _, h, _ => by have := h.1; simp at this
  | p :: es, e :: ents, i, v, hf, h, hl => by
    simp only [keysFit, List.all_cons, Bool.and_eq_true] at hf
    have h0 := h.2 0 p e rfl rfl
    unfold alook at hl
    unfold Instr.findNow
    rw [h0.1, same_of_key hk hf.1]
    cases hb : keyIs key p.1 with
    | true =>
      simp only [hb, cond_true, Option.some.injEq] at hl
      have hkey := key_eq hb
      subst hl
      obtain ⟨p1, p2⟩ := p
      dsimp only at hkey h0 hb
      subst hkey
      exact ⟨0, e, rfl, rfl, h0.1, h0.2, rfl, fun x => by simp [aput, hb]⟩
    | false =>
      simp only [hb, cond_false] at hl
      obtain ⟨j, e', q1, q2, q3, q4, q5, q6⟩ := findNow_some hk es ents (i + 1) v hf.2 ⟨by have := h.1; simpa using this, fun k p' e' h1 h2 => h.2 (k + 1) p' e' (by simpa using h1) (by simpa using h2)⟩ hl
      refine ⟨j + 1, e', by simpa using q1, by simpa using q2, q3, q4, ?_, fun x => by simp [aput, hb, q6]⟩
      rw [q5, Nat.add_assoc, Nat.add_comm 1 j]
theorem aput_none {key : Value} {x : AV} : ∀ (es : List (Value × AV)), alook key es = none → aput key x es = es ++ [(key, x)]
  | [], _ => rfl
  | p :: es, h => by
    unfold alook at h
    unfold aput
    cases hb : keyIs key p.1 with
    | true => simp [hb] at h
    | false =>
      simp only [hb, cond_false] at h ⊢
      rw [aput_none es h]; rfl
theorem findKey_run {d : TypeDesc} {kt : TypeId} {key : Value} {ents : List MapEntry} {r : Option (Nat × Value)} (hd : P.underlying kt = some d) (h : Instr.findNow d key ents 0 = some r) : (Instr.findKey kt key ents).run P w = .ok r w := by
  unfold Instr.findKey
  simp only [Sem.run_bind, run_underlying hd, Result.andThen_ok, h, Sem.run_pure]

theorem lookR_rep {o : Option AV} {z : AV} {ok : Bool} {u : Value} (h : Rep w X g (o.getD z) u) : Rep w X g (lookR o z ok) (if ok then .tuple #[u, .bool o.isSome] else u) := by
  unfold lookR
  cases ok with
  | false => exact h
  | true =>
    refine .tup [o.getD z, .v (.bool o.isSome)] [u, .bool o.isSome] rfl fun k c v hc hv => ?_
    match k, hc, hv with
    | 0, hc, hv => simp at hc hv; subst hc; subst hv; exact h
    | 1, hc, hv => simp at hc hv; subst hc; subst hv; exact .v _

theorem lookup_ents {t kt et : TypeId} {d : TypeDesc} {z key : Value} {ok : Bool} {es : List (Value × AV)} {ents : List MapEntry} {b clock : Nat} (ht : P.underlying t = some (.map kt et)) (hd : P.underlying kt = some d)
    (hz : (P.info? et).bind (·.zero) = some z) (hk : keyFit d key = true) (hf : keysFit d es = true) (hb : w.heap[b]? = some (.map ents.toArray clock)) (he : EntsRep w X g es ents) :
    ∃ u, (Instr.lookup t (.map (some b)) key ok).run P w = .ok u w ∧ Rep w X g (lookR (alook key es) (ofV z) ok) u := by
  have hg : (getObj b).run P w = .ok (.map ents.toArray clock) w := by simp [getObj, Sem.run, hb]
  cases hl : alook key es with
  | none =>
    refine ⟨if ok then .tuple #[z, .bool false] else z, ?_, lookR_rep (o := none) (rep_ofV z)⟩
    unfold Instr.lookup
    simp only [Sem.run_bind, run_underlying ht, Result.andThen_ok, hg, Sem.run_pure, checkKey_run hd hk, findKey_run hd (findNow_none hk es ents 0 hf he hl), run_zeroValue' hz]
  | some v =>
    obtain ⟨j, e, q1, q2, q3, q4, q5, q6⟩ := findNow_some hk es ents 0 v hf he hl
    refine ⟨if ok then .tuple #[e.val, .bool true] else e.val, ?_, lookR_rep (o := some v) q4⟩
    unfold Instr.lookup
    simp only [Sem.run_bind, run_underlying ht, Result.andThen_ok, hg, Sem.run_pure, checkKey_run hd hk, findKey_run hd q5]

theorem alookup_sound {t : TypeId} {x ix : AV} {ok : Bool} {C : Option Prop} {r : AV} {u v : Value} (h1 : alookup P t h x ix ok = some (C, r)) (hc : condP C) (hk : HOk w X g h) (hx : Rep w X g x u) (hi : Rep w X g ix v) :
    ∃ u', (Instr.lookup t u v ok).run P w = .ok u' w ∧ Rep w X g r u' := by
  unfold alookup at h1
  split at h1
  · rename_i kt et key ht
    have := rep_v hi; subst this
    split at h1
    · rename_i d z hd hz
      cases hkf : keyFit d v with
      | false => simp [hkf] at h1
      | true =>
        simp only [hkf, cond_true] at h1
        split at h1
        · rename_i es
          simp only [Option.some.injEq, Prod.mk.injEq] at h1
          obtain ⟨rfl, rfl⟩ := h1
          cases hx with
          | fm _ b ents clock hb _ hn hke hr => exact lookup_ents ht hd hz hkf hc hb ⟨hn, fun k p e q1 q2 => ⟨hke k p e q1 q2, hr k p e q1 q2⟩⟩
        · rename_i i
          split at h1
          · rename_i s es hs
            simp only [Option.some.injEq, Prod.mk.injEq] at h1
            obtain ⟨rfl, rfl⟩ := h1
            obtain ⟨hs2, hf⟩ : s = i.2 ∧ keysFit d es = true := hc
            subst hs2
            obtain ⟨b, hg, ents, hb, hn, hr⟩ := hk.bx _ (hgeto_mem hs)
            cases hx with
            | om _ b' hg' =>
              dsimp only at hg
              rw [hg] at hg'; cases hg'
              exact lookup_ents ht hd hz hkf hf hb ⟨hn, fun k p e q1 q2 => ⟨(hr k p e q1 q2).1, (hr k p e q1 q2).2.2⟩⟩
          · cases h1
        · simp only [Option.some.injEq, Prod.mk.injEq] at h1
          obtain ⟨rfl, rfl⟩ := h1
          have := rep_v hx; subst this
          refine ⟨if ok then .tuple #[z, .bool false] else z, ?_, lookR_rep (o := none) (rep_ofV z)⟩
          unfold Instr.lookup
          have hfn : (Instr.findKey kt v (#[] : Array MapEntry).toList).run P w = .ok none w := findKey_run hd rfl
          simp only [Sem.run_bind, run_underlying ht, Result.andThen_ok, Sem.run_pure, checkKey_run hd hkf, hfn, run_zeroValue' hz]
        · cases h1
    · cases h1
  · cases h1
end Go.Vl
