/- Objects of one's own, written: maps. -/
import Derived.Test.YtgllcdchhfcoiaaVlM
import Derived.Test.YtgllcdchhfcoiaaVlD
namespace Go.Vl
open Go.RowKit
variable {P : Program}

def isCells : Obj → Bool
  | .cells _ _ _ => true
  | _ => false
def isLoop : Obj → Bool
  | .loop _ => true
  | _ => false
theorem run_getObjG {w : World} {b : Nat} {o : Obj} (h : w.heap[b]? = some o) (hc : isCells o = false := by rfl) : (getObj b).run P w = .ok o w := by
  cases o <;> first | (simp [isCells] at hc; done) | simp [getObj, Sem.run, h]
def World.setO (w : World) (b : Nat) (o : Obj) : World := { w with heap := w.heap.setIfInBounds b o }
theorem run_setObjG {w : World} {b : Nat} {o o' : Obj} (h : w.heap[b]? = some o) (hc : isCells o = false := by rfl) : (setObj b o').run P w = .ok () (World.setO w b o') := by
  cases o <;> first | (simp [isCells] at hc; done) | simp [setObj, Sem.run, h, World.setO]
theorem setO_same {w : World} {b : Nat} {o o' : Obj} (h : w.heap[b]? = some o) : (World.setO w b o').heap[b]? = some o' := by
  have := lt_of_block h
  simp [World.setO, this]
theorem setO_other {w : World} {b k : Nat} {o' : Obj} (h : k ≠ b) : (World.setO w b o').heap[k]? = w.heap[k]? := by
  simp only [World.setO, Array.getElem?_setIfInBounds]
  simp [Ne.symm h]
theorem evo_setO {w : World} {b : Nat} {o o' : Obj} (hb : w.heap[b]? = some o) (hc : isCells o = false) (hl : isLoop o = true → isLoop o' = true) : Evo (fun b' _ => b' = b) w (World.setO w b o') := by
  refine ⟨rfl, rfl, rfl, by simp [World.setO], fun k _ hn' => setO_other (fun e => hn' 0 e), fun k o _ hn' => World.cell?_of_block (a := ⟨k, o, none⟩) (setO_other hn'), fun k us e' fz hb' => ?_, fun k l hl' => ?_⟩
  · by_cases hkb : k = b
    · subst hkb; rw [hb] at hb'; cases hb'; simp [isCells] at hc
    · exact ⟨us, (setO_other hkb).trans hb', rfl⟩
  · by_cases hkb : k = b
    · subst hkb; rw [hb] at hl'; cases hl'
      have := hl rfl
      cases o' <;> first | (simp [isLoop] at this; done) | exact ⟨_, setO_same hb⟩
    · exact ⟨l, (setO_other hkb).trans hl'⟩

theorem aop_makeMap {o : Oper} {t : TypeId} {E : Env} {K : Env → Prop} (ho : o.op = .makeMap t none)
    (hk : K (({ E with h := E.h.addo (.mp []) } : Env).set o.dst (.om (E.h.nn, E.h.nx)))) : AOp P o E K := by
  intro ro X M w0 a w g hs next Q hn hp
  obtain ⟨h1, h2, _⟩ := hs.obj (x := .mp []) (.map #[] 0) (fun X' g' hst hnew => ⟨[], hnew, rfl, fun k p e hk => by simp at hk⟩)
  refine wpIn_of_run (by rw [ho]; intro c h; cases h) ?_
  have : (execOp a.eval o).run P w = .ok (.value (.map (some w.heap.size))) (w.alloc (.map #[] 0)) := by
    unfold execOp
    simp only [ho, Instr.makeMap]
    simp [newObj, Sem.run]
  rw [this]
  exact hn _ _ _ _ hk (fun i b h => by rw [List.getElem?_append_left (List.getElem?_eq_some_iff.1 h).1]; exact h) (h1.put o.dst (.om _ _ h2))

theorem sameBits_refl {d : TypeDesc} {key : Value} (hk : keyFit d key = true) : Instr.sameBits 10000 key key = true := by
  unfold keyFit at hk
  split at hk
  · simp [Instr.sameBits]
  · simp [Instr.sameBits, beq_toListBytes]
  · simp [Instr.sameBits]
  · cases hk

theorem mapUpdate_run {t kt et : TypeId} {d : TypeDesc} {key v : Value} {x : AV} {es : List (Value × AV)} {w : World} {X : Nat → Nat → Prop} {g : List Nat} {b : Nat} (ht : P.underlying t = some (.map kt et)) (hd : P.underlying kt = some d)
    (hk : keyFit d key = true) (hf : keysFit d es = true) (hb : OwnRep w X g b (.mp es)) (hx : Rep w X g x v) :
    ∃ ents' : List MapEntry, (Instr.mapUpdate t (.map (some b)) key v).run P w = .ok () (World.setO w b (.map ents'.toArray ents'.length)) ∧ ents'.length = (aput key x es).length ∧
      ∀ (k : Nat) (p : Value × AV) (e : MapEntry), (aput key x es)[k]? = some p → ents'[k]? = some e → e.key = p.1 ∧ e.born = k ∧ Rep w X g p.2 e.val := by
  obtain ⟨ents, h1, h2, h3⟩ := hb
  have he : EntsRep w X g es ents := ⟨h2, fun k p e q1 q2 => ⟨(h3 k p e q1 q2).1, (h3 k p e q1 q2).2.2⟩⟩
  have hg := run_getObjG (P := P) h1
  cases hl : alook key es with
  | none =>
    refine ⟨ents ++ [⟨key, v, ents.length⟩], ?_, by rw [aput_none es hl]; simp [h2], fun k p e q1 q2 => ?_⟩
    · unfold Instr.mapUpdate
      simp only [Sem.run_bind, run_underlying ht, Result.andThen_ok, hg, checkKey_run hd hk, findKey_run hd (findNow_none hk es ents 0 hf he hl)]
      rw [run_setObjG h1]
      simp
    · rw [aput_none es hl] at q1
      rcases Nat.lt_or_ge k es.length with hlt | hge
      · rw [List.getElem?_append_left hlt] at q1
        rw [List.getElem?_append_left (by omega)] at q2
        exact h3 k p e q1 q2
      · rw [List.getElem?_append_right hge] at q1
        rw [List.getElem?_append_right (by omega)] at q2
        have : k = es.length := by
          have := (List.getElem?_eq_some_iff.1 q1).1; simp at this; omega
        subst this
        rw [Nat.sub_self] at q1
        rw [h2, Nat.sub_self] at q2
        simp at q1 q2
        subst q1; subst q2
        exact ⟨rfl, rfl, hx⟩
  | some v0 =>
    obtain ⟨j, e0, q1, q2, q3, q4, q5, q6⟩ := findNow_some hk es ents 0 v0 hf he hl
    have hj : j < ents.length := (List.getElem?_eq_some_iff.1 q1).1
    have hje : ents[j] = e0 := (List.getElem?_eq_some_iff.1 q1).2
    refine ⟨ents.set j ⟨key, v, e0.born⟩, ?_, by rw [q6]; simp [h2], fun k p e r1 r2 => ?_⟩
    · unfold Instr.mapUpdate
      simp only [Sem.run_bind, run_underlying ht, Result.andThen_ok, hg, checkKey_run hd hk, findKey_run hd q5, Nat.zero_add]
      have hks : (Instr.keyThatStays (((ents.toArray[j]?).map (·.key)).getD key) key).run P w = .ok key w := by
        simp [q1, q3, Instr.keyThatStays, sameBits_refl hk]
      simp only [hks, Result.andThen_ok]
      rw [run_setObjG h1]
      congr 2
      simp only [List.length_set]
      congr 1
      apply Array.ext'
      simp only [Array.toList_modify, List.modify_eq_set, Option.map_eq_map]
      rw [List.getElem?_eq_getElem hj]
      simp [hje]
    · rw [q6, List.getElem?_set] at r1
      rw [List.getElem?_set] at r2
      by_cases hjk : j = k
      · subst hjk
        have : j < es.length := by omega
        simp [this] at r1
        simp [hj] at r2
        subst r1; subst r2
        have := h3 j _ e0 q2 q1
        exact ⟨rfl, this.2.1, hx⟩
      · simp [hjk] at r1 r2
        exact h3 k p e r1 r2

theorem aop_mapUpdate {o : Oper} {t kt et : TypeId} {d : TypeDesc} {m k x : Operand} {key : Value} {i : Id} {es : List (Value × AV)} {E : Env} {K : Env → Prop} (ho : o.op = .mapUpdate t m k x ∨ o.op = .insert t m k x)
    (ht : P.underlying t = some (.map kt et)) (hd : P.underlying kt = some d) (hm : E.ev m = .om i) (hkv : E.ev k = .v key) (hes : hgeto i.1 E.h.bx = some (i.2, .mp es)) (hk : keyFit d key = true) (hf : keysFit d es = true)
    (hK : K (({ E with h := { E.h with bx := hseto i.1 (.mp (aput key (E.ev x) es)) E.h.bx } } : Env).set o.dst .any)) : AOp P o E K := by
  intro ro X M w0 a w g hs next Q hn hp
  obtain ⟨b, hgb, hown⟩ := hs.hok.bx _ (hgeto_mem hes)
  dsimp only at hgb hown
  have hmv : a.eval m = .map (some b) := by
    have := hs.ev m
    rw [hm] at this
    generalize a.eval m = u at this
    cases this with
    | om _ b' hg' => rw [hgb] at hg'; cases hg'; rfl
  have hkv' : a.eval k = key := by
    have := hs.ev k
    rw [hkv] at this
    exact rep_v this
  obtain ⟨ents', h1, h2, h3⟩ := mapUpdate_run ht hd hk hf hown (hs.ev x)
  obtain ⟨ents, hb0, _⟩ := hown
  have hev := evo_setO (o' := .map ents'.toArray ents'.length) hb0 rfl (fun h => by cases h)
  have hnew := hs.setOwn (x := .mp (aput key (E.ev x) es)) hes hgb hev (fun hst => ⟨ents', setO_same hb0, h2, fun k p e q1 q2 => ⟨(h3 k p e q1 q2).1, (h3 k p e q1 q2).2.1, (h3 k p e q1 q2).2.2.stays hst⟩⟩)
  refine wpIn_of_run (by intro c h; rcases ho with ho | ho <;> (rw [ho] at h; cases h)) ?_
  have : (execOp a.eval o).run P w = .ok .skip (World.setO w b (.map ents'.toArray ents'.length)) := by
    unfold execOp
    rcases ho with ho | ho <;> (simp only [ho, hmv, hkv', Sem.run_bind, h1, Result.andThen_ok, Sem.run_pure])
  rw [this]
  exact hn _ _ _ g hK (fun _ _ h => h) (hnew.put o.dst (.any _))

theorem aop_makeChan {o : Oper} {t e : TypeId} {d : ChanDir} {s : Operand} {k : IntKind} {n : Int} {inf : TypeInfo} {E : Env} {K : Env → Prop} (ho : o.op = .makeChan t s) (ht : P.underlying t = some (.chan d e)) (hi : P.info? e = some inf)
    (hn0 : E.ev s = .v (.int k n)) (h0 : 0 ≤ n) (h1 : n ≤ 9223372036854775807) (h2 : (inf.bytes : Int) * n ≤ 281474976710544)
    (hk : K (({ E with h := E.h.addo (.ch n.toNat []) } : Env).set o.dst (.oc (E.h.nn, E.h.nx)))) : AOp P o E K := by
  intro ro X M w0 a w g hs next Q hn hp
  obtain ⟨q1, q2, _⟩ := hs.obj (x := .ch n.toNat []) (.chan n.toNat #[] false 0 0 false) (fun X' g' hst hnew => ⟨[], 0, 0, hnew, rfl, fun k p e hk => by simp at hk⟩)
  have hv : a.eval s = .int k n := by
    have := hs.ev s
    rw [hn0] at this
    exact rep_v this
  refine wpIn_of_run (by rw [ho]; intro c h; cases h) ?_
  have : (execOp a.eval o).run P w = .ok (.value (.chan (some w.heap.size))) (w.alloc (.chan n.toNat #[] false 0 0 false)) := by
    have hc : ¬ (n < 0 ∨ n > IntKind.i64.max ∨ (inf.bytes : Int) * n > 2 ^ 48 - 112) := by
      simp [IntKind.max, IntKind.signed, IntKind.bits]; omega
    unfold execOp
    simp only [ho, hv, Instr.makeChan, asInt, pure_bind, Sem.run_bind, run_underlying ht, Result.andThen_ok, typeInfo, run_program, hi, Sem.run_pure]
    have hi2 : (asIntOf (.int k n)).run P w = .ok (k, n) w := rfl
    rw [hi2]
    simp only [Result.andThen_ok, if_neg hc]
    simp [newObj, Sem.run]
  rw [this]
  exact hn _ _ _ _ hk (fun i b h => by rw [List.getElem?_append_left (List.getElem?_eq_some_iff.1 h).1]; exact h) (q1.put o.dst (.oc _ _ q2))
end Go.Vl
