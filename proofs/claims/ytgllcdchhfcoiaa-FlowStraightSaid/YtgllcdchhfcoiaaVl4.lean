/- What single operations give, told by values. -/
import Derived.Test.YtgllcdchhfcoiaaVl3
import Derived.Laws.AppendOwn
import Derived.Laws.StructEq
import Derived.Laws.Build
import Derived.Laws.Slices
namespace Go.Vl
open Go.RowKit
variable {P : Program}

def agD : TypeDesc → Bool
  | .struct _ | .array _ _ => true
  | _ => false

theorem run_isAgg' {t : TypeId} {d : TypeDesc} (h : P.underlying t = some d) (w : World) : (isAgg t).run P w = .ok (agD d) w := by
  simp only [isAgg, Sem.run_bind, run_underlying h, Result.andThen_ok]
  cases d <;> rfl
theorem info_of_und {t : TypeId} {d : TypeDesc} (h : P.underlying t = some d) : ∃ i, P.info? t = some i := by
  unfold Program.underlying at h
  cases hi : P.info? t with
  | none => simp [hi] at h
  | some i => exact ⟨i, rfl⟩
theorem run_sizeOf' {t : TypeId} {d : TypeDesc} (h : P.underlying t = some d) (w : World) : (sizeOf t).run P w = .ok (P.cellsOf t) w := by
  obtain ⟨i, hi⟩ := info_of_und h
  simp [sizeOf, typeInfo, hi, Program.cellsOf]

/-- A part of a row of cells. -/
def apart (P : Program) (t : TypeId) (cs : List AV) (off : Nat) : Option AV :=
  match P.underlying t with
  | some d => bif agD d then (bif Nat.ble (off + P.cellsOf t) cs.length then some (.ag ((cs.drop off).take (P.cellsOf t))) else none)
    else cs[off]?
  | none => none

theorem ble_true {a b : Nat} (h : Nat.ble a b = true) : a ≤ b := Nat.le_of_ble_eq_true h

theorem apart_sound {t : TypeId} {cs : List AV} {off : Nat} {r : AV} (h : apart P t cs off = some r) {w : World} {X : Nat → Nat → Prop} {g : List Nat} {vs : List Value} (hn : vs.length = cs.length)
    (hr : ∀ (k : Nat) (c : AV) (u : Value), cs[k]? = some c → vs[k]? = some u → Rep w X g c u) : ∃ u, (part t vs.toArray off).run P w = .ok u w ∧ Rep w X g r u := by
  unfold apart at h
  cases hd : P.underlying t with
  | none => simp [hd] at h
  | some d =>
    simp only [hd] at h
    cases ha : agD d with
    | true =>
      simp only [ha, cond_true] at h
      cases hb : Nat.ble (off + P.cellsOf t) cs.length with
      | false => simp [hb] at h
      | true =>
        simp only [hb, cond_true, Option.some.injEq] at h
        subst h
        have hle := ble_true hb
        refine ⟨.agg ((vs.drop off).take (P.cellsOf t)).toArray, ?_, ?_⟩
        · simp only [part, Sem.run_bind, run_isAgg' hd, Result.andThen_ok, ha, if_true, run_sizeOf' hd, Sem.run_pure]
          congr 2
          apply Array.ext'
          simp [Array.toList_extract, List.extract_eq_take_drop]
        · refine .ag _ _ (by simp; omega) fun k c u h1 h2 => ?_
          rw [List.getElem?_take] at h1 h2
          split at h1
          · rename_i hk
            rw [if_pos hk] at h2
            rw [List.getElem?_drop] at h1 h2
            exact hr _ _ _ h1 h2
          · cases h1
    | false =>
      simp only [ha, cond_false] at h
      have hlt : off < vs.length := by rw [hn]; exact (List.getElem?_eq_some_iff.1 h).1
      refine ⟨vs[off], ?_, hr off r _ h (List.getElem?_eq_getElem hlt)⟩
      simp only [part, Sem.run_bind, run_isAgg' hd, Result.andThen_ok, ha, Bool.false_eq_true, if_false, List.getElem?_toArray, List.getElem?_eq_getElem hlt, Sem.run_pure]

theorem add_none (b off k : Nat) : (⟨b, off, none⟩ : Addr).add k = ⟨b, off + k, none⟩ := by
  unfold Addr.add
  split
  · rename_i h; subst h; rfl
  · rfl

/-- A load at a place from which on the cells stand. -/
theorem loadVar_sound {t : TypeId} {cs : List AV} {r : AV} (h : apart P t cs 0 = some r) {w : World} {X : Nat → Nat → Prop} {g : List Nat} {vs : List Value} {b off : Nat} (hn : vs.length = cs.length)
    (hcell : ∀ (k : Nat) (u : Value), vs[k]? = some u → w.cell? ⟨b, off + k, none⟩ = some u)
    (hr : ∀ (k : Nat) (c : AV) (u : Value), cs[k]? = some c → vs[k]? = some u → Rep w X g c u) : ∃ u, (loadVar t ⟨b, off, none⟩).run P w = .ok u w ∧ Rep w X g r u := by
  unfold apart at h
  cases hd : P.underlying t with
  | none => simp [hd] at h
  | some d =>
    simp only [hd] at h
    cases ha : agD d with
    | true =>
      simp only [ha, cond_true, Nat.zero_add] at h
      cases hb : Nat.ble (P.cellsOf t) cs.length with
      | false => simp [hb] at h
      | true =>
        simp only [hb, cond_true, Option.some.injEq, List.drop_zero] at h
        subst h
        have hle := ble_true hb
        refine ⟨.agg (vs.take (P.cellsOf t)).toArray, ?_, ?_⟩
        · have hl := run_loadCells_list (P := P) w ⟨b, off, none⟩ (vs.take (P.cellsOf t)) (fun j v hj => by
            rw [add_none]
            rw [List.getElem?_take] at hj
            split at hj
            · exact hcell j v hj
            · cases hj)
          have hlen : (vs.take (P.cellsOf t)).length = P.cellsOf t := by simp; omega
          rw [hlen] at hl
          simp only [loadVar, Sem.run_bind, run_isAgg' hd, Result.andThen_ok, ha, if_true, run_sizeOf' hd, hl, Sem.run_pure]
        · refine .ag _ _ (by simp; omega) fun k c u h1 h2 => ?_
          rw [List.getElem?_take] at h1 h2
          split at h1
          · rename_i hk
            rw [if_pos hk] at h2
            exact hr _ _ _ h1 h2
          · cases h1
    | false =>
      simp only [ha, cond_false] at h
      have hlt : 0 < vs.length := by rw [hn]; exact (List.getElem?_eq_some_iff.1 h).1
      have hv : vs[0]? = some vs[0] := List.getElem?_eq_getElem hlt
      refine ⟨vs[0], ?_, hr 0 r _ h hv⟩
      have hc := hcell 0 _ hv
      simp only [Nat.add_zero] at hc
      simp [loadVar, run_isAgg' hd, ha, load, Sem.run, hc]

theorem loadAt_sound {t : TypeId} {cs : List AV} {r : AV} (h : apart P t cs 0 = some r) {w : World} {X : Nat → Nat → Prop} {g : List Nat} {u : Value} (hu : Rep w X g (.rp cs) u) :
    ∃ u', (Instr.loadAt t u).run P w = .ok u' w ∧ Rep w X g r u' := by
  cases hu with
  | rp cs b off vs hn hcell hr =>
    obtain ⟨u', h1, h2⟩ := loadVar_sound h (b := b) (off := off) hn (fun k u hk => (hcell k u hk).1) hr
    exact ⟨u', by simp [Instr.loadAt, Instr.sureAddr, h1], h2⟩

/-- Is it told what cells the value has? -/
def okCell : AV → Bool
  | .any => false
  | .v (.agg _) => false
  | _ => true

theorem rep_cells {a : AV} {u : Value} {w : World} {X : Nat → Nat → Prop} {g : List Nat} (ho : okCell a = true) (h : Rep w X g a u) :
    u.cells.toList.length = a.cells.length ∧ ∀ (k : Nat) (c : AV) (v : Value), a.cells[k]? = some c → u.cells.toList[k]? = some v → Rep w X g c v := by
  have one : ∀ {a : AV} {u : Value}, a.cells = [a] → u.cells = #[u] → Rep w X g a u → u.cells.toList.length = a.cells.length ∧ ∀ (k : Nat) (c : AV) (v : Value), a.cells[k]? = some c → u.cells.toList[k]? = some v → Rep w X g c v := by
    intro a u h1 h2 h3
    rw [h1, h2]
    refine ⟨rfl, fun k c v hc hv => ?_⟩
    cases k with
    | zero => simp at hc hv; subst hc; subst hv; exact h3
    | succ k => simp at hc
  cases h with
  | any u => simp [okCell] at ho
  | v _ =>
    cases u with
    | agg cs => simp [okCell] at ho
    | _ => exact one rfl rfl (.v _)
  | ag cs vs hn hr => exact ⟨by simpa [Value.cells, AV.cells] using hn, fun k c v hc hv => hr k c v hc (by simpa [Value.cells] using hv)⟩
  | tup cs vs hn hr => exact one rfl rfl (.tup cs vs hn hr)
  | fn f c1 c2 v1 v2 a1 a2 a3 a4 => exact one rfl rfl (.fn f c1 c2 v1 v2 a1 a2 a3 a4)
  | ifc t x u h => exact one rfl rfl (.ifc t x u h)
  | sl0 sz f a cap => exact one rfl rfl (.sl0 sz f a cap)
  | sl sz n f b off cap vs a1 a2 a3 a4 a5 => exact one rfl rfl (.sl sz n f b off cap vs a1 a2 a3 a4 a5)
  | os0 sz f a => exact one rfl rfl (.os0 sz f a)
  | osn sz n f b off vs a1 a2 a3 a4 => exact one rfl rfl (.osn sz n f b off vs a1 a2 a3 a4)
  | oss sz n f i b cap vs a1 a2 a3 a4 a5 a6 a7 => exact one rfl rfl (.oss sz n f i b cap vs a1 a2 a3 a4 a5 a6 a7)
  | rp cs b off vs a1 a2 a3 => exact one rfl rfl (.rp cs b off vs a1 a2 a3)
  | bp i off b a1 => exact one rfl rfl (.bp i off b a1)
  | hs i off n cap b a1 => exact one rfl rfl (.hs i off n cap b a1)
  | yl i b a1 => exact one rfl rfl (.yl i b a1)
  | om i b a1 => exact one rfl rfl (.om i b a1)
  | oc i b a1 => exact one rfl rfl (.oc i b a1)
  | fm es b ents clock a1 a2 a3 a4 a5 => exact one rfl rfl (.fm es b ents clock a1 a2 a3 a4 a5)

/-- Parts laid into cells. -/
def afill (place : Nat → Option (Nat × Nat)) (cells : List AV) : List (Nat × AV) → Option (List AV)
  | [] => some cells
  | (i, a) :: rest =>
    match place i with
    | none => none
    | some (off, size) => bif okCell a && (Nat.beq a.cells.length size && Nat.ble (off + size) cells.length) then afill place (cells.take off ++ (a.cells ++ cells.drop (off + size))) rest else none

theorem foldl_set (vs : List Value) : ∀ (off k : Nat) (cells : Array Value), off + k + vs.length ≤ cells.size →
    ((vs.zipIdx k).foldl (fun cs p => cs.setIfInBounds (off + p.2) p.1) cells).toList = cells.toList.take (off + k) ++ (vs ++ cells.toList.drop (off + k + vs.length)) := by
  induction vs with
  | nil => intro off k cells h; simp
  | cons v vs ih =>
    intro off k cells h
    simp only [List.length_cons] at h
    rw [List.zipIdx_cons, List.foldl_cons, ih off (k + 1) _ (by simp; omega)]
    simp only [Array.toList_setIfInBounds]
    have hlt : off + k < cells.toList.length := by simp; omega
    have e : (cells.toList.set (off + k) v).drop (off + (k + 1) + vs.length) = cells.toList.drop (off + k + (vs.length + 1)) := by
      rw [List.drop_set_of_lt (by omega)]
      congr 1
      omega
    rw [e, ← Nat.add_assoc, List.take_succ_eq_append_getElem (by simpa using hlt), List.take_set_of_le (by omega)]
    simp

theorem fill_sound {w : World} {X : Nat → Nat → Prop} {g : List Nat} {place : Nat → Option (Nat × Nat)} : ∀ (ps : List (Nat × AV)) (us : List (Nat × Value)) (cs : List AV) (vs : Array Value) (out : List AV),
    ps.length = us.length → (∀ (k i : Nat) (a : AV) (j : Nat) (u : Value), ps[k]? = some (i, a) → us[k]? = some (j, u) → i = j ∧ Rep w X g a u) → vs.toList.length = cs.length →
    (∀ (k : Nat) (c : AV) (u : Value), cs[k]? = some c → vs.toList[k]? = some u → Rep w X g c u) → afill place cs ps = some out →
    ∃ ws : List Value, Instr.fill place vs us = some ws.toArray ∧ ws.length = out.length ∧ ∀ (k : Nat) (c : AV) (u : Value), out[k]? = some c → ws[k]? = some u → Rep w X g c u
  | [], us, cs, vs, out, hl, _, hn, hr, h => by
    have : us = [] := List.eq_nil_of_length_eq_zero (by simpa using hl.symm)
    subst this
    simp only [afill, Option.some.injEq] at h
    subst h
    exact ⟨vs.toList, by simp [Instr.fill], hn, hr⟩
  | (i, a) :: ps, [], cs, vs, out, hl, _, hn, hr, h => by simp at hl
  | (i, a) :: ps, (j, u) :: us, cs, vs, out, hl, hp, hn, hr, h => by
    obtain ⟨rfl, ha⟩ := hp 0 i a j u rfl rfl
    simp only [afill] at h
    cases hpl : place i with
    | none => simp [hpl] at h
    | some p =>
      obtain ⟨off, size⟩ := p
      simp only [hpl] at h
      cases hb : okCell a && (Nat.beq a.cells.length size && Nat.ble (off + size) cs.length) with
      | false => simp [hb] at h
      | true =>
        simp only [hb, cond_true] at h
        simp only [Bool.and_eq_true] at hb
        obtain ⟨ho, hs, hle⟩ := hb
        have hs := Nat.eq_of_beq_eq_true hs
        have hle := ble_true hle
        obtain ⟨hc1, hc2⟩ := rep_cells ho ha
        have hus : u.cells.size = size := by rw [← hs, ← hc1]; simp
        have hvs : vs.size = cs.length := by simpa using hn
        have hfold := foldl_set u.cells.toList off 0 vs (by simp; omega)
        have hfold' : (Array.foldl (fun cs (p : Value × Nat) => cs.setIfInBounds (off + p.2) p.1) vs u.cells.zipIdx).toList = vs.toList.take off ++ (u.cells.toList ++ vs.toList.drop (off + size)) := by
          rw [← Array.foldl_toList, Array.toList_zipIdx, hfold]
          simp [hus]
        obtain ⟨ws, h1, h2, h3⟩ := fill_sound ps us _ (Array.foldl (fun cs (p : Value × Nat) => cs.setIfInBounds (off + p.2) p.1) vs u.cells.zipIdx) out (by simpa using hl)
          (fun k i' a' j' u' hk hk' => hp (k + 1) i' a' j' u' (by simpa using hk) (by simpa using hk')) (by rw [hfold']; simp; omega) (fun k c v hc hv => by
            rw [hfold'] at hv
            rw [List.getElem?_append] at hc hv
            simp only [List.length_take, Array.length_toList] at hc hv
            have e1 : min off cs.length = off := by omega
            have e2 : min off vs.size = off := by omega
            rw [e1] at hc; rw [e2] at hv
            split at hc
            · rename_i hk
              rw [if_pos hk] at hv
              rw [List.getElem?_take, if_pos hk] at hc hv
              exact hr k c v hc hv
            · rename_i hk
              rw [if_neg hk] at hv
              rw [List.getElem?_append] at hc hv
              rw [hc1] at hv
              split at hc
              · rename_i hk2
                rw [if_pos hk2] at hv
                exact hc2 _ c v hc hv
              · rename_i hk2
                rw [if_neg hk2] at hv
                rw [List.getElem?_drop] at hc hv
                exact hr _ c v hc hv) h
        refine ⟨ws, ?_, h2, h3⟩
        simp only [Instr.fill, hpl]
        rw [if_neg]
        · exact h1
        · simp [hus]; omega
end Go.Vl
