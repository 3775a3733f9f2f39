/- All operations of the table are told rightly. -/
import Derived.Test.YtgllcdchhfcoiaaVl7
import Derived.Laws.Panics
namespace Go.Vl
open Go.RowKit
variable {P : Program}
section sound
variable {h : Heap} {w : World} {X : Nat → Nat → Prop} {g : List Nat}

theorem aun_sound {op : UnOp} {x : AV} {C : Option Prop} {r : AV} {u : Value} (h1 : aun op x = some (C, r)) (hx : Rep w X g x u) : Gives P (Op.unary op u) h w X g r := by
  unfold aun at h1
  split at h1
  · have := rep_v hx; subst this
    split at h1 <;> first | (cases h1; done) | skip
    · cases h1; exact gives_same (by simp [Op.unary, Op.intArith]) (.v _)
    · cases h1; exact gives_same (by simp [Op.unary, Op.intBits, bitsI]) (.v _)
  · have := rep_v hx; subst this
    split at h1 <;> first | (cases h1; done) | skip
    cases h1; exact gives_same (by simp [Op.unary]) (.v _)
  · cases h1

theorem aconv_sound {s d : TypeId} {x : AV} {C : Option Prop} {r : AV} {u : Value} (h1 : aconv P s d x = some (C, r)) (hx : Rep w X g x u) : Gives P (convert s d u) h w X g r := by
  unfold aconv at h1
  split at h1
  · rename_i hs hd
    have := rep_v hx; subst this
    cases h1
    exact gives_same (by simp [convert, run_underlying hs, run_underlying hd, Conv.intToInt]) (.v _)
  · rename_i hs hd
    have := rep_v hx; subst this
    cases h1
    exact gives_same (by simp [convert, run_underlying hs, run_underlying hd]) (.v _)
  · cases h1

theorem zero_cells {z : Value} {k : Nat} {c : AV} {u : Value} (h1 : (z.cells.toList.map ofC)[k]? = some c) (h2 : z.cells.toList[k]? = some u) : Rep w X g c u := by
  rw [List.getElem?_map, h2] at h1
  simp only [Option.map_some, Option.some.injEq] at h1
  subst h1
  exact rep_ofC u

theorem run_fields : ∀ (fs : List Field), fieldsSome P fs = true → (fs.mapM (fun f => (do pure (f.offset, ← sizeOf f.type) : Sem (Nat × Nat)))).run P w = .ok (fs.map fun f => (f.offset, P.cellsOf f.type)) w
  | [], _ => by simp
  | f :: fs, hf => by
    simp only [fieldsSome, List.all_cons, Bool.and_eq_true] at hf
    obtain ⟨d, hd⟩ := Option.isSome_iff_exists.1 hf.1
    rw [List.mapM_cons]
    simp only [Sem.run_bind, run_sizeOf' hd, Result.andThen_ok, Sem.run_pure, run_fields fs hf.2, List.map_cons]

theorem run_fieldsA (fs : Array Field) (hf : fieldsSome P fs.toList = true) : (fs.mapM (fun f => (do pure (f.offset, ← sizeOf f.type) : Sem (Nat × Nat)))).run P w = .ok (fs.map fun f => (f.offset, P.cellsOf f.type)) w := by
  rw [Array.mapM_eq_mapM_toList]
  simp only [Sem.run_map, run_fields fs.toList hf, Result.andThen_ok]
  congr 1
  apply Array.ext'
  simp

theorem run_zeroValue' {t : TypeId} {z : Value} (hz : (P.info? t).bind (·.zero) = some z) : (zeroValue t).run P w = .ok z w := by
  cases hi : P.info? t with
  | none => simp [hi] at hz
  | some i => simp only [hi, Option.bind_some] at hz; simp [zeroValue, typeInfo, hi, hz]

theorem abuild_sound {t : TypeId} {ps : List (Nat × AV)} {us : List (Nat × Value)} {C : Option Prop} {r : AV} (h1 : abuild P t ps = some (C, r)) (hl : ps.length = us.length)
    (hp : ∀ (k i : Nat) (a : AV) (j : Nat) (u : Value), ps[k]? = some (i, a) → us[k]? = some (j, u) → i = j ∧ Rep w X g a u) : Gives P (Instr.build t us.toArray) h w X g r := by
  unfold abuild at h1
  split at h1
  · rename_i fs z ht hz
    cases hf : fieldsSome P fs.toList with
    | false => simp [hf] at h1
    | true =>
      simp only [hf, cond_true] at h1
      obtain ⟨h2, _⟩ := pureO_eq h1
      obtain ⟨out, h3, rfl⟩ := Option.map_eq_some_iff.1 h2
      obtain ⟨ws, h4, h5, h6⟩ := fill_sound ps us _ z.cells out hl hp (by simp) (fun k c u hc hu => zero_cells hc hu) h3
      refine gives_same (u := .agg ws.toArray) ?_ (.ag _ _ h5 h6)
      have hplace : (fun (i : Nat) => (fs.map fun (f : Field) => (f.offset, P.cellsOf f.type))[i]?) = (fun (i : Nat) => (fs[i]?).map fun (f : Field) => (f.offset, P.cellsOf f.type)) := by funext i; simp
      simp only [Instr.build, Sem.run_bind, run_zeroValue' hz, Result.andThen_ok, run_underlying ht, run_fieldsA fs hf, hplace, h4, Sem.run_pure]
  · rename_i n e z ht hz
    cases hf : (P.underlying e).isSome with
    | false => simp [hf] at h1
    | true =>
      obtain ⟨d, hd⟩ := Option.isSome_iff_exists.1 hf
      simp only [hf, cond_true] at h1
      obtain ⟨h2, _⟩ := pureO_eq h1
      obtain ⟨out, h3, rfl⟩ := Option.map_eq_some_iff.1 h2
      obtain ⟨ws, h4, h5, h6⟩ := fill_sound ps us _ z.cells out hl hp (by simp) (fun k c u hc hu => zero_cells hc hu) h3
      refine gives_same (u := .agg ws.toArray) ?_ (.ag _ _ h5 h6)
      simp only [Instr.build, Sem.run_bind, run_zeroValue' hz, Result.andThen_ok, run_underlying ht, run_sizeOf' hd, h4, Sem.run_pure]
  · cases h1

theorem evo_alloc (w : World) (o : Obj) : Evo none2 w (w.alloc o) := Evo.of_below ((Below.refl _ _).alloc (Nat.le_refl _) o)
theorem evo_drew (w : World) : Evo none2 w w.drew := Evo.of_below ((Below.refl _ _).drew)

theorem Rep.evo0 {w w' : World} {a : AV} {u : Value} (hr : Rep w X g a u) (he : Evo none2 w w') : Rep w' X g a u := hr.stays (he.stays (fun _ _ _ x => x.elim) (fun _ _ _ x => x) (fun _ _ x => x))

/-- A row in a new block. -/
theorem row_new (hk : ∀ (b o : Nat), X b o → b < w.heap.size) {ws : List Value} {e : TypeId} (k : Nat) (u : Value) (hu : ws[k]? = some u) :
    (w.alloc (.cells ws.toArray e)).cell? ⟨w.heap.size, 0 + k, none⟩ = some u ∧ ¬ X w.heap.size (0 + k) := by
  rw [Nat.zero_add, World.cell?_alloc_new]
  exact ⟨by simpa using hu, fun hx => absurd (hk _ _ hx) (Nat.lt_irrefl _)⟩

theorem abuildSlice_sound {t : TypeId} {n : Nat} {ps : List (Nat × AV)} {us : List (Nat × Value)} {C : Option Prop} {r : AV} (h1 : abuildSlice P t n ps = some (C, r)) (hk : HOk w X g h) (hl : ps.length = us.length)
    (hp : ∀ (k i : Nat) (a : AV) (j : Nat) (u : Value), ps[k]? = some (i, a) → us[k]? = some (j, u) → i = j ∧ Rep w X g a u) : Gives P (Instr.buildSlice t n us.toArray) h w X g r := by
  unfold abuildSlice at h1
  split at h1
  · rename_i e ht
    split at h1
    · rename_i d cs hd hz
      cases hb : Nat.ble (n * P.cellsOf e) 16777216 && Nat.blt 0 (P.cellsOf e) with
      | false => simp [hb] at h1
      | true =>
        simp only [hb, cond_true] at h1
        simp only [Bool.and_eq_true] at hb
        have hle := ble_true hb.1
        have hpos := blt_true hb.2
        split at h1
        · rename_i out ho
          cases hb2 : Nat.beq out.length (n * P.cellsOf e) && oneOk P e out with
          | false => simp [hb2] at h1
          | true =>
            simp only [hb2, cond_true, Option.some.injEq, Prod.mk.injEq] at h1
            obtain ⟨_, rfl⟩ := h1
            simp only [Bool.and_eq_true] at hb2
            have hlen := Nat.eq_of_beq_eq_true hb2.1
            unfold zrow at hz
            split at hz
            · rename_i z hzz
              cases hz0 : Nat.beq z.cells.size 0 with
              | true => simp [hz0] at hz
              | false =>
                simp only [hz0, cond_false, Option.some.injEq] at hz
                subst hz
                have hzpos : z.cells.size ≠ 0 := fun e => by rw [e] at hz0; simp at hz0
                let zs : Array Value := (Array.range (n * P.cellsOf e)).map (fun i => z.cells[i % z.cells.size]!)
                have hzs : ∀ k u, zs.toList[k]? = some u → k < n * P.cellsOf e ∧ z.cells.toList[k % z.cells.size]? = some u := by
                  intro k u hu
                  simp only [zs, Array.getElem?_toList, Array.getElem?_map] at hu
                  cases hr : (Array.range (n * P.cellsOf e))[k]? with
                  | none => simp [hr] at hu
                  | some j =>
                    have hklt : k < n * P.cellsOf e := by simpa using (Array.getElem?_eq_some_iff.1 hr).1
                    have hjk : j = k := by have := (Array.getElem?_eq_some_iff.1 hr).2; simpa using this.symm
                    subst hjk
                    have hm : j % z.cells.size < z.cells.size := Nat.mod_lt _ (by omega)
                    simp only [hr, Option.map_some, Option.some.injEq] at hu
                    refine ⟨hklt, ?_⟩
                    rw [Array.getElem?_toList, Array.getElem?_eq_getElem hm, ← hu, getElem!_pos z.cells _ hm]
                obtain ⟨ws, h4, h5, h6⟩ := fill_sound (w := w) (X := X) (g := g) ps us _ zs out hl hp (by simp [zs]) (fun k c u hc hu => by
                  obtain ⟨q1, q2⟩ := hzs k u hu
                  rw [List.getElem?_map] at hc
                  have : (List.range (n * P.cellsOf e))[k]? = some k := by simp [q1]
                  rw [this] at hc
                  simp only [Option.map_some, Option.some.injEq, List.getD, List.getElem?_map, q2, Option.getD_some] at hc
                  subst hc
                  exact rep_ofC u) ho
                obtain ⟨q1, q2⟩ := aelem_row (P := P) (w := w) (X := X) (g := g) hlen hb2.2 h5 h6
                have hev := evo_alloc w (.cells ws.toArray e)
                refine ⟨.slice (some ⟨w.heap.size, 0, none⟩) n n, w.alloc (.cells ws.toArray e), ?_, hev, ?_⟩
                · have hng : ¬ (n * P.cellsOf e > 2 ^ 24) := by omega
                  by_cases hz2 : n * P.cellsOf e = 0
                  · have hzz' : zs = #[] := by apply Array.ext'; simp [zs, hz2]
                    rw [hzz'] at h4
                    simp [Instr.buildSlice, run_underlying ht, run_sizeOf' hd, hz2, show Array.range 0 = #[] from rfl, h4, newRow]
                  · simp only [zs] at h4
                    simp [Instr.buildSlice, run_underlying ht, run_sizeOf' hd, if_neg hng, if_neg hz2, run_zeroValue' hzz, h4, newRow]
                · refine .osn _ _ _ w.heap.size 0 ws (by rw [h5, hlen]) (row_new hk.bd) q1 (fun i j c u hi hj hu => (q2 i j c u hi hj hu).evo0 hev)
            · cases hz
        · cases h1
    · cases h1
  · cases h1

theorem anil_sound {x : AV} {C : Option Prop} {r : AV} {u : Value} (h1 : anil x = some (C, r)) (hx : Rep w X g x u) :
    r = x ∧ (match u with
      | .pointer none | .nilIface | .nilFunc => (runtimePanic .nilDeref : Sem Next)
      | .func (.method name) first captured =>
        match (first[0]? : Option Value) with
        | some .nilIface => runtimePanic .nilDeref
        | some (.iface t w) => do
          if (← nilAhead ((← program).types.size + Made.depth) t w name) != some false then
            unsupported (.noEntry "op/nilCheck.the method's receiver behind this interface value is a nil pointer, or cannot be seen to be none, and the arguments act or may panic (ledger 612)")
          pure (.value (.func (.method name) first captured))
        | _ => pure (.value (.func (.method name) first captured))
      | x => pure (.value x)).run P w = .ok (.value u) w := by
  unfold anil at h1
  split at h1 <;> first | (cases h1; done) | skip
  all_goals cases h1
  all_goals cases hx
  all_goals exact ⟨rfl, rfl⟩

theorem abuiltin_sound {b : Builtin} {tys : Array TypeId} {ty : TypeId} {cs : Array Bool} {xs : List AV} {us : Array Value} {C : Option Prop} {r : AV} (h1 : abuiltin P b tys.toList xs = some (C, r)) (hl : us.toList.length = xs.length)
    (hx : ∀ (k : Nat) (a : AV) (u : Value), xs[k]? = some a → us.toList[k]? = some u → Rep w X g a u) : ∃ u, (builtin b tys ty cs us).run P w = .ok (.value u) w ∧ Rep w X g r u := by
  obtain ⟨us⟩ := us
  obtain ⟨tys⟩ := tys
  simp only at hl hx h1
  unfold abuiltin at h1
  split at h1
  · rename_i t tys x xs
    obtain ⟨u, us, rfl⟩ : ∃ u us', us = u :: us' := by cases us with | nil => simp at hl | cons u us => exact ⟨u, us, rfl⟩
    have hx0 := hx 0 x u rfl rfl
    split at h1 <;> first | (cases h1; done) | skip
    · rename_i s ht
      have := rep_v hx0; subst this; cases h1
      exact ⟨_, by simp [builtin, Builtin.len_, run_underlying ht, goInt], .v _⟩
    · rename_i n _ ht
      cases h1
      exact ⟨.int .i64 n, by simp [builtin, Builtin.len_, run_underlying ht, goInt], .v _⟩
    · rename_i _ sz n f ht
      cases h1
      refine ⟨.int .i64 n, ?_, .v _⟩
      cases hx0 <;> simp [builtin, Builtin.len_, run_underlying ht, goInt]
    · rename_i _ sz n f oi ht
      cases h1
      refine ⟨.int .i64 n, ?_, .v _⟩
      cases hx0 <;> simp [builtin, Builtin.len_, run_underlying ht, goInt]
    · rename_i _ i off n cap ht
      cases h1
      refine ⟨.int .i64 n, ?_, .v _⟩
      cases hx0; simp [builtin, Builtin.len_, run_underlying ht, goInt]
  · rename_i k x k' y
    cases hb : kindEq k k' with
    | false => simp [hb] at h1
    | true =>
      have := kindEq_eq hb; subst this
      simp only [hb, cond_true, Option.some.injEq, Prod.mk.injEq] at h1
      obtain ⟨_, rfl⟩ := h1
      match us, hl with
      | [u, v], _ =>
        have := rep_v (hx 0 _ u rfl rfl); subst this
        have := rep_v (hx 1 _ v rfl rfl); subst this
        exact ⟨_, by simp [builtin, Builtin.max_, Builtin.max2], .v _⟩
  · rename_i k x k' y
    cases hb : kindEq k k' with
    | false => simp [hb] at h1
    | true =>
      have := kindEq_eq hb; subst this
      simp only [hb, cond_true, Option.some.injEq, Prod.mk.injEq] at h1
      obtain ⟨_, rfl⟩ := h1
      match us, hl with
      | [u, v], _ =>
        have := rep_v (hx 0 _ u rfl rfl); subst this
        have := rep_v (hx 1 _ v rfl rfl); subst this
        exact ⟨_, by simp [builtin, Builtin.min_, Builtin.min2], .v _⟩
  · cases h1

set_option maxHeartbeats 2000000 in
theorem abin_sound {op : BinOp} {t : TypeId} {x y : AV} {C : Option Prop} {r : AV} {u v : Value} (h1 : abin P op t x y = some (C, r)) (hc : condP C) (hx : Rep w X g x u) (hy : Rep w X g y v) (a b : Operand) :
    Gives P (do eqGuard op t a b u v; binOp op t u v) h w X g r := by
  have quiet : ∀ {u v : Value} {s : Sem Value} {r' : Value}, (∀ w, (eqGuard op t a b u v).run P w = .ok () w) → s.run P w = .ok r' w → r = .v r' → Gives P (do eqGuard op t a b u v; s) h w X g r := by
    intro u v s r' h2 h3 h4
    subst h4
    exact gives_same (by simp only [Sem.run_bind, h2, Result.andThen_ok, h3]) (.v _)
  have guard0 : ∀ {u v : Value}, (∀ p q, (u, v) ≠ (Value.agg p, Value.agg q)) → (u, v) ≠ (.nilIface, .nilIface) → ∀ w, (eqGuard op t a b u v).run P w = .ok () w := by
    intro u v h2 h3 w
    unfold eqGuard
    split
    all_goals first
      | rfl
      | (rw [if_neg (by simp)]
         split
         · exact absurd rfl h3
         · exact absurd rfl (h2 _ _)
         · rfl)
  obtain ⟨D, hD⟩ : ∃ D, Op.maxDepth = D + 1 := ⟨9999, rfl⟩
  have eD : ∀ u v, Op.equal t u v = Op.equalIn (D + 1) t u v := fun u v => by unfold Op.equal; rw [hD]
  unfold abin at h1
  split at h1
  · have := rep_v hx; subst this; have := rep_v hy; subst this
    rename_i k x k' y
    have hg := guard0 (u := .int k x) (v := .int k' y) (by intros; simp) (by simp)
    split at h1
    · cases h1; simp only [condP] at hc
      have hn : ¬ y < 0 := by omega
      exact quiet hg (by simp [binOp, Op.shift, hn]) rfl
    · cases h1; simp only [condP] at hc
      have hn : ¬ y < 0 := by omega
      exact quiet hg (by simp [binOp, Op.shift, hn]) rfl
    · rename_i n1 n2
      cases hb : kindEq k k' with
      | false => simp [hb] at h1
      | true =>
        have := kindEq_eq hb; subst this
        simp only [hb, cond_true] at h1
        obtain ⟨u, h2, h3⟩ := run_aint h1 hc w t ⟨n1, n2⟩
        exact quiet hg h2 h3
  · have := rep_v hx; subst this; have := rep_v hy; subst this
    rename_i x y
    have hg := guard0 (u := .string x) (v := .string y) (by intros; simp) (by simp)
    split at h1 <;> first | (cases h1; done) | skip
    · cases h1; simp only [condP] at hc
      have hn : ¬ (((x.size + y.size : Nat) : Int) > IntKind.i64.max) := by
        have : IntKind.i64.max = 9223372036854775807 := rfl
        rw [this]; omega
      exact quiet hg (by simp only [binOp, Op.stringOp, if_neg hn]; rfl) rfl
    all_goals cases h1; exact quiet hg (by simp [binOp, Op.stringOp]) rfl
  · have := rep_v hx; subst this; have := rep_v hy; subst this
    rename_i x y
    have hg := guard0 (u := .bool x) (v := .bool y) (by intros; simp) (by simp)
    split at h1 <;> first | (cases h1; done) | skip
    · rename_i ht; cases h1
      exact quiet hg (by simp only [binOp, eD, Op.equalIn, Sem.run_bind, run_underlying ht, Result.andThen_ok, Sem.run_pure, Option.isNone, Bool.not_true, Bool.not_false]) rfl
    · rename_i ht; cases h1
      exact quiet hg (by simp only [binOp, eD, Op.equalIn, Sem.run_bind, run_underlying ht, Result.andThen_ok, Sem.run_pure, Option.isNone, Bool.not_true, Bool.not_false]) rfl
  · rename_i xs ys
    have hag : ∀ {s : Bool}, aeq P 8 t (.ag xs) (.ag ys) = some s → aeqOk P 8 t = true ∧ P.eqGuardType P.depth t = false → (op = .eql ∨ op = .neq) →
        (∀ w, (eqGuard op t a b u v).run P w = .ok () w) ∧ (Op.equal t u v).run P w = .ok s w := by
      intro s h2 h3 hop
      have h4 := aeq_sound 8 Op.maxDepth t _ _ u v s w X g (by decide) h2 h3.1 hx hy
      cases hx with
      | ag _ us hu hru =>
      cases hy with
      | ag _ vs hv hrv =>
      refine ⟨fun w => ?_, h4⟩
      have h5 : (op matches .eql | .neq) = true := by rcases hop with rfl | rfl <;> rfl
      unfold eqGuard
      simp [h3.2]
    split at h1 <;> first | (cases h1; done) | skip
    · rename_i h2; cases h1; simp only [condP] at hc
      obtain ⟨q1, q2⟩ := hag h2 hc (.inl rfl)
      cases hx with
      | ag _ us hu hru =>
      cases hy with
      | ag _ vs hv hrv =>
      exact quiet q1 (by simp [binOp, q2]) rfl
    · rename_i h2; cases h1; simp only [condP] at hc
      obtain ⟨q1, q2⟩ := hag h2 hc (.inr rfl)
      cases hx with
      | ag _ us hu hru =>
      cases hy with
      | ag _ vs hv hrv =>
      exact quiet q1 (by simp [binOp, q2]) rfl
  · have := rep_v hy; subst this
    cases hx with
    | fn f c1 c2 v1 v2 a1 a2 a3 a4 =>
      split at h1 <;> first | (cases h1; done) | skip
      all_goals rename_i ht; cases h1; exact quiet (guard0 (by intros; simp) (by simp)) (by simp only [binOp, eD, Op.equalIn, Sem.run_bind, run_underlying ht, Result.andThen_ok, Sem.run_pure, Option.isNone, Bool.not_true, Bool.not_false]) rfl
  · have := rep_v hx; subst this; have := rep_v hy; subst this
    have hg := guard0 (u := .nilFunc) (v := .nilFunc) (by intros; simp) (by simp)
    split at h1 <;> first | (cases h1; done) | skip
    all_goals rename_i ht; cases h1; exact quiet hg (by simp only [binOp, eD, Op.equalIn, Sem.run_bind, run_underlying ht, Result.andThen_ok, Sem.run_pure, Option.isNone, Bool.not_true, Bool.not_false]) rfl
  · have := rep_v hy; subst this
    cases hx with
    | bp i off b' hg' =>
      split at h1 <;> first | (cases h1; done) | skip
      all_goals rename_i ht; cases h1; exact quiet (guard0 (by intros; simp) (by simp)) (by simp only [binOp, eD, Op.equalIn, Sem.run_bind, run_underlying ht, Result.andThen_ok, Sem.run_pure, Option.isNone, Bool.not_true, Bool.not_false]) rfl
  · have := rep_v hx; subst this; have := rep_v hy; subst this
    have hg := guard0 (u := .pointer none) (v := .pointer none) (by intros; simp) (by simp)
    split at h1 <;> first | (cases h1; done) | skip
    all_goals rename_i ht; cases h1; exact quiet hg (by simp only [binOp, eD, Op.equalIn, Sem.run_bind, run_underlying ht, Result.andThen_ok, Sem.run_pure, Option.isNone, Bool.not_true, Bool.not_false]) rfl
  · have := rep_v hy; subst this
    cases hx with
    | ifc t' x' u' hu' =>
      split at h1 <;> first | (cases h1; done) | skip
      all_goals rename_i ht; cases h1; exact quiet (guard0 (by intros; simp) (by simp)) (by simp only [binOp, eD, Op.equalIn, Sem.run_bind, run_underlying ht, Result.andThen_ok, Sem.run_pure, Option.isNone, Bool.not_true, Bool.not_false]) rfl
  · cases h1
end sound
end Go.Vl
