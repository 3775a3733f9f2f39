/- Operations that only give a value: what they give, and under which condition. -/
import Derived.Test.YtgllcdchhfcoiaaVl4
namespace Go.Vl
open Go.RowKit
variable {P : Program}

abbrev Out := Option (Option Prop × AV)
def condP : Option Prop → Prop
  | none => True
  | some c => c

def bitsI (op : BinOp) (k : IntKind) (x y : Int) : Int :=
  let a := BitVec.ofInt k.bits x
  let b := BitVec.ofInt k.bits y
  k.wrap (match op with
    | .and => a &&& b
    | .or => a ||| b
    | .xor => a ^^^ b
    | _ => a &&& ~~~b).toNat

def aint (op : BinOp) (k : IntKind) (a b : Int) : Out :=
  match op with
  | .add => some (none, .v (.int k (k.wrap (a + b))))
  | .sub => some (none, .v (.int k (k.wrap (a - b))))
  | .mul => some (none, .v (.int k (k.wrap (a * b))))
  | .quo => some (some (b ≠ 0), .v (.int k (k.wrap (a.tdiv b))))
  | .rem => some (some (b ≠ 0), .v (.int k (a.tmod b)))
  | .and => some (none, .v (.int k (bitsI .and k a b)))
  | .or => some (none, .v (.int k (bitsI .or k a b)))
  | .xor => some (none, .v (.int k (bitsI .xor k a b)))
  | .andNot => some (none, .v (.int k (bitsI .andNot k a b)))
  | .eql => some (none, .v (.bool (a == b)))
  | .neq => some (none, .v (.bool (a != b)))
  | .lss => some (none, .v (.bool (decide (a < b))))
  | .leq => some (none, .v (.bool (decide (a ≤ b))))
  | .gtr => some (none, .v (.bool (decide (a > b))))
  | .geq => some (none, .v (.bool (decide (a ≥ b))))
  | _ => none

def kindEq (a b : IntKind) : Bool :=
  match a, b with
  | .i8, .i8 | .i16, .i16 | .i32, .i32 | .i64, .i64 | .u8, .u8 | .u16, .u16 | .u32, .u32 | .u64, .u64 => true
  | _, _ => false
theorem kindEq_eq {a b : IntKind} (h : kindEq a b = true) : a = b := by cases a <;> cases b <;> first | rfl | cases h

/-- Equality of two values of a type that holds no references. -/
def aeqF (P : Program) (eq : TypeId → AV → AV → Option Bool) (xs ys : List AV) : List Field → Option Bool
  | [] => some true
  | f :: fs =>
    match apart P f.type xs f.offset, apart P f.type ys f.offset with
    | some a, some b =>
      match eq f.type a b, aeqF P eq xs ys fs with
      | some r, some s => some (r && s)
      | _, _ => none
    | _, _ => none
def aeqA (P : Program) (eq : TypeId → AV → AV → Option Bool) (e : TypeId) (xs ys : List AV) : Nat → Nat → Option Bool
  | 0, _ => some true
  | n + 1, i =>
    match apart P e xs (i * P.cellsOf e), apart P e ys (i * P.cellsOf e) with
    | some a, some b =>
      match eq e a b, aeqA P eq e xs ys n (i + 1) with
      | some r, some s => some (r && s)
      | _, _ => none
    | _, _ => none
def aeq (P : Program) : Nat → TypeId → AV → AV → Option Bool
  | 0, _, _, _ => none
  | d + 1, t, x, y =>
    match P.underlying t, x, y with
    | some .bool, .v (.bool a), .v (.bool b) => some (a == b)
    | some (.int _), .v (.int k a), .v (.int k' b) => bif kindEq k k' then some (a == b) else none
    | some .string, .v (.string a), .v (.string b) => some (a.toList == b.toList)
    | some (.struct fs), .ag xs, .ag ys => aeqF P (aeq P d) xs ys fs.toList
    | some (.array n e), .ag xs, .ag ys => aeqA P (aeq P d) e xs ys n 0
    | _, _, _ => none
/-- May values of the type be held against each other so? (No field without a name, none of the packages that are stood in for.) -/
def aeqOk (P : Program) : Nat → TypeId → Bool
  | 0, _ => false
  | d + 1, t =>
    match P.underlying t with
    | some (.struct fs) => !P.stoodInHeld t && fs.toList.all fun f => f.name != "_" && aeqOk P d f.type
    | some (.array _ e) => aeqOk P d e
    | some .bool | some (.int _) | some .string => true
    | _ => false

def abin (P : Program) (op : BinOp) (t : TypeId) (x y : AV) : Out :=
  match x, y with
  | .v (.int k a), .v (.int k' b) =>
    match op with
    | .shl => some (some (0 ≤ b), .v (.int k (k.wrap (a * 2 ^ (min b.toNat k.bits)))))
    | .shr => some (some (0 ≤ b), .v (.int k (a.fdiv (2 ^ (min b.toNat k.bits)))))
    | op => bif kindEq k k' then aint op k a b else none
  | .v (.string a), .v (.string b) =>
    match op with
    | .add => some (some (((a.size + b.size : Nat) : Int) ≤ 9223372036854775807), .v (.string (a ++ b)))
    | .eql => some (none, .v (.bool (a.toList == b.toList)))
    | .neq => some (none, .v (.bool (!(a.toList == b.toList))))
    | .lss => some (none, .v (.bool (Op.bytesLess a.toList b.toList)))
    | .leq => some (none, .v (.bool (Op.bytesLess a.toList b.toList || a.toList == b.toList)))
    | .gtr => some (none, .v (.bool (!(Op.bytesLess a.toList b.toList || a.toList == b.toList))))
    | .geq => some (none, .v (.bool (!Op.bytesLess a.toList b.toList)))
    | _ => none
  | .v (.bool a), .v (.bool b) =>
    match op, P.underlying t with
    | .eql, some .bool => some (none, .v (.bool (a == b)))
    | .neq, some .bool => some (none, .v (.bool (!(a == b))))
    | _, _ => none
  | .ag xs, .ag ys =>
    match op, P.underlying t, aeq P 8 t (.ag xs) (.ag ys) with
    | .eql, some _, some r => some (some (aeqOk P 8 t = true ∧ P.eqGuardType P.depth t = false), .v (.bool r))
    | .neq, some _, some r => some (some (aeqOk P 8 t = true ∧ P.eqGuardType P.depth t = false), .v (.bool (!r)))
    | _, _, _ => none
  | .fn _ _ _, .v .nilFunc =>
    match op, P.underlying t with
    | .eql, some (.func _ _ _) => some (none, .v (.bool false))
    | .neq, some (.func _ _ _) => some (none, .v (.bool true))
    | _, _ => none
  | .v .nilFunc, .v .nilFunc =>
    match op, P.underlying t with
    | .eql, some (.func _ _ _) => some (none, .v (.bool true))
    | .neq, some (.func _ _ _) => some (none, .v (.bool false))
    | _, _ => none
  | .bp _ _, .v (.pointer none) =>
    match op, P.underlying t with
    | .eql, some (.pointer _) => some (none, .v (.bool false))
    | .neq, some (.pointer _) => some (none, .v (.bool true))
    | _, _ => none
  | .v (.pointer none), .v (.pointer none) =>
    match op, P.underlying t with
    | .eql, some (.pointer _) => some (none, .v (.bool true))
    | .neq, some (.pointer _) => some (none, .v (.bool false))
    | _, _ => none
  | .ifc _ _, .v .nilIface =>
    match op, P.underlying t with
    | .eql, some (.interface _) => some (none, .v (.bool false))
    | .neq, some (.interface _) => some (none, .v (.bool true))
    | _, _ => none
  | _, _ => none

theorem rep_v {w : World} {X : Nat → Nat → Prop} {g : List Nat} {x u : Value} (h : Rep w X g (.v x) u) : u = x := by cases h; rfl

theorem run_aint {op : BinOp} {k : IntKind} {a b : Int} {C : Option Prop} {r : AV} (h : aint op k a b = some (C, r)) (hc : condP C) (w : World) (t : TypeId) (hs : op ≠ .shl ∧ op ≠ .shr) :
    ∃ u, (binOp op t (.int k a) (.int k b)).run P w = .ok u w ∧ r = .v u := by
  cases op <;> simp only [aint, Option.some.injEq, Prod.mk.injEq, reduceCtorEq] at h <;> try (exact absurd rfl hs.1) <;> try (exact absurd rfl hs.2)
  all_goals obtain ⟨rfl, rfl⟩ := h
  all_goals simp [condP] at hc
  all_goals simp [binOp, Op.intArith, Op.intDiv, Op.intBits, Op.intCmp, bitsI, hc]

theorem eqTheorem_F {d : Nat} {eq : TypeId → AV → AV → Option Bool} {w : World} {X : Nat → Nat → Prop} {g : List Nat} {xs ys : List AV} {us vs : List Value} (hu : us.length = xs.length) (hv : vs.length = ys.length)
    (hru : ∀ (k : Nat) (c : AV) (u : Value), xs[k]? = some c → us[k]? = some u → Rep w X g c u) (hrv : ∀ (k : Nat) (c : AV) (u : Value), ys[k]? = some c → vs[k]? = some u → Rep w X g c u) :
    ∀ (fs : List Field) (r : Bool), (∀ f ∈ fs, f.name ≠ "_" ∧ ∀ a b u v s, eq f.type a b = some s → Rep w X g a u → Rep w X g b v → (Op.equalIn d f.type u v).run P w = .ok s w) → aeqF P eq xs ys fs = some r →
      (Op.eqFields d us.toArray vs.toArray fs).run P w = .ok r w
  | [], r, _, h => by simp only [aeqF, Option.some.injEq] at h; subst h; rfl
  | f :: fs, r, hf, h => by
    simp only [aeqF] at h
    split at h
    · rename_i a b ha hb
      split at h
      · rename_i s s' hs hs'
        simp only [Option.some.injEq] at h
        subst h
        obtain ⟨u, h1, h2⟩ := apart_sound ha hu hru
        obtain ⟨v, h3, h4⟩ := apart_sound hb hv hrv
        obtain ⟨hn, he⟩ := hf f (by simp)
        have h5 := he a b u v s hs h2 h4
        have ih := eqTheorem_F hu hv hru hrv fs s' (fun f' hf' => hf f' (List.mem_cons_of_mem _ hf')) hs'
        simp only [Op.eqFields, if_pos hn, Sem.run_bind, h1, Result.andThen_ok, h3, h5]
        cases s
        · simp
        · simpa using ih
      · cases h
    · cases h

theorem eqTheorem_A {d : Nat} {eq : TypeId → AV → AV → Option Bool} {e : TypeId} {w : World} {X : Nat → Nat → Prop} {g : List Nat} {xs ys : List AV} {us vs : List Value} (hu : us.length = xs.length) (hv : vs.length = ys.length)
    (hru : ∀ (k : Nat) (c : AV) (u : Value), xs[k]? = some c → us[k]? = some u → Rep w X g c u) (hrv : ∀ (k : Nat) (c : AV) (u : Value), ys[k]? = some c → vs[k]? = some u → Rep w X g c u)
    (he : ∀ a b u v s, eq e a b = some s → Rep w X g a u → Rep w X g b v → (Op.equalIn d e u v).run P w = .ok s w) :
    ∀ (n i : Nat) (r : Bool), aeqA P eq e xs ys n i = some r →
      (forIn (m := Sem) (List.range' i n) ((none, ()) : Option Bool × Unit) (fun i _ => do
          if !(← Op.equalIn d e (← part e us.toArray (i * P.cellsOf e)) (← part e vs.toArray (i * P.cellsOf e))) then return ForInStep.done (some false, ())
          pure (ForInStep.yield (none, ()))) >>= fun r => match r.1 with | some b => pure b | none => pure true).run P w = .ok r w
  | 0, i, r, h => by simp only [aeqA, Option.some.injEq] at h; subst h; rfl
  | n + 1, i, r, h => by
    simp only [aeqA] at h
    split at h
    · rename_i a b ha hb
      split at h
      · rename_i s s' hs hs'
        simp only [Option.some.injEq] at h
        subst h
        obtain ⟨u, h1, h2⟩ := apart_sound ha hu hru
        obtain ⟨v, h3, h4⟩ := apart_sound hb hv hrv
        have h5 := he a b u v s hs h2 h4
        have ih := eqTheorem_A hu hv hru hrv he n (i + 1) s' hs'
        rw [List.range'_succ, List.forIn_cons]
        simp only [Sem.run_bind, h1, Result.andThen_ok, h3, h5]
        cases s
        · simp
        · simpa using ih
      · cases h
    · cases h

theorem aeq_sound : ∀ (d D : Nat) (t : TypeId) (a b : AV) (u v : Value) (s : Bool) (w : World) (X : Nat → Nat → Prop) (g : List Nat), d ≤ D → aeq P d t a b = some s → aeqOk P d t = true → Rep w X g a u → Rep w X g b v →
    (Op.equalIn D t u v).run P w = .ok s w
  | 0, _, _, _, _, _, _, _, _, _, _, _, h, _, _, _ => by simp [aeq] at h
  | d + 1, 0, _, _, _, _, _, _, _, _, _, hD, _, _, _, _ => by omega
  | d + 1, D + 1, t, a, b, u, v, s, w, X, g, hD, h, hok, ha, hb => by
    unfold aeq at h
    unfold aeqOk at hok
    split at h
    · rename_i ht
      have := rep_v ha; subst this; have := rep_v hb; subst this
      cases h
      simp [Op.equalIn, run_underlying ht]
    · rename_i k0 k x k' y ht
      have := rep_v ha; subst this; have := rep_v hb; subst this
      cases hk : kindEq k k' with
      | false => simp [hk] at h
      | true =>
        simp only [hk, cond_true, Option.some.injEq] at h
        have := kindEq_eq hk
        subst this; subst h
        simp [Op.equalIn, run_underlying ht]
    · rename_i ht
      have := rep_v ha; subst this; have := rep_v hb; subst this
      cases h
      simp [Op.equalIn, run_underlying ht, beq_toListBytes]
    · rename_i fs xs ys ht
      simp only [ht, Bool.and_eq_true, Bool.not_eq_true', List.all_eq_true] at hok
      cases ha with
      | ag _ us hu hru =>
      cases hb with
      | ag _ vs hv hrv =>
      have hfs : P.fieldsOf t = fs := by simp [Program.fieldsOf, ht]
      rw [run_equalIn_struct w D t us.toArray vs.toArray (by rw [hfs]; exact ht) hok.1, hfs]
      refine eqTheorem_F hu hv hru hrv fs.toList s (fun f hf => ?_) h
      have := hok.2 f hf
      simp only [Bool.and_eq_true, bne_iff_ne] at this
      exact ⟨this.1, fun a b u v s hs ha hb => aeq_sound d D f.type a b u v s w X g (by omega) hs this.2 ha hb⟩
    · rename_i n e xs ys ht
      simp only [ht] at hok
      cases ha with
      | ag _ us hu hru =>
      cases hb with
      | ag _ vs hv hrv =>
      have key := eqTheorem_A (d := D) hu hv hru hrv (e := e) (fun a b u v s hs ha hb => aeq_sound d D e a b u v s w X g (by omega) hs hok ha hb) n 0 s h
      by_cases hn : n = 0
      · subst hn
        simp only [aeqA, Option.some.injEq] at h
        subst h
        obtain ⟨i, hi⟩ : ∃ d, P.underlying e = some d := by
          cases d with
          | zero => simp [aeqOk] at hok
          | succ d =>
            unfold aeqOk at hok
            cases hd : P.underlying e with
            | none => simp [hd] at hok
            | some d => exact ⟨d, rfl⟩
        simp [Op.equalIn, run_underlying ht, run_sizeOf' hi]
      · obtain ⟨i, hi⟩ : ∃ d, P.underlying e = some d := by
          cases d with
          | zero => simp [aeqOk] at hok
          | succ d =>
            unfold aeqOk at hok
            cases hd : P.underlying e with
            | none => simp [hd] at hok
            | some d => exact ⟨d, rfl⟩
        simp only [Op.equalIn, Sem.run_bind, run_underlying ht, Result.andThen_ok, run_sizeOf' hi, Std.Legacy.Range.forIn_eq_forIn_range', Std.Legacy.Range.size, Nat.sub_zero, Nat.add_sub_cancel, Nat.div_one]
        simp only [Sem.run_bind] at key
        refine Eq.trans ?_ key
        congr 1
        funext a w'
        rcases a with ⟨_ | _, _⟩ <;> rfl
    · cases h
end Go.Vl
