/- The table of operations on memory of one's own. -/
import Derived.Test.YtgllcdchhfcoiaaVlN
namespace Go.Vl
open Go.RowKit
variable {P : Program}

/-- A cell's value, laid open. -/
def forceA (a : AV) (K : AV → Prop) : Prop :=
  match a with
  | .v x => K (.v x)
  | .any => K .any
  | .ag cs => K (.ag cs)
  | .tup cs => K (.tup cs)
  | .fn f c d => K (.fn f c d)
  | .ifc t x => K (.ifc t x)
  | .sl sz n f => K (.sl sz n f)
  | .os sz n f i => K (.os sz n f i)
  | .rp cs => K (.rp cs)
  | .bp i off => K (.bp i off)
  | .hs i off n cap => K (.hs i off n cap)
  | .yl i => K (.yl i)
  | .om i => K (.om i)
  | .oc i => K (.oc i)
  | .fm es => K (.fm es)
theorem forceA_use {a : AV} {K : AV → Prop} (h : forceA a K) : K a := by cases a <;> exact h
def forceL : List AV → (List AV → Prop) → Prop
  | [], K => K []
  | a :: l, K => forceA a fun a => forceL l fun l => K (a :: l)
theorem forceL_use : ∀ {l : List AV} {K : List AV → Prop}, forceL l K → K l
  | [], _, h => h
  | a :: l, K, h => by
    unfold forceL at h
    exact forceL_use (l := l) (K := fun l => K (a :: l)) (forceA_use (K := fun a => forceL l fun l => K (a :: l)) h)

/-- A value, laid open; a Bool that is told by a test is taken as a name for the test's answer. -/
def splitB (r : AV) (K : AV → Prop) : Prop :=
  match r with
  | .v (.bool b) => ∀ c, c = b → K (.v (.bool c))
  | .v x => K (.v x)
  | .any => K .any
  | .ag cs => forceL cs fun cs => K (.ag cs)
  | .tup cs => forceL cs fun cs => K (.tup cs)
  | .fn f c d => forceL c fun c => forceL d fun d => K (.fn f c d)
  | .ifc t x => K (.ifc t x)
  | .sl sz n f => K (.sl sz n f)
  | .os sz n f i => K (.os sz n f i)
  | .rp cs => K (.rp cs)
  | .bp i off => K (.bp i off)
  | .hs i off n cap => K (.hs i off n cap)
  | .yl i => K (.yl i)
  | .om i => K (.om i)
  | .oc i => K (.oc i)
  | .fm es => K (.fm es)
theorem splitB_use {r : AV} {K : AV → Prop} (h : splitB r K) : K r := by
  unfold splitB at h
  split at h
  · exact h _ rfl
  · exact h
  · exact h
  · exact forceL_use h
  · exact forceL_use h
  · rename_i f c d
    exact forceL_use (l := d) (K := fun d => K (.fn f c d)) (forceL_use (l := c) (K := fun c => forceL d fun d => K (.fn f c d)) h)
  all_goals exact h

/-- A value, laid open as it stands. -/
def splitV (r : AV) (K : AV → Prop) : Prop :=
  match r with
  | .v x => K (.v x)
  | .any => K .any
  | .ag cs => forceL cs fun cs => K (.ag cs)
  | .tup cs => forceL cs fun cs => K (.tup cs)
  | .fn f c d => forceL c fun c => forceL d fun d => K (.fn f c d)
  | .ifc t x => K (.ifc t x)
  | .sl sz n f => K (.sl sz n f)
  | .os sz n f i => K (.os sz n f i)
  | .rp cs => K (.rp cs)
  | .bp i off => K (.bp i off)
  | .hs i off n cap => K (.hs i off n cap)
  | .yl i => K (.yl i)
  | .om i => K (.om i)
  | .oc i => K (.oc i)
  | .fm es => K (.fm es)
theorem splitV_use {r : AV} {K : AV → Prop} (h : splitV r K) : K r := by
  unfold splitV at h
  split at h
  · exact h
  · exact h
  · exact forceL_use h
  · exact forceL_use h
  · rename_i f c d
    exact forceL_use (l := d) (K := fun d => K (.fn f c d)) (forceL_use (l := c) (K := fun c => forceL d fun d => K (.fn f c d)) h)
  all_goals exact h
def splitO (o : Op) (r : AV) (K : AV → Prop) : Prop :=
  match o with
  | .assign _ | .move _ | .pick _ _ _ => splitV r K
  | _ => splitB r K
theorem splitO_use {o : Op} {r : AV} {K : AV → Prop} (h : splitO o r K) : K r := by
  unfold splitO at h
  split at h <;> first | exact splitV_use h | exact splitB_use h

def appK (m : Nat) (K0 K1 : Prop) : Prop :=
  match m with
  | 0 => K0
  | _ + 1 => K1
theorem appK_intro {m : Nat} {K0 K1 : Prop} (h0 : m = 0 → K0) (h1 : m ≠ 0 → K1) : appK m K0 K1 := by
  cases m with
  | zero => exact h0 rfl
  | succ m => exact h1 (by omega)
theorem appK_use {m : Nat} {K0 K1 : Prop} (h : appK m K0 K1) : (m = 0 → K0) ∧ (m ≠ 0 → K1) := by
  cases m with
  | zero => exact ⟨fun _ => h, fun h' => absurd rfl h'⟩
  | succ m => exact ⟨fun h' => absurd h' (by omega), fun _ => h⟩

def permOk (oi : Option Id) (n : Nat) (pm : List (Id × Nat)) : Prop :=
  match oi with
  | none => True
  | some i => permGet i.1 pm = some (i.2, n)

def sliceParts : AV → Option (Nat × Nat × (Nat → AV))
  | .sl sz n f => some (sz, n, f)
  | .os sz n f _ => some (sz, n, f)
  | _ => none

def szFits (sz c n : Nat) (oi : Option Id) : Bool :=
  bif Nat.beq sz c then true else (match n, oi with | 0, none => true | _, _ => false)
theorem szFits_spec {sz c n : Nat} {oi : Option Id} (h : szFits sz c n oi = true) : (n = 0 ∧ oi = none) ∨ sz = c := by
  unfold szFits at h
  cases hb : Nat.beq sz c with
  | true => exact .inr (Nat.eq_of_beq_eq_true hb)
  | false =>
    simp only [hb, cond_false] at h
    split at h
    · exact .inl ⟨rfl, rfl⟩
    · cases h
def szFits0 (sz c m : Nat) : Bool := bif Nat.beq sz c then true else Nat.beq m 0
theorem szFits0_spec {sz c m : Nat} (h : szFits0 sz c m = true) : m = 0 ∨ sz = c := by
  unfold szFits0 at h
  cases hb : Nat.beq sz c with
  | true => exact .inr (Nat.eq_of_beq_eq_true hb)
  | false => simp only [hb, cond_false] at h; exact .inl (Nat.eq_of_beq_eq_true h)

/-- The cells of n zero values. -/
def zmade (P : Program) (e : TypeId) (n : Nat) : Option (List AV) :=
  match (P.info? e).bind (·.zero) with
  | some z => bif Nat.beq z.cells.size (P.cellsOf e) && Nat.beq (P.cellsOf e) 1 then some (List.replicate n (ofC (z.cells.getD 0 undef)))
    else (bif Nat.beq z.cells.size (P.cellsOf e) && Nat.blt 0 (P.cellsOf e) then some ((List.replicate n (z.cells.toList.map ofC)).flatten) else none)
  | none => none

def aappend (P : Program) (o : Oper) (E : Env) (K : Env → Prop) (t : TypeId) (s x : AV) : Prop :=
  match P.underlying t, s, sliceParts x with
  | some (.slice e), .os sz n f oi, some (szx, m, f') =>
    bif growOk P e && (szFits sz (P.cellsOf e) n oi && szFits0 szx (P.cellsOf e) m) then
      permOk oi (n * P.cellsOf e) E.h.pm ∧ appK m (K (E.set o.dst (.os sz n f oi)))
        (oneRow m f' ∧ (n + m) * P.bytesOf e ≤ 140737488355328 ∧ n + m ≤ 9223372036854775807 ∧
          K (({ E with h := E.h.grow oi ((n + m) * P.cellsOf e) } : Env).set o.dst (.os (P.cellsOf e) (n + m) (appF n f f') (some (E.h.nn, E.h.nx)))))
    else False
  | _, _, _ => False

theorem AOp.kp {o : Oper} {E : Env} {K : Env → Prop} {Kp : AV → Env → Prop} (h : AOp P o E K) : AOp P o E K Kp :=
  fun ro X M w0 a w g hs next Q hn _ => h ro X M w0 a w g hs next Q hn (fun _ _ _ _ _ _ h => h.elim)
theorem aop_panic {o : Oper} {x : Operand} {t : TypeId} {y : AV} {E : Env} {K : Env → Prop} {Kp : AV → Env → Prop} (ho : o.op = .panic x) (hx : E.ev x = .ifc t y) (hk : Kp (.ifc t y) E) : AOp P o E K Kp := by
  intro ro X M w0 a w g hs next Q hn hp
  have hv := hs.ev x
  rw [hx] at hv
  generalize hu : a.eval x = u at hv
  cases hv with
  | ifc _ _ v hv =>
    refine wpIn_of_run (by rw [ho]; intro c h; cases h) ?_
    have : (execOp a.eval o).run P w = .halt (.panic (.iface t v)) w := by
      unfold execOp
      simp only [ho, hu]
      simp [Instr.panic]
    rw [this]
    exact hp (.ifc t y) E a w g _ hk (fun _ _ h => h) hs (.ifc _ _ _ hv)
def forceM : List (Value × AV) → (List (Value × AV) → Prop) → Prop
  | [], K => K []
  | (k, v) :: l, K => forceM l fun l => K ((k, v) :: l)
theorem forceM_use : ∀ {l : List (Value × AV)} {K : List (Value × AV) → Prop}, forceM l K → K l
  | [], _, h => h
  | (k, v) :: l, K, h => forceM_use (l := l) (K := fun l => K ((k, v) :: l)) h
theorem forceM_intro : ∀ {l : List (Value × AV)} {K : List (Value × AV) → Prop}, K l → forceM l K
  | [], _, h => h
  | (k, v) :: l, K, h => forceM_intro (l := l) (K := fun l => K ((k, v) :: l)) h
def aupdate (P : Program) (o : Oper) (E : Env) (K : Env → Prop) (t : TypeId) (m k x : Operand) : Prop :=
  match P.underlying t, E.ev m, E.ev k with
  | some (.map kt et), .om i, .v key =>
    match P.underlying kt, hgeto i.1 E.h.bx with
    | some d, some (s, .mp es) => bif keyFit d key then (s = i.2 ∧ keysFit d es = true) ∧ forceA (E.ev x) fun v => forceM (aput key v es) fun es' => hsetK i.1 (.mp es') E.h.bx fun bx => K (({ E with h := { E.h with bx := bx } } : Env).set o.dst .any) else False
    | _, _ => False
  | _, _, _ => False
theorem aupdate_sound {o : Oper} {E : Env} {K : Env → Prop} {t : TypeId} {m k x : Operand} (ho : o.op = .mapUpdate t m k x ∨ o.op = .insert t m k x) (h : aupdate P o E K t m k x) : AOp P o E K := by
  unfold aupdate at h
  split at h
  · rename_i kt et i key ht hm hk
    split at h
    · rename_i d s es hd hes
      cases hb : keyFit d key with
      | false => simp [hb] at h
      | true =>
        simp only [hb, cond_true] at h
        obtain ⟨⟨rfl, hf⟩, h⟩ := h
        have h1 := forceA_use h
        have h2 := forceM_use h1
        exact aop_mapUpdate ho ht hd hm hk hes hb hf (hsetK_use h2)
    · exact h.elim
  · exact h.elim
def aheap (P : Program) (o : Oper) (E : Env) (K : Env → Prop) (Kp : AV → Env → Prop) : Prop :=
  match o.op with
  | .box _ x => bif okCell (E.ev x) then forceL (E.ev x).cells fun cs => K (({ E with h := E.h.add cs } : Env).set o.dst (.bp (E.h.nn, E.h.nx) 0)) else False
  | .alloc e => match zcells P e with
    | some cs => forceL cs fun cs => K (({ E with h := E.h.add cs } : Env).set o.dst (.bp (E.h.nn, E.h.nx) 0))
    | none => False
  | .store t p x => match E.ev p with
    | .bp i off => match hget i.1 E.h.bx with
      | some (s, cs) => bif okCell (E.ev x) && ((E.ev x).cells.all isOne && ((P.underlying t).isSome && Nat.beq (E.ev x).cells.length (P.cellsOf t))) then
          forceL (E.ev x).cells fun vs => (s = i.2 ∧ off + vs.length ≤ cs.length) ∧ hsetK i.1 (.c (splice cs off vs)) E.h.bx fun bx => K (({ E with h := { E.h with bx := bx } } : Env).set o.dst .any)
        else False
      | none => False
    | _ => False
  | .call { callee := .builtin .append, args := ⟨[s, x]⟩, argTypes := ⟨[t, t']⟩ } => bif Nat.beq t t' then aappend P o E K t (E.ev s) (E.ev x) else False
  | .makeSlice t l c => match P.underlying t, E.ev l, E.ev c with
    | some (.slice e), .v (.int _ L), .v (.int _ C) => match P.underlying e, zmade P e C.toNat with
      | some _, some cs => 0 ≤ L ∧ L ≤ C ∧ (P.bytesOf e : Int) * C ≤ 281474976710656 ∧ C ≤ 9223372036854775807 ∧ K (({ E with h := E.h.add cs } : Env).set o.dst (.hs (E.h.nn, E.h.nx) 0 L.toNat C.toNat))
      | _, _ => False
    | _, _, _ => False
  | .makeMap t none => K (({ E with h := E.h.addo (.mp []) } : Env).set o.dst (.om (E.h.nn, E.h.nx)))
  | .makeChan t s => match P.underlying t, E.ev s with
    | some (.chan _ e), .v (.int _ n) => match P.info? e with
      | some inf => 0 ≤ n ∧ n ≤ 9223372036854775807 ∧ (inf.bytes : Int) * n ≤ 281474976710544 ∧ K (({ E with h := E.h.addo (.ch n.toNat []) } : Env).set o.dst (.oc (E.h.nn, E.h.nx)))
      | none => False
    | _, _ => False
  | .panic x => match E.ev x with
    | .ifc t y => Kp (.ifc t y) E
    | _ => False
  | .mapUpdate t m k x => aupdate P o E K t m k x
  | .insert t m k x => aupdate P o E K t m k x
  | _ => AOp P o E K Kp

theorem madeCells_list {z : Array Value} (hz : 0 < z.size) (n : Nat) : (madeCells z (n * z.size)).toList = (List.replicate n z.toList).flatten := by
  apply List.ext_getElem?
  intro k
  have hr : (madeCells z (n * z.size)).toList[k]? = if k < n * z.size then some (z[k % z.size]!) else none := by
    simp only [madeCells, Array.getElem?_toList]
    rw [Array.getElem?_map]
    by_cases h : k < n * z.size
    · have : (Array.range (n * z.size))[k]? = some k := by rw [Array.getElem?_eq_getElem (by simpa using h)]; simp
      rw [this, if_pos h]; rfl
    · have : (Array.range (n * z.size))[k]? = none := Array.getElem?_eq_none (by simpa using h)
      rw [this, if_neg h]; rfl
  rw [hr]
  have hfl : ∀ (n k : Nat), (List.replicate n z.toList).flatten[k]? = if k < n * z.size then some (z[k % z.size]!) else none := by
    intro n
    induction n with
    | zero => intro k; simp
    | succ n ih =>
      intro k
      rw [List.replicate_succ, List.flatten_cons, List.getElem?_append]
      simp only [Array.length_toList]
      by_cases h : k < z.size
      · rw [if_pos h, if_pos (by rw [Nat.add_mul, Nat.one_mul]; omega), Nat.mod_eq_of_lt h, Array.getElem?_toList, Array.getElem?_eq_getElem h, getElem!_pos z k h]
      · rw [if_neg h, ih]
        have e : k % z.size = (k - z.size) % z.size := by
          rw [Nat.mod_eq_sub_mod (by omega)]
        rw [e, Nat.add_mul, Nat.one_mul]
        by_cases h2 : k - z.size < n * z.size
        · rw [if_pos h2, if_pos (by omega)]
        · rw [if_neg h2, if_neg (by omega)]
  exact (hfl n k).symm

theorem zmade_sound {e : TypeId} {n : Nat} {cs : List AV} (h : zmade P e n = some cs) : ∃ inf z, P.info? e = some inf ∧ inf.zero = some z ∧ (madeCells z.cells (n * inf.size)).toList.length = cs.length ∧
    ∀ (w : World) (X : Nat → Nat → Prop) (g : List Nat) (k : Nat) (c : AV) (u : Value), cs[k]? = some c → (madeCells z.cells (n * inf.size)).toList[k]? = some u → Rep w X g c u := by
  unfold zmade at h
  cases hi : P.info? e with
  | none => simp [hi] at h
  | some inf =>
    cases hz : inf.zero with
    | none => simp [hi, hz] at h
    | some z =>
      simp only [hi, Option.bind_some, hz] at h
      have hcs : P.cellsOf e = inf.size := by simp [Program.cellsOf, hi]
      cases hb : Nat.beq z.cells.size (P.cellsOf e) && Nat.beq (P.cellsOf e) 1 with
      | true =>
        simp only [hb, cond_true, Option.some.injEq] at h
        simp only [Bool.and_eq_true] at hb
        have h1 := Nat.eq_of_beq_eq_true hb.1
        have h2 := Nat.eq_of_beq_eq_true hb.2
        subst h
        have hsz : inf.size = 1 := by omega
        have hzs : z.cells.size = 1 := by omega
        refine ⟨inf, z, rfl, hz, by simp [size_madeCells, hsz], fun w X g k c u hc hu => ?_⟩
        have hk : k < n := by simpa using (List.getElem?_eq_some_iff.1 hc).1
        have hc' : c = ofC (z.cells.getD 0 undef) := by
          rw [List.getElem?_eq_getElem (by simpa using hk)] at hc
          simpa using hc.symm
        have hu' : u = z.cells.getD 0 undef := by
          simp only [madeCells, Array.getElem?_toList, Array.getElem?_map, hsz, Nat.mul_one] at hu
          have : (Array.range n)[k]? = some k := by rw [Array.getElem?_eq_getElem (by simpa using hk)]; simp
          rw [this] at hu
          simp only [Option.map_some, Option.some.injEq, hzs, Nat.mod_one] at hu
          have h0 : 0 < z.cells.size := by omega
          rw [← hu, getElem!_pos z.cells 0 h0, Array.getD_eq_getD_getElem?, Array.getElem?_eq_getElem h0]; rfl
        subst hc'; subst hu'
        exact rep_ofC _
      | false =>
        simp only [hb, cond_false] at h
        cases hb2 : Nat.beq z.cells.size (P.cellsOf e) && Nat.blt 0 (P.cellsOf e) with
        | false => simp [hb2] at h
        | true =>
          simp only [hb2, cond_true, Option.some.injEq] at h
          simp only [Bool.and_eq_true] at hb2
          have h1 := Nat.eq_of_beq_eq_true hb2.1
          have h2 := blt_true hb2.2
          subst h
          have e1 : inf.size = z.cells.size := by omega
          have hm := madeCells_list (z := z.cells) (by omega) n
          rw [← e1] at hm
          refine ⟨inf, z, rfl, hz, ?_, fun w X g k c u hc hu => ?_⟩
          · rw [hm]
            simp [List.length_flatten]
          · rw [hm] at hu
            have e2 : (List.replicate n (z.cells.toList.map ofC)).flatten = ((List.replicate n z.cells.toList).flatten).map ofC := by
              rw [List.map_flatten, List.map_replicate]
            rw [e2, List.getElem?_map, hu] at hc
            simp only [Option.map_some, Option.some.injEq] at hc
            subst hc
            exact rep_ofC u

theorem aop_make {o : Oper} {t e : TypeId} {l c : Operand} {E : Env} {K : Env → Prop} {kl kc : IntKind} {L C : Int} {cs : List AV} (ho : o.op = .makeSlice t l c) (ht : P.underlying t = some (.slice e)) (hl : E.ev l = .v (.int kl L)) (hc : E.ev c = .v (.int kc C))
    (hz : zmade P e C.toNat = some cs) (h0 : 0 ≤ L) (hLC : L ≤ C) (hby : (P.bytesOf e : Int) * C ≤ 281474976710656) (h63 : C ≤ 9223372036854775807)
    (hk : K (({ E with h := E.h.add cs } : Env).set o.dst (.hs (E.h.nn, E.h.nx) 0 L.toNat C.toNat))) : AOp P o E K := by
  intro ro X M w0 a w g hs next Q hn hpan
  obtain ⟨inf, z, hi, hzz, hlen, hrep⟩ := zmade_sound hz
  have hlv : a.eval l = .int kl L := by have := hs.ev l; rw [hl] at this; exact rep_v this
  have hcv : a.eval c = .int kc C := by have := hs.ev c; rw [hc] at this; exact rep_v this
  have hbytes : (inf.bytes : Int) * C ≤ 281474976710656 := by simpa [Program.bytesOf, hi] using hby
  have hr := run_make (P := P) w t e inf z ht hi hzz kl kc L C h0 hLC hbytes h63
  obtain ⟨h3, h4⟩ := hs.box (vs := madeCells z.cells (C.toNat * inf.size)) (cs := cs) e hlen (fun k c u h1 h2 => hrep _ _ _ k c u h1 h2)
  refine wpIn_of_run (by rw [ho]; intro c h; cases h) ?_
  have : (execOp a.eval o).run P w = .ok (.value (.slice (some ⟨w.heap.size, 0, none⟩) L.toNat C.toNat)) (w.alloc (.cells (madeCells z.cells (C.toNat * inf.size)) e)) := by
    unfold execOp
    simp only [ho, hlv, hcv]
    simp only [Sem.run_bind, hr, Result.andThen_ok, Sem.run_pure]
  rw [this]
  cases h4 with
  | bp _ _ b hg =>
    exact hn _ _ _ _ hk (fun i b h => by rw [List.getElem?_append_left (List.getElem?_eq_some_iff.1 h).1]; exact h) (h3.put o.dst (.hs _ _ _ _ _ hg))

theorem aheap_sound {o : Oper} {E : Env} {K : Env → Prop} {Kp : AV → Env → Prop} (h : aheap P o E K Kp) : AOp P o E K Kp := by
  unfold aheap at h
  split at h
  · rename_i e x ho
    cases hb : okCell (E.ev x) with
    | false => simp [hb] at h
    | true => simp only [hb, cond_true] at h; exact (aop_box ho hb (forceL_use h)).kp
  · rename_i e ho
    split at h
    · rename_i cs hz; exact (aop_alloc ho hz (forceL_use h)).kp
    · exact h.elim
  · rename_i t p x ho
    split at h
    · rename_i i off hp
      split at h
      · rename_i s cs hcs
        cases hb : okCell (E.ev x) && ((E.ev x).cells.all isOne && ((P.underlying t).isSome && Nat.beq (E.ev x).cells.length (P.cellsOf t))) with
        | false => simp [hb] at h
        | true =>
          simp only [hb, cond_true] at h
          simp only [Bool.and_eq_true] at hb
          have h := forceL_use h
          exact (aop_store ho hp (h.1.1 ▸ hcs) hb.1 hb.2.1 hb.2.2.1 hb.2.2.2 h.1.2 (hsetK_use h.2)).kp
      · exact h.elim
    · exact h.elim
  · rename_i s x t t' ho
    cases hb : Nat.beq t t' with
    | false => simp [hb] at h
    | true =>
      have := Nat.eq_of_beq_eq_true hb
      subst this
      simp only [hb, cond_true] at h
      unfold aappend at h
      split at h
      · rename_i e sz n f oi szx m f' ht hs hx
        cases hb2 : growOk P e && (szFits sz (P.cellsOf e) n oi && szFits0 szx (P.cellsOf e) m) with
        | false => simp [hb2] at h
        | true =>
          simp only [hb2, cond_true] at h
          simp only [Bool.and_eq_true] at hb2
          obtain ⟨hp, hk⟩ := h
          obtain ⟨k0, k1⟩ := appK_use hk
          have hx' : E.ev x = .sl szx m f' ∨ ∃ oj, E.ev x = .os szx m f' oj := by
            generalize E.ev x = xa at hx
            unfold sliceParts at hx
            split at hx
            · simp only [Option.some.injEq, Prod.mk.injEq] at hx; obtain ⟨rfl, rfl, rfl⟩ := hx; exact .inl rfl
            · simp only [Option.some.injEq, Prod.mk.injEq] at hx; obtain ⟨rfl, rfl, rfl⟩ := hx; exact .inr ⟨_, rfl⟩
            · cases hx
          by_cases hm : m = 0
          · subst hm
            refine AOp.kp ?_
            refine aop_append ho hs hx' ht hb2.1 (szFits_spec hb2.2.1) (szFits0_spec hb2.2.2) (fun i hi => ?_) (fun k hk => absurd hk (by omega)) (fun h => absurd rfl h) (fun h => absurd rfl h) k0 (fun h => absurd rfl h)
            subst hi; exact hp
          · obtain ⟨q1, q2, q3, q4⟩ := k1 hm
            refine AOp.kp ?_
            refine aop_append ho hs hx' ht hb2.1 (szFits_spec hb2.2.1) (szFits0_spec hb2.2.2) (fun i hi => ?_) q1 (fun _ => q2) (fun _ => q3) k0 (fun _ => q4)
            subst hi; exact hp
      · exact h.elim
  · rename_i t l c ho
    split at h
    · rename_i e kl L kc C ht hl hc
      split at h
      · rename_i d cs hd hz
        exact (aop_make ho ht hl hc hz h.1 h.2.1 h.2.2.1 h.2.2.2.1 h.2.2.2.2).kp
      · exact h.elim
    · exact h.elim
  · rename_i t ho; exact (aop_makeMap ho h).kp
  · rename_i t s ho
    split at h
    · rename_i dr e k n ht hn
      split at h
      · rename_i inf hi
        exact (aop_makeChan ho ht hi hn h.1 h.2.1 h.2.2.1 h.2.2.2).kp
      · exact h.elim
    · exact h.elim
  · rename_i x ho
    split at h
    · rename_i t y hx; exact aop_panic ho hx h
    · exact h.elim
  · rename_i t m k x ho; exact (aupdate_sound (.inl ho) h).kp
  · rename_i t m k x ho; exact (aupdate_sound (.inr ho) h).kp
  · exact h
end Go.Vl
