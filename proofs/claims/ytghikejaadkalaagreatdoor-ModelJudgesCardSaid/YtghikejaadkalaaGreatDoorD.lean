/- Ranges over a map that nobody writes: the order is the tape's. -/
import Derived.Test.YtghikejaadkalaaGreatDoorC
import Derived.Maps.RangeRun
import Derived.Sort.Row
import Derived.Sort.Grow
import Derived.Shelf.Strings.FuncGrows
import Derived.Scope
import Derived.KernelRfl
import Derived.Test.YtghikejaadkalaaGreatDoorProg
import Derived.Ground.NamesProg
import Derived.Shelf.Lay
import Derived.Shelf.Strings.SlTrimAscii
import Derived.Shelf.Small.Strs
import Derived.Sort.AssemblyPlain
import Derived.Shelf.SortM.Plain
import Derived.Shelf.SortM.SortNone
import Derived.Shelf.SlGeneric
import Derived.Ground.SlgmProg
set_option linter.unusedVariables false
set_option linter.unusedSimpArgs false
namespace Go.Vl
open Go.RowKit
variable {P : Program}

end Go.Vl

/- Ranges over strings. -/
namespace Go.Vl
open Go.RowKit
variable {P : Program}

theorem aop_rangeS {o : Oper} {t : TypeId} {m : Operand} {s : ByteArray} {E : Env} {K : Env → Prop} {Kp : AV → Env → Prop} (ho : o.op = .range t m) (ht : P.underlying t = some .string) (hm : E.ev m = .v (.string s))
    (hk : K (({ E with h := E.h.addo (.si s 0) } : Env).set o.dst (.bp (E.h.nn, E.h.nx) 0))) : AOp P o E K Kp := by
  intro ro X M w0 a w g hs next Q hn hp
  have hr := hs.ev m
  rw [hm] at hr
  generalize hmv : a.eval m = u at hr
  cases hr with
  | v _ =>
    obtain ⟨h1, h2, _⟩ := hs.obj (x := .si s 0) (.stringIter s 0) (fun X' g' hst hnew => hnew)
    refine wpIn_of_run (by rw [ho]; intro c h; cases h) ?_
    have : (execOp a.eval o).run P w = .ok (.value (.pointer (some ⟨w.heap.size, 0, none⟩))) (w.alloc (.stringIter s 0)) := by
      unfold execOp
      simp only [ho, Instr.range, hmv, Sem.run_bind, run_underlying_some ht, Result.andThen_ok]
      simp [newObj, Sem.run]
    rw [this]
    exact hn _ _ _ _ hk (fun i b h => by rw [List.getElem?_append_left (List.getElem?_eq_some_iff.1 h).1]; exact h) (h1.put o.dst (.bp _ _ _ h2))
theorem aop_nextS {o : Oper} {it : Operand} {i : Id} {s : ByteArray} {pos : Nat} {E : Env} {K : Env → Prop} {Kp : AV → Env → Prop} (ho : o.op = .next it true) (hit : E.ev it = .bp i 0) (hes : hgeto i.1 E.h.bx = some (i.2, .si s pos))
    (hmore : pos < s.size → K (({ E with h := { E.h with bx := hseto i.1 (.si s (pos + (Utf8.decode s pos).2)) E.h.bx } } : Env).set o.dst (.tup [.v (.bool true), .v (.int .i64 pos), .v (.int .i32 (Utf8.decode s pos).1)])))
    (hdone : ¬ pos < s.size → K (E.set o.dst (.tup [.v (.bool false)]))) : AOp P o E K Kp := by
  intro ro X M w0 a w g hs next Q hn hp
  obtain ⟨b, hgb, hown⟩ := hs.hok.bx _ (hgeto_mem hes)
  dsimp only at hgb hown
  have hiv : a.eval it = .pointer (some ⟨b, 0, none⟩) := by
    have := hs.ev it
    rw [hit] at this
    generalize a.eval it = u at this
    cases this with
    | bp _ _ b' hg' => rw [hgb] at hg'; cases hg'; rfl
  have h1 : w.heap[b]? = some (.stringIter s pos) := hown
  refine wpIn_of_run (by intro c h; rw [ho] at h; cases h) ?_
  by_cases hlt : pos < s.size
  · have hev := evo_setO (o' := .stringIter s (pos + (Utf8.decode s pos).2)) h1 rfl (fun h => by cases h)
    have hnew := hs.setOwn (x := .si s (pos + (Utf8.decode s pos).2)) hes hgb hev (fun _ => setO_same h1)
    have : (execOp a.eval o).run P w = .ok (.value (.tuple #[.bool true, .int .i64 pos, .int .i32 (Utf8.decode s pos).1])) (World.setO w b (.stringIter s (pos + (Utf8.decode s pos).2))) := by
      unfold execOp
      simp only [ho, hiv, Instr.next, Sem.run_bind, run_getObjG h1, Result.andThen_ok, if_pos hlt, run_setObjG h1, Sem.run_pure]
      rfl
    rw [this]
    refine hn _ _ _ g (hmore hlt) (fun _ _ h => h) (hnew.put o.dst ?_)
    refine .tup _ [.bool true, .int .i64 pos, .int .i32 (Utf8.decode s pos).1] rfl fun j c u hc hu => ?_
    rcases j with _ | _ | _ | j
    · simp at hc hu; subst hc; subst hu; exact .v _
    · simp at hc hu; subst hc; subst hu; exact .v _
    · simp at hc hu; subst hc; subst hu; exact .v _
    · simp at hc
  · have : (execOp a.eval o).run P w = .ok (.value (.tuple #[.bool false])) w := by
      unfold execOp
      simp only [ho, hiv, Instr.next, Sem.run_bind, run_getObjG h1, Result.andThen_ok, if_neg hlt, Sem.run_pure]
    rw [this]
    refine hn _ _ _ g (hdone hlt) (fun _ _ h => h) (hs.put o.dst ?_)
    refine .tup [.v (.bool false)] [.bool false] rfl fun k c u hc hu => ?_
    cases k with
    | zero => simp at hc hu; subst hc; subst hu; exact .v _
    | succ k => simp at hc
theorem aop_nextSH {o : Oper} {it : Operand} {i : Id} {s : ByteArray} {pos : Nat} {R : List (Id × Own)} {E : Env} {K : Env → Prop} {Kp : AV → Env → Prop} (ho : o.op = .next it true) (hit : E.ev it = .bp i 0) (hR : E.h.bx = (i, .si s pos) :: R)
    (hmore : pos < s.size → K (({ E with h := { E.h with bx := (i, .si s (pos + (Utf8.decode s pos).2)) :: R } } : Env).set o.dst (.tup [.v (.bool true), .v (.int .i64 pos), .v (.int .i32 (Utf8.decode s pos).1)])))
    (hdone : ¬ pos < s.size → K (E.set o.dst (.tup [.v (.bool false)]))) : AOp P o E K Kp :=
  aop_nextS (pos := pos) ho hit (by rw [hR]; simp [hgeto]) (fun h => by
    have : hseto i.1 (.si s (pos + (Utf8.decode s pos).2)) E.h.bx = (i, .si s (pos + (Utf8.decode s pos).2)) :: R := by rw [hR]; simp [hseto]
    rw [this]; exact hmore h) hdone
theorem aop_nextSA {o : Oper} {it : Operand} {i : Id} {s : ByteArray} {pos c wd : Nat} {R : List (Id × Own)} {E : Env} {K : Env → Prop} {Kp : AV → Env → Prop} (ho : o.op = .next it true) (hit : E.ev it = .bp i 0) (hR : E.h.bx = (i, .si s pos) :: R) (hlt : pos < s.size) (hd : Utf8.decode s pos = (c, wd))
    (hk : K (({ E with h := { E.h with bx := (i, .si s (pos + wd)) :: R } } : Env).set o.dst (.tup [.v (.bool true), .v (.int .i64 pos), .v (.int .i32 c)]))) : AOp P o E K Kp :=
  aop_nextSH ho hit hR (fun _ => by rw [hd]; exact hk) (fun h => absurd hlt h)
theorem aop_nextS0 {o : Oper} {it : Operand} {i : Id} {s : ByteArray} {pos : Nat} {R : List (Id × Own)} {E : Env} {K : Env → Prop} {Kp : AV → Env → Prop} (ho : o.op = .next it true) (hit : E.ev it = .bp i 0) (hR : E.h.bx = (i, .si s pos) :: R) (hlt : ¬ pos < s.size)
    (hk : K (E.set o.dst (.tup [.v (.bool false)]))) : AOp P o E K Kp :=
  aop_nextSH ho hit hR (fun h => absurd h hlt) (fun _ => hk)
/-- An ASCII sign is itself. -/
theorem decode_lo {s : ByteArray} {i : Nat} (h : (s.get! i).toNat < 128) : Utf8.decode s i = ((s.get! i).toNat, 1) := by
  unfold Utf8.decode
  simp only [Nat.add_zero]
  rw [if_pos h]
end Go.Vl

/- Iterators that hand over one of several rows (a map's keys: in any order). -/
namespace Go.Vl
open Go.RowKit
variable {P : Program}

/-- The iterator hands over a row of S, one behind the other, to whomever. -/
def IterSet (P : Program) (it : FuncId) (first caps : List AV) {α : Type} (e : α → List AV) (S : List α → Prop) : Prop :=
  ∀ (i : Id) (σ : Type) (Cb : σ → List (Id × Own)) (Cp : σ → List (Id × Nat)) (I : List α → σ → Prop) (J : List α → α → σ → Prop), (∀ xs, S xs → Cons P i e xs Cb Cp I J) →
    ∀ s0 nx nn, I [] s0 → ECall P it (first ++ [.yl i] ++ caps) ⟨Cb s0, Cp s0, nx, nn⟩ (fun _ h' => ∃ xs s', S xs ∧ allQ xs I J s' ∧ h'.bx = Cb s' ∧ h'.pm = Cp s')
theorem IterSpec.set {it : FuncId} {first caps : List AV} {α : Type} {e : α → List AV} {xs : List α} (h : IterSpec P it first caps e xs) : IterSet P it first caps e (· = xs) :=
  fun i σ Cb Cp I J hc s0 nx nn h0 => (h i σ Cb Cp I J (hc xs rfl) s0 nx nn h0).mono fun _ _ ⟨s', h1, h2, h3⟩ => ⟨xs, s', rfl, h1, h2, h3⟩
end Go.Vl

/- A row that a callee made becomes a box of one's own. -/
namespace Go.Vl
open Go.RowKit
variable {P : Program}

def rowCells (n : Nat) (f : Nat → AV) : List AV := (List.range n).flatMap fun k => (f k).cells
theorem rowCells_get {n sz : Nat} {f : Nat → AV} (hc : ∀ i, i < n → (f i).cells.length = sz) : (rowCells n f).length = n * sz ∧ ∀ i j, i < n → j < sz → (rowCells n f)[i * sz + j]? = (f i).cells[j]? := by
  induction n with
  | zero => exact ⟨by simp [rowCells], fun i j h => by omega⟩
  | succ n ih =>
    obtain ⟨h1, h2⟩ := ih fun i hi => hc i (by omega)
    have e : rowCells (n + 1) f = rowCells n f ++ (f n).cells := by unfold rowCells; rw [List.range_succ, List.flatMap_append]; simp
    have hn := hc n (by omega)
    refine ⟨by rw [e, List.length_append, h1, hn, Nat.succ_mul], fun i j hi hj => ?_⟩
    rw [e]
    by_cases h : i < n
    · rw [List.getElem?_append_left, h2 i j h hj]
      rw [h1]
      have : i * sz + sz ≤ n * sz := by rw [← Nat.succ_mul]; exact Nat.mul_le_mul_right _ h
      omega
    · obtain rfl : i = n := by omega
      rw [List.getElem?_append_right (by rw [h1]; omega), h1]
      congr 1; omega
end Go.Vl

/- Contracts of the kit's shelf, read as contracts of mine. -/
namespace Go.Vl
open Go.RowKit
variable {P : Program}

theorem args_eq {w : World} {X : Nat → Nat → Prop} {g : List Nat} {us vs : List Value} (h3 : us.length = (vs.map AV.v).length)
    (h4 : ∀ (k : Nat) (c : AV) (u : Value), (vs.map AV.v)[k]? = some c → us[k]? = some u → Rep w X g c u) : us = vs := by
  refine List.ext_getElem (by simpa using h3) fun k hk1 hk2 => ?_
  have := h4 k (.v vs[k]) us[k] (by simp [hk2]) (List.getElem?_eq_getElem hk1)
  generalize us[k] = a at this
  cases this
  rfl
theorem tells_of_calls {f : FuncId} {vs : List Value} {u : Value} (hcb : callable P f)
    (h : ∀ w, Calls P f vs.toArray w fun e w' => e = .returned u ∧ Below w.heap.size w w') : Tells P f (vs.map .v) (.v u) := fun nx => by
  refine ⟨hcb, fun X w g us h1 h2 h3 h4 => ?_⟩
  obtain rfl := args_eq h3 h4
  refine (fnWay P f).mono (w0 := w) (g := g) (R := _) (h w) fun e w' ⟨he, hb⟩ => ?_
  have hev := Evo.of_below hb
  exact ⟨.ret (.v u), ⟨[], [], nx, 0⟩, g, ⟨u, he, .v _⟩, ⟨AVle.refl _, rfl, rfl⟩, fun _ _ h => h, h1.evo0 hev, fun b o hx i hi => (by cases hi), hev.mono fun b o _ h => h.elim, fun b o h _ => h⟩

end Go.Vl

/- Rows that a function of the shelf makes; predicates that are handed to it. -/
namespace Go.Vl
open Go.RowKit
variable {P : Program}

theorem tells_of_row {f : FuncId} {ars : List AV} {vs xs : List Value} {t : TypeId} (hcb : callable P f) (has : ∀ w X g (us : List Value), us.length = ars.length → (∀ (k : Nat) (c : AV) (u : Value), ars[k]? = some c → us[k]? = some u → Rep w X g c u) → us = vs)
    (h : ∀ w, Calls P f vs.toArray w fun e w' => ∃ A, e = .returned (.slice (some ⟨A, 0, none⟩) xs.length xs.length) ∧ w.heap.size ≤ A ∧ w'.ownsRow w.heap.size t 1 (.slice (some ⟨A, 0, none⟩) xs.length xs.length) xs.length xs ∧ Below w.heap.size w w') :
    Tells P f ars (.sl 1 xs.length fun k => .v (xs.getD k undef)) := fun nx => by
  refine ⟨hcb, fun X w g us h1 h2 h3 h4 => ?_⟩
  obtain rfl := has _ _ _ us h3 h4
  refine (fnWay P f).mono (w0 := w) (g := g) (R := _) (h w) fun e w' ⟨A, he, hA, hown, hb⟩ => ?_
  have hev := Evo.of_below hb
  refine ⟨.ret (.sl 1 xs.length fun k => .v (xs.getD k undef)), ⟨[], [], nx, 0⟩, g, ⟨_, he, ?_⟩, ⟨AVle.refl _, rfl, rfl⟩, fun _ _ h => h, h1.evo0 hev, fun b o hx i hi => (by cases hi), hev.mono fun b o _ h => h.elim, fun b o h _ => h⟩
  obtain ⟨hl, hv⟩ := hown
  rcases hv with ⟨hv, _⟩ | ⟨A', cap, cur, hv, _, hblk, hn, _, hsz, htk⟩
  · cases hv
  · cases hv
    have hnx : ∀ o, ¬ excl X g ⟨[], [], nx, 0⟩ A o := fun o hx => by
      have := h1.bd _ _ hx
      omega
    refine .sl 1 xs.length _ A 0 _ xs (by omega) (Nat.le_refl _) (fun k u hu => ⟨?_, hnx _⟩) (fun i _ => rfl) (fun i j c u hi hc hu => ?_)
    · have hk := (List.getElem?_eq_some_iff.1 hu).1
      rw [cell_of_block hblk, Nat.zero_add]
      have : (cur.toList.take (xs.length * 1))[k]? = some u := by rw [htk]; exact hu
      rw [List.getElem?_take] at this
      split at this
      · simpa using this
      · cases this
    · cases j with
      | zero =>
        simp only [AV.cells, List.getElem?_cons_zero, Option.some.injEq] at hc
        subst hc
        rw [Nat.mul_one, Nat.add_zero] at hu
        have : xs.getD i undef = u := by rw [List.getD_eq_getElem?_getD, hu]; rfl
        rw [this]
        exact .v _
      | succ j => simp [AV.cells] at hc
theorem below_of_evo {w w' : World} (h : Evo none2 w w') : Below w.heap.size w w' := ⟨h.os, h.tape, h.output, h.size, fun b hb => h.blk b hb fun o q => q⟩
theorem pred_of_tells {g : FuncId} {p : Nat → Bool} (h : ∀ x : Nat, x ≤ 1114111 → Tells P g [.v (.int .i32 x)] (.v (.bool (p x)))) (w : World) : Go.Proofs.PredGrows P g #[] p w := fun W x hx _ => by
  have hk : HOk W (excl none2 [] ⟨[], [], 0, 0⟩) [] ⟨[], [], 0, 0⟩ := ⟨by simp, by simp, by simp [Heap.ids], rfl, fun b o hx => by rcases hx with hx | ⟨p, hp, _⟩ | ⟨p, hp, _⟩ <;> first | exact hx.elim | cases hp⟩
  have hc := (h x hx 0).2 none2 W [] [.int .i32 x] hk (fun _ _ hx => hx.elim) rfl (fun k c u hc hu => by
    cases k with
    | zero => simp at hc hu; subst hc; subst hu; exact .v _
    | succ k => simp at hc)
  refine Calls.mono (show Calls P g _ W _ from hc) fun e w' ⟨r, h', g', a1, a2, _, _, _, a3, _⟩ => ?_
  cases r with
  | pan x => exact a2.elim
  | ret r =>
    obtain ⟨u, rfl, e2⟩ := a1
    have := a2.1 _ _ _ _ e2
    cases this
    refine ⟨rfl, below_of_evo (a3.mono fun b o _ hx => ?_)⟩
    rcases hx with hx | ⟨p, hp, _⟩ | ⟨p, hp, _⟩
    · exact hx
    · cases hp
    · cases hp
theorem fn_le {f : FuncId} : AVle (.fn (.func f) [] []) (.v (.func (.func f) #[] #[])) := fun w X g u hr => by
  cases hr with
  | fn _ _ _ v1 v2 h1 h2 _ _ =>
    have e1 : v1 = [] := List.eq_nil_of_length_eq_zero h1
    have e2 : v2 = [] := List.eq_nil_of_length_eq_zero h2
    subst e1; subst e2
    exact .v _
end Go.Vl

/- Ranges over functions whose body may return. -/
namespace Go.Vl
open Go.RowKit
variable {P : Program}
/-- A range over an iterator; a round goes on, or returns out of the function. -/
theorem aw_forX {gop : Operand} {ps : Array Tmp} {asg body : Code} {E : Env} {Q : AExit → Env → Prop} {it : FuncId} {first caps : List AV} {ds : List DA} {σ α : Type} {e : α → List AV} {xs : List α} {first' caps' : List AV}
    (Cb : σ → List (Id × Own)) (Cp : σ → List (Id × Nat)) (I : List α → σ → Prop) (J : List α → α → σ → Prop) (s0 : σ) (hd : E.df = some ds) (hf : E.ev gop = .fn (.func it) first caps) (hit : IterSpec P it first' caps' e xs) (hl1 : LeL first first') (hl2 : LeL caps caps')
    (hb : E.h.bx = Cb s0) (hp : E.h.pm = Cp s0) (h0 : I [] s0) (hlen : ∀ x, (e x).length = ps.size)
    (hc : ∀ pre x post s nx nn, xs = pre ++ x :: post → I pre s → AW P asg (roundEnv E.n E.t ⟨((E.h.nn + 1, E.h.nx + 1), .lp .ready none E.n E.t ps asg body) :: ((E.h.nn, E.h.nx), .df) :: Cb s, Cp s, nx, nn⟩ (ps.toList.zip (e x)).reverse)
      (asgQ P (E.h.nn + 1, E.h.nx + 1) body (wk fun r h' => (r = .v (.bool true) ∧ ∃ s', I (pre ++ [x]) s' ∧ h'.bx = ((E.h.nn + 1, E.h.nx + 1), .lp .ready none E.n E.t ps asg body) :: ((E.h.nn, E.h.nx), .df) :: Cb s' ∧ h'.pm = Cp s') ∨
        (r = .v (.bool false) ∧ ∃ s', J pre x s' ∧ h'.bx = ((E.h.nn + 1, E.h.nx + 1), .lp .done (some .ret) E.n E.t ps asg body) :: ((E.h.nn, E.h.nx), .df) :: Cb s' ∧ h'.pm = Cp s'))))
    (hend : ∀ s' nx nn, I xs s' → Q .normal { E with h := ⟨((E.h.nn + 1, E.h.nx + 1), .lp .exhausted none E.n E.t ps asg body) :: ((E.h.nn, E.h.nx), .df) :: Cb s', Cp s', nx, nn⟩, df := some (.col (E.h.nn, E.h.nx) :: ds) })
    (hret : ∀ pre x post s' nx nn, xs = pre ++ x :: post → J pre x s' → Q .ret { E with h := ⟨((E.h.nn + 1, E.h.nx + 1), .lp .exhausted (some .ret) E.n E.t ps asg body) :: ((E.h.nn, E.h.nx), .df) :: Cb s', Cp s', nx, nn⟩, df := some (.col (E.h.nn, E.h.nx) :: ds) }) :
    AW P (.rangeFunc gop ps asg body) E Q := by
  refine aw_iter (σ := σ × Bool) (fun s => ((E.h.nn + 1, E.h.nx + 1), .lp (bif s.2 then .done else .ready) (bif s.2 then some .ret else none) E.n E.t ps asg body) :: ((E.h.nn, E.h.nx), .df) :: Cb s.1) (fun s => Cp s.1) (fun pre s => s.2 = false ∧ I pre s.1) (fun pre x s => s.2 = true ∧ J pre x s.1) (s0, false) hd hf hit hl1 hl2 ?_ hp ⟨rfl, h0⟩ ?_ ?_
  · show _ :: _ :: E.h.bx = _
    rw [hb]; rfl
  · rintro pre x post ⟨s, b⟩ nx nn hx ⟨hb0, hI⟩
    dsimp only at hb0 hI
    subst hb0
    refine (yield_of_aw (i := (E.h.nn + 1, E.h.nx + 1)) (pd := none) (n := E.n) (t := E.t) (ps := ps) (asg := asg) (body := body) (by simp [hgeto]) (hlen x) (hc pre x post s nx nn hx hI)).wk.mono fun r h' hq => ?_
    cases r with
    | pan x => exact hq.elim
    | ret r =>
      rcases hq with ⟨hr, s', h1, h2, h3⟩ | ⟨hr, s', h1, h2, h3⟩
      · exact ⟨(s', false), .inl ⟨hr, rfl, h1⟩, h2, h3⟩
      · exact ⟨(s', true), .inr ⟨hr, rfl, h1⟩, h2, h3⟩
  · rintro ⟨s', b⟩ nx nn h
    rcases h with ⟨hb0, h⟩ | ⟨pre, x, post, hx, hb0, h⟩
    · dsimp only at hb0 h
      subst hb0
      unfold rdone
      simp only [hgeto, Nat.beq_refl, cond_true, cond_false]
      refine ⟨trivial, (by intro h; cases h), ?_⟩
      simp only [hseto, Nat.beq_refl, cond_true]
      exact hend s' nx nn h
    · dsimp only at hb0 h
      subst hb0
      unfold rdone
      simp only [hgeto, Nat.beq_refl, cond_true, cond_false]
      refine ⟨trivial, (by intro h; cases h), ?_⟩
      simp only [hseto, Nat.beq_refl, cond_true]
      exact hret pre x post s' nx nn hx h
end Go.Vl

/- An array that stands ahead of other cells, as a slice. -/
namespace Go.Vl
open Go.RowKit
variable {P : Program}

theorem run_slice_ahead {t e : TypeId} {d : TypeDesc} {n : Nat} {w : World} (ht : P.underlying t = some (.array n e)) (hd : P.underlying e = some d) (h1 : P.cellsOf e = 1) (b off : Nat) (hn : 0 < n) :
    (Instr.sliceAt t (.pointer (some ⟨b, off, none⟩)) none none none).run P w = .ok (.slice (some ⟨b, off, none⟩) n n) w := by
  simp [Instr.sliceAt, run_underlying ht, Instr.sureAddr, Instr.sliceBounds, run_sizeOf' hd, h1, add_none]
theorem yields_ahead {o : Oper} {E : Env} {t e : TypeId} {x : Operand} {n : Nat} {d : TypeDesc} {cs : List AV} (ho : o.op = .slice t x none none none) (hx : E.ev x = .rp cs)
    (ht : P.underlying t = some (.array n e)) (hd : P.underlying e = some d) (h1 : P.cellsOf e = 1) (hn0 : 0 < n) (hn : n ≤ cs.length) (hc : ∀ c ∈ cs, c.cells = [c]) : Yields P o E (.sl 1 n (fun j => cs.getD j .any)) := by
  refine ⟨(by rw [ho]; intro c hc; cases hc), fun ρ w X g hk hr => .inl ?_⟩
  have r1 := hr x (by rw [ho]; simp [Op.operands])
  rw [hx] at r1
  generalize hu : ρ x = u at r1
  cases r1 with
  | rp _ b off vs hvs hcell hrep =>
    refine ⟨.slice (some ⟨b, off, none⟩) n n, w, ?_, Evo.refl _ _, ?_⟩
    · unfold execOp
      simp only [ho, hu, Option.map_none]
      exact run_value (run_slice_ahead ht hd h1 b off hn0)
    · refine .sl _ _ _ b off n (vs.take n) (by simp; omega) (Nat.le_refl _) (fun k u hk => ?_) (fun i hi => ?_) (fun i j c u hi hj hu => ?_)
      · rw [List.getElem?_take] at hk
        split at hk
        · exact hcell k u hk
        · cases hk
      · have hi2 : i < cs.length := by omega
        have : cs.getD i .any ∈ cs := by simp [List.getD, hi2]
        rw [hc _ this]; rfl
      · have hi2 : i < cs.length := by omega
        have hm : cs.getD i .any ∈ cs := by simp [List.getD, hi2]
        rw [hc _ hm] at hj
        cases j with
        | zero =>
          simp only [List.getElem?_cons_zero, Option.some.injEq] at hj
          subst hj
          rw [List.getElem?_take] at hu
          split at hu
          · exact hrep i _ u (by simp [List.getD, hi2]) (by simpa using hu)
          · cases hu
        | succ j => simp at hj
theorem aop_ahead {o : Oper} {E : Env} {K : Env → Prop} {Kp : AV → Env → Prop} {t e : TypeId} {x : Operand} {n : Nat} {d : TypeDesc} {cs : List AV} (ho : o.op = .slice t x none none none) (hx : E.ev x = .rp cs)
    (ht : P.underlying t = some (.array n e)) (hd : P.underlying e = some d) (h1 : P.cellsOf e = 1) (hn0 : 0 < n) (hn : n ≤ cs.length) (hc : ∀ c ∈ cs, c.cells = [c]) (hk : K (E.set o.dst (.sl 1 n (fun j => cs.getD j .any)))) : AOp P o E K Kp :=
  AOp.of_yields (yields_ahead ho hx ht hd h1 hn0 hn hc) hk
end Go.Vl

/- As VlX, with operations that look at memory of one's own which effects turn: such a look stands ahead of every effect that comes behind it. -/
namespace Go.Vl
open Go.RowKit
variable {P : Program}

def PureNow (P : Program) (ops : Array Oper) (o : Oper) (E : Env) (r : AV) : Prop :=
  ∀ E' : Env, E'.h = E.h → (∀ k, k ∈ o.looksAt ops → E'.t k = E.t k) → GY P ops o E' r
theorem PureNow.congr {ops : Array Oper} {o : Oper} {E E' : Env} {r : AV} (h : PureNow P ops o E r) (hh : E'.h = E.h) (ht : ∀ k, k ∈ o.looksAt ops → E'.t k = E.t k) : PureNow P ops o E' r :=
  fun E'' h1 h2 => h E'' (h1.trans hh) fun k hk => (h2 k hk).trans (ht k hk)
def MixL3 (P : Program) (ops : Array Oper) (B : List (Id × Own)) (eff ld : Nat → Bool) : List Nat → Env → (Env → Prop) → Prop
  | [], E, K => K E
  | i :: l, E, K => ∃ o, ops[i]? = some o ∧ (match eff i with
    | true => ∃ R, Eff P ops B o E R ∧ ∀ r h', R r h' → MixL3 P ops B eff ld l (({ E with h := h' } : Env).set o.dst r) K
    | false => match ld i with
      | true => ∃ r, PureNow P ops o E r ∧ MixL3 P ops B eff ld l (E.set o.dst r) K
      | false => ∃ r, PureAll P ops B o E r ∧ MixL3 P ops B eff ld l (E.set o.dst r) K)
theorem MixL3.front {ops : Array Oper} {B : List (Id × Own)} {eff ld : Nat → Bool} {K : Env → Prop} {j : Nat} {oj : Oper} (hj : ops[j]? = some oj) : ∀ (l1 l2 : List Nat) (E : Env),
    (∀ i ∈ l1, eff i = false ∧ (ld i = true → eff j = false) ∧ ∀ oi, ops[i]? = some oi → oi.apart ops oj = true) → MixL3 P ops B eff ld (l1 ++ j :: l2) E K → MixL3 P ops B eff ld (j :: (l1 ++ l2)) E K
  | [], l2, E, _, h => h
  | i :: l1, l2, E, hap, h => by
    obtain ⟨oi, h1, h2⟩ := h
    obtain ⟨he, hld, ha⟩ := hap i (by simp)
    obtain ⟨a1, a2, a3⟩ := Oper.apart_spec (ha oi h1)
    have back : ∀ {ri : AV} {E1 : Env}, E1.h = E.h ∨ ld i = false → (∀ k, k ∈ oi.looksAt ops → E1.t k = E.t k) → (match ld i with | true => PureNow P ops oi E ri | false => PureAll P ops B oi E ri) →
        (match ld i with | true => PureNow P ops oi E1 ri | false => PureAll P ops B oi E1 ri) := fun hh ht hp => by
      cases hli : ld i with
      | true => simp only [hli] at hp ⊢; exact hp.congr (hh.resolve_right (by rw [hli]; simp)) ht
      | false => simp only [hli] at hp ⊢; exact hp.congr ht
    simp only [he] at h2
    have h2' : ∃ ri, (match ld i with | true => PureNow P ops oi E ri | false => PureAll P ops B oi E ri) ∧ MixL3 P ops B eff ld (l1 ++ j :: l2) (E.set oi.dst ri) K := by
      cases hli : ld i with
      | true => simp only [hli] at h2 ⊢; exact h2
      | false => simp only [hli] at h2 ⊢; exact h2
    obtain ⟨ri, h3, h4⟩ := h2'
    have close : ∀ {E1 : Env}, (match ld i with | true => PureNow P ops oi E1 ri | false => PureAll P ops B oi E1 ri) → MixL3 P ops B eff ld (l1 ++ l2) (E1.set oi.dst ri) K → MixL3 P ops B eff ld (i :: (l1 ++ l2)) E1 K := fun hp hk => by
      refine ⟨oi, h1, ?_⟩
      simp only [he]
      cases hli : ld i with
      | true => simp only [hli] at hp ⊢; exact ⟨ri, hp, hk⟩
      | false => simp only [hli] at hp ⊢; exact ⟨ri, hp, hk⟩
    obtain ⟨o, h5, h6⟩ := MixL3.front hj l1 l2 _ (fun i' hi' => hap i' (List.mem_cons_of_mem _ hi')) h4
    rw [hj] at h5
    cases h5
    refine ⟨oj, hj, ?_⟩
    cases hej : eff j with
    | true =>
      have hli : ld i = false := by
        cases h : ld i with
        | false => rfl
        | true => rw [hld h] at hej; cases hej
      simp only [hej] at h6 ⊢
      obtain ⟨R, q1, q2⟩ := h6
      refine ⟨R, q1.congr (by rw [Env.set_h]) fun k hk => (Env.set_other (fun e => a1 k e hk)).symm, fun r h' hr => ?_⟩
      have q3 := q2 r h' hr
      refine close (back (.inr hli) (fun k hk => Env.set_other (fun e => a3 k e hk)) h3) ?_
      rw [set_heap, Env.set_comm (d := oi.dst) (d' := oj.dst) (fun k hk => a2 k hk)] at q3
      exact q3
    | false =>
      simp only [hej] at h6 ⊢
      cases hlj : ld j with
      | true =>
        simp only [hlj] at h6 ⊢
        obtain ⟨rj, q1, q2⟩ := h6
        refine ⟨rj, q1.congr (by rw [Env.set_h]) fun k hk => (Env.set_other (fun e => a1 k e hk)).symm, close (back (.inl (by rw [Env.set_h])) (fun k hk => Env.set_other (fun e => a3 k e hk)) h3) ?_⟩
        rw [Env.set_comm (d := oi.dst) (d' := oj.dst) (fun k hk => a2 k hk)] at q2
        exact q2
      | false =>
        simp only [hlj] at h6 ⊢
        obtain ⟨rj, q1, q2⟩ := h6
        refine ⟨rj, q1.congr fun k hk => (Env.set_other (fun e => a1 k e hk)).symm, close (back (.inl (by rw [Env.set_h])) (fun k hk => Env.set_other (fun e => a3 k e hk)) h3) ?_⟩
        rw [Env.set_comm (d := oi.dst) (d' := oj.dst) (fun k hk => a2 k hk)] at q2
        exact q2
end Go.Vl

/- A walk cut in two where ways meet again; rows of cells in a box, element by element. -/
namespace Go.Vl
open Go.RowKit
variable {P : Program}

/-- Behind the first part the env is one of a family. -/
def cutQ {ι : Type} (F : ι → Env) (J : ι → Prop) (Q : AExit → Env → Prop) : AExit → Env → Prop := fun e E' =>
  match e with
  | .normal => ∃ i, J i ∧ ELe E' (F i)
  | e => Q e E'
theorem aw_mid {ι : Type} (F : ι → Env) (J : ι → Prop) {x y : Code} {E : Env} {Q : AExit → Env → Prop} (h : AW P x E (cutQ F J Q)) (hk : ∀ i, J i → AW P y (F i) Q) : AW P x E (seqQ P y Q) :=
  h.mono fun ex E' h' => by
    cases ex with
    | normal => obtain ⟨i, hI, hl⟩ := h'; exact AW.le hl (hk i hI)
    | exit i => exact h'
    | goto i => exact h'
    | ret => exact h'
    | panic i => exact h'
theorem cut_use {ι : Type} {F : ι → Env} {J : ι → Prop} {y : Code} {Q : AExit → Env → Prop} (hk : ∀ i, J i → AW P y (F i) Q) : ∀ ex E', cutQ F J Q ex E' → seqQ P y Q ex E' := fun ex E' h' => by
  cases ex with
  | normal => obtain ⟨i, hI, hl⟩ := h'; exact AW.le hl (hk i hI)
  | exit i => exact h'
  | goto i => exact h'
  | ret => exact h'
  | panic i => exact h'
theorem seqQ_mono {y : Code} {Q Q' : AExit → Env → Prop} (h : ∀ ex E, Q ex E → Q' ex E) : ∀ ex E, seqQ P y Q ex E → seqQ P y Q' ex E := fun ex E h' => by
  cases ex with
  | normal => exact AW.mono h' h
  | exit i => exact h _ _ h'
  | goto i => exact h _ _ h'
  | ret => exact h _ _ h'
  | panic i => exact h _ _ h'
/-- The cut behind the second part. -/
theorem aw_mid2 {ι : Type} (F : ι → Env) (J : ι → Prop) {x y1 y : Code} {E : Env} {Q : AExit → Env → Prop} (h : AW P x E (seqQ P y1 (cutQ F J Q))) (hk : ∀ i, J i → AW P y (F i) Q) : AW P x E (seqQ P y1 (seqQ P y Q)) :=
  h.mono (seqQ_mono (cut_use hk))
theorem aw_midB {ι : Type} (F : ι → Env) (J : ι → Prop) {k : Nat} {x y : Code} {E : Env} {Q : AExit → Env → Prop} (h : AW P x E (blockQ k (cutQ F J Q))) (hk : ∀ i, J i → AW P y (F i) Q) : AW P x E (blockQ k (seqQ P y Q)) := by
  have key : ∀ ex E', cutQ F J Q ex E' → seqQ P y Q ex E' := fun ex E' h' => by
    cases ex with
    | normal => obtain ⟨i, hI, hl⟩ := h'; exact AW.le hl (hk i hI)
    | exit i => exact h'
    | goto i => exact h'
    | ret => exact h'
    | panic i => exact h'
  refine h.mono fun ex E' h' => ?_
  cases ex with
  | exit i =>
    simp only [blockQ] at h' ⊢
    cases hb : Nat.beq i k with
    | true => simp only [hb, cond_true] at h' ⊢; exact key .normal _ h'
    | false => simp only [hb, cond_false] at h' ⊢; exact h'
  | normal => exact key .normal _ h'
  | goto i => exact h'
  | ret => exact h'
  | panic i => exact h'
section
variable {α : Type} [Inhabited α]
theorem ixge {x : Int} {i : Nat} (h : x = (i : Int)) : 0 ≤ x := by omega
theorem ixlt {x : Int} {i n : Nat} (h : x = (i : Int)) (hn : i < n) : x < (n : Int) := by omega
end
end Go.Vl

/- Rows in boxes of one's own: append onto them (in place, or into a new box), cut them. -/
namespace Go.Vl
open Go.RowKit
variable {P : Program}

theorem AOp.any {o : Oper} {E : Env} {K : Env → Prop} {Kp : AV → Env → Prop} (h : AOp P o E K) : AOp P o E K Kp := fun ro X M w0 a w g hs next Q hn _ => h ro X M w0 a w g hs next Q hn fun _ _ _ _ _ _ h => h.elim
theorem news_one {w : World} {X : Nat → Nat → Prop} {g : List Nat} {m sz : Nat} {f' : Nat → AV} {news : List Value} (hpos : 0 < sz) (hnl : news.length = m * sz) (hncs : ∀ i, i < m → (f' i).cells.length = sz)
    (hnr : ∀ (i j : Nat) (c : AV) (u : Value), i < m → (f' i).cells[j]? = some c → news[i * sz + j]? = some u → Rep w X g c u) (hone : oneRow m f') : ∀ u ∈ news, u.oneCell' = true := by
  intro u hu
  obtain ⟨k, hk, hku⟩ := List.getElem_of_mem hu
  have hdm := Nat.div_add_mod k sz
  have hmod := Nat.mod_lt k hpos
  have hdiv : k / sz < m := by rw [Nat.div_lt_iff_lt_mul hpos]; omega
  have hlt : k % sz < (f' (k / sz)).cells.length := by rw [hncs _ hdiv]; exact hmod
  have hrep := hnr (k / sz) (k % sz) _ u hdiv (List.getElem?_eq_getElem hlt) (by
    rw [Nat.mul_comm, hdm, List.getElem?_eq_getElem hk, hku])
  exact isOne_sound (List.all_eq_true.1 (hone _ hdiv) _ (List.getElem_mem hlt)) hrep
theorem news_rep {w : World} {X : Nat → Nat → Prop} {g : List Nat} {m sz : Nat} {f' : Nat → AV} {news : List Value} (hpos : 0 < sz) (hnl : news.length = m * sz) (hncs : ∀ i, i < m → (f' i).cells.length = sz)
    (hnr : ∀ (i j : Nat) (c : AV) (u : Value), i < m → (f' i).cells[j]? = some c → news[i * sz + j]? = some u → Rep w X g c u) :
    ∀ (k : Nat) (c : AV) (u : Value), (rowCells m f')[k]? = some c → news[k]? = some u → Rep w X g c u := by
  intro k c u hc hu
  obtain ⟨rl, rg⟩ := rowCells_get hncs
  have hk : k < m * sz := by rw [← hnl]; exact (List.getElem?_eq_some_iff.1 hu).1
  have hdm := Nat.div_add_mod k sz
  have hmod := Nat.mod_lt k hpos
  have hdiv : k / sz < m := by rw [Nat.div_lt_iff_lt_mul hpos]; exact hk
  have e : k = k / sz * sz + k % sz := by rw [Nat.mul_comm]; exact hdm.symm
  rw [e, rg _ _ hdiv hmod] at hc
  exact hnr _ _ c u hdiv hc (by rw [← e]; exact hu)
/-- A row in a box grows by another row. -/
theorem aop_appendB {o : Oper} {E : Env} {K : Env → Prop} {Kp : AV → Env → Prop} {s x : Operand} {t e : TypeId} {n szx m cap : Nat} {f' : Nat → AV} {i : Id} {cs : List AV}
    (ho : o.op = .call { callee := .builtin .append, args := #[s, x], argTypes := #[t, t] }) (hs : E.ev s = .hs i 0 n cap)
    (hx : E.ev x = .sl szx m f' ∨ ∃ oj, E.ev x = .os szx m f' oj)
    (ht : P.underlying t = some (.slice e)) (hg : growOk P e = true) (hszx : m = 0 ∨ szx = P.cellsOf e)
    (hcs : hget i.1 E.h.bx = some (i.2, cs)) (hcap : n ≤ cap) (hcl : cap * P.cellsOf e ≤ cs.length) (hone : oneRow m f')
    (hroom0 : m ≠ 0 → (n + m) * P.bytesOf e ≤ 140737488355328) (hlen0 : m ≠ 0 → n + m ≤ 9223372036854775807)
    (hk0 : m = 0 → K (E.set o.dst (.hs i 0 n cap)))
    (hk1 : m ≠ 0 → n + m ≤ cap → K (({ E with h := { E.h with bx := hset i.1 (splice cs (n * P.cellsOf e) (rowCells m f')) E.h.bx } } : Env).set o.dst (.hs i 0 (n + m) cap)))
    (hk2 : m ≠ 0 → ¬ n + m ≤ cap → ∀ ncap, n + m ≤ ncap → K (({ E with h := E.h.add (cs.take (n * P.cellsOf e) ++ rowCells m f' ++ List.replicate ((ncap - (n + m)) * P.cellsOf e) .any) } : Env).set o.dst (.hs (E.h.nn, E.h.nx) 0 (n + m) ncap))) : AOp P o E K Kp := by
  intro ro X M w0 a w g hst next Q hn hpan
  obtain ⟨inf, z, hi, hz, hzs, hsi, hpos, hby⟩ := growOk_spec hg
  have hmem := hget_mem hcs
  obtain ⟨b, hgb, vs, ev, hb, hvs, hr⟩ := hst.hok.bx _ hmem
  dsimp only at hgb hvs hr
  have hsv : a.eval s = .slice (some ⟨b, 0, none⟩) n cap := by
    have := hst.ev s
    rw [hs] at this
    generalize a.eval s = u at this
    cases this with
    | hs _ _ _ _ b' hg' => rw [hgb] at hg'; cases hg'; rfl
  have hxr : Rep w (excl X g E.h) g (.sl szx m f') (a.eval x) := by
    have := hst.ev x
    rcases hx with hx | ⟨oj, hx⟩
    · rw [hx] at this; exact this
    · rw [hx] at this; exact sl_of_os this
  have hexec : ∀ {u : Value} {w' : World}, (Builtin.append_ #[t, t] o.type #[a.eval s, a.eval x]).run P w = .ok u w' → (execOp a.eval o).run P w = .ok (.value u) w' := by
    intro u w' h
    unfold execOp
    simp only [ho, resolve]
    simp [invoke, builtin, h]
  by_cases hm : m = 0
  · subst hm
    have hrun : (Builtin.append_ #[t, t] o.type #[a.eval s, a.eval x]).run P w = .ok (a.eval s) w := by
      have key : ∀ (xb : Option Addr) (xc : Nat), (Builtin.append_ #[t, t] o.type #[.slice (some ⟨b, 0, none⟩) n cap, .slice xb 0 xc]).run P w = .ok (.slice (some ⟨b, 0, none⟩) n cap) w := by
        intro xb xc
        have hfc : (Builtin.firstCells inf.size 0 (.slice xb 0 xc)).run P w = .ok #[] w := by
          cases xb with
          | none => simp [Builtin.firstCells]
          | some ad => simpa using run_firstCells_some (P := P) w inf.size 0 ad 0 xc [] (by simp) (by simp)
        simp [Builtin.append_, run_underlying ht, sizeOf, typeInfo, hi, Builtin.lenOf, hcap, hfc, storeCells]
      rw [hsv]
      generalize a.eval x = ux at hxr
      cases hxr with
      | sl0 _ _ xa xc => exact key _ _
      | sl _ _ _ b off cap vs hlen' hcap => exact key _ _
    refine wpIn_of_run (by rw [ho]; intro c h; cases h) ?_
    rw [hexec hrun]
    have := hst.ev s
    rw [hs] at this
    exact hn _ _ _ g (hk0 rfl) (fun _ _ h => h) (hst.put o.dst this)
  · have hroom := hroom0 hm
    have hlen := hlen0 hm
    have hszx' : szx = P.cellsOf e := hszx.resolve_left hm
    subst hszx'
    obtain ⟨ax, xcap, news, hxv, hnl, hncell, hncs, hnr⟩ := app_slice hxr hm
    have hnone := news_one hpos hnl hncs hnr hone
    have hnrep := news_rep hpos hnl hncs hnr
    obtain ⟨rl, rg⟩ := rowCells_get hncs
    have hvl : vs.toList.length = cs.length := by simpa using hvs
    by_cases hfit : n + m ≤ cap
    · have hnm : (n + m) * P.cellsOf e ≤ cap * P.cellsOf e := Nat.mul_le_mul_right _ hfit
      rw [Nat.add_mul] at hnm
      have hr2 := run_append_in (P := P) w t o.type e ev inf ht hi b n cap vs hb ax m xcap news (by rw [hnl, hsi]) hncell hnone hfit (by rw [hsi, hnl]; omega)
      rw [hsi] at hr2
      have hnew := hst.setRow (cs := splice cs (n * P.cellsOf e) (rowCells m f')) (vs := (vs.toList.take (n * P.cellsOf e) ++ news ++ vs.toList.drop (n * P.cellsOf e + news.length)).toArray) hcs hgb hb
        (by simp only [splice_def, List.length_append, List.length_take, List.length_drop, Array.length_toList, rl, hnl]; omega)
        (by simp only [List.size_toArray, List.length_append, List.length_take, List.length_drop, Array.length_toList, hnl]; omega)
        (fun k c u hk1 hk2 => by
          simp only [List.append_assoc] at hk2
          rw [splice_get _ _ _ (by simp only [Array.length_toList]; omega)] at hk2
          rw [splice_def] at hk1
          rw [splice_get _ _ _ (by rw [rl]; omega)] at hk1
          rw [hnl] at hk2
          rw [rl] at hk1
          split at hk1
          · rename_i h2; rw [if_pos h2] at hk2; exact hr k c u hk1 (by simpa using hk2)
          · rename_i h2
            rw [if_neg h2] at hk2
            split at hk1
            · rename_i h3; rw [if_pos h3] at hk2; exact hnrep _ c u hk1 hk2
            · rename_i h3; rw [if_neg h3] at hk2; exact hr k c u hk1 (by simpa using hk2))
      refine wpIn_of_run (by rw [ho]; intro c h; cases h) ?_
      rw [hexec (by rw [hsv, hxv]; exact hr2)]
      exact hn _ _ _ g (hk1 hm hfit) (fun _ _ h => h) (hnew.put o.dst (.hs _ _ _ _ b hgb))
    · have hnc : n * P.cellsOf e ≤ cap * P.cellsOf e := Nat.mul_le_mul_right _ hcap
      have hol : (vs.toList.take (n * P.cellsOf e)).length = n * P.cellsOf e := by rw [List.length_take]; omega
      have hocell : ∀ (j : Nat) (u : Value), (vs.toList.take (n * P.cellsOf e))[j]? = some u → w.cell? ((⟨b, 0, none⟩ : Addr).add j) = some u := fun j u hu => by
        rw [add_none, Nat.zero_add, cell_of_block hb]
        rw [List.getElem?_take] at hu
        split at hu
        · simpa using hu
        · cases hu
      have hr2 := run_append_grow (P := P) w t o.type e inf z ht hi hz ⟨b, 0, none⟩ n cap (vs.toList.take (n * P.cellsOf e)) (by rw [hol, hsi]) hocell ax m xcap news (by rw [hnl, hsi]) hncell (by omega) (by omega) (growslice_fits (by omega) (by rw [hby]; exact hroom))
      have hge := grownCap_ge w (n + m) cap e
      generalize grownCap w (n + m) cap e = ncap at hr2 hge
      have hst2 := hst.drew
      obtain ⟨h3, h4⟩ := hst2.box (cs := cs.take (n * P.cellsOf e) ++ rowCells m f' ++ List.replicate ((ncap - (n + m)) * P.cellsOf e) .any) (vs := (vs.toList.take (n * P.cellsOf e)).toArray ++ news.toArray ++ Builtin.zeroCells z.cells (ncap - (n + m))) e
        (by simp only [Array.toList_append, List.length_append, Array.length_toList, size_zeroCells, hzs, List.length_take, List.length_replicate, rl, hnl, List.size_toArray]; omega)
        (fun k c u hc hu => by
          have hevo : Evo none2 w w.drew := evo_drew w
          simp only [Array.toList_append] at hu
          rw [List.append_assoc] at hc hu
          by_cases h1 : k < n * P.cellsOf e
          · rw [List.getElem?_append_left (by rw [List.length_take]; omega), List.getElem?_take, if_pos h1] at hc
            rw [List.getElem?_append_left (by simp only [List.length_take, Array.length_toList] at *; omega)] at hu
            rw [List.getElem?_take, if_pos h1] at hu
            exact (hr k c u hc (by simpa using hu)).evo0 hevo
          · rw [List.getElem?_append_right (by rw [List.length_take]; omega), List.length_take, Nat.min_eq_left (by omega)] at hc
            rw [List.getElem?_append_right (by simp only [List.length_take, Array.length_toList] at *; omega)] at hu
            simp only [hol] at hu
            by_cases h2 : k - n * P.cellsOf e < m * P.cellsOf e
            · rw [List.getElem?_append_left (by rw [rl]; exact h2)] at hc
              rw [List.getElem?_append_left (by rw [hnl]; exact h2)] at hu
              exact (hnrep _ c u hc hu).evo0 hevo
            · rw [List.getElem?_append_right (by rw [rl]; omega)] at hc
              have := List.mem_of_getElem? hc
              rw [(List.mem_replicate.1 this).2]
              exact .any _)
      refine wpIn_of_run (by rw [ho]; intro c h; cases h) ?_
      rw [hexec (by rw [hsv, hxv]; exact hr2)]
      refine hn _ _ _ _ (hk2 hm hfit ncap hge) (fun i b h => by rw [List.getElem?_append_left (List.getElem?_eq_some_iff.1 h).1]; exact h) (h3.put o.dst ?_)
      refine .hs _ _ _ _ w.heap.size ?_
      generalize hX : excl X (g ++ [w.drew.heap.size]) (E.h.add (cs.take (n * P.cellsOf e) ++ rowCells m f' ++ List.replicate ((ncap - (n + m)) * P.cellsOf e) .any)) = X2 at h4
      cases h4 with
      | bp _ _ b' hg' => exact hg'
theorem box_rep {w : World} {X : Nat → Nat → Prop} {g : List Nat} {i : Id} {b : Nat} (h : Rep w X g (.bp i 0) (.pointer (some ⟨b, 0, none⟩))) : g[i.2]? = some b := by
  cases h with
  | bp _ _ b' hg' => exact hg'
/-- Zeros, in a box of one's own: append(nil, make([]E, m)...). -/
theorem aop_appendZB0 {o : Oper} {E : Env} {K : Env → Prop} {Kp : AV → Env → Prop} {s x : Operand} {t e : TypeId} {sz m : Nat} {f : Nat → AV} {tn : TypeId} {kn kq : IntKind}
    (ho : o.op = .call { callee := .builtin .append, args := #[s, x], argTypes := #[t, tn] }) (hs : E.ev s = .os sz 0 f none)
    (hx : E.ev x = .v (.int kq m)) (hm : m ≠ 0) (htn : P.underlying tn = some (.int kn)) (ht : P.underlying t = some (.slice e)) (hg : growOk P e = true)
    (hroom : m * P.bytesOf e ≤ 140737488355328) (hlen : m ≤ 9223372036854775807)
    (hk2 : ∀ ncap, m ≤ ncap → K (({ E with h := E.h.add (List.replicate (ncap * P.cellsOf e) .any) } : Env).set o.dst (.hs (E.h.nn, E.h.nx) 0 m ncap))) : AOp P o E K Kp := by
  intro ro X M w0 a w g hst next Q hn hpan
  obtain ⟨inf, z, hi, hz, hzs, hsi, hpos, hby⟩ := growOk_spec hg
  have hxv : a.eval x = .int kq m := by
    have := hst.ev x
    rw [hx] at this
    generalize a.eval x = u at this
    cases this; rfl
  have hexec : ∀ {u : Value} {w' : World}, (Builtin.append_ #[t, tn] o.type #[a.eval s, a.eval x]).run P w = .ok u w' → (execOp a.eval o).run P w = .ok (.value u) w' := by
    intro u w' h
    unfold execOp
    simp only [ho, resolve]
    simp [invoke, builtin, h]
  have hrun : ∃ ncap, m ≤ ncap ∧ (Builtin.append_ #[t, tn] o.type #[a.eval s, a.eval x]).run P w = .ok (.slice (some ⟨w.heap.size, 0, none⟩) m ncap) (w.drew.alloc (.cells (([] : List Value).toArray ++ Builtin.zeroCells z.cells m ++ Builtin.zeroCells z.cells (ncap - m)) e)) := by
    have hsr := hst.ev s
    rw [hs] at hsr
    rw [hxv]
    generalize a.eval s = us at hsr
    have key : ∀ ad : Option Addr, us = .slice ad 0 0 → ∃ ncap, m ≤ ncap ∧ (Builtin.append_ #[t, tn] o.type #[us, .int kq m]).run P w = .ok (.slice (some ⟨w.heap.size, 0, none⟩) m ncap) (w.drew.alloc (.cells (([] : List Value).toArray ++ Builtin.zeroCells z.cells m ++ Builtin.zeroCells z.cells (ncap - m)) e)) := by
      rintro ad rfl
      have hr := Go.Lib.run_append_grow_zeros (P := P) w t tn o.type e inf z kq kn ht htn hi hz ad 0 0 [] (by cases ad with
        | none => simp [Builtin.firstCells]
        | some a0 => simpa using run_firstCells_some (P := P) w.drew inf.size 0 a0 0 0 [] (by simp) (by simp)) m (by omega) (by omega) (by omega) (by omega) (by rw [hby]; omega) (growslice_fits (by omega) (by rw [hby, Nat.zero_add]; exact hroom))
      rw [Nat.zero_add] at hr
      exact ⟨_, grownCap_ge w m 0 e, hr⟩
    cases hsr with
    | os0 _ _ ad => exact key ad rfl
    | osn _ _ _ b off vs => exact key _ rfl
  obtain ⟨ncap, hnc, hr⟩ := hrun
  obtain ⟨h3, h4⟩ := hst.drew.box (cs := List.replicate (ncap * P.cellsOf e) .any) (vs := ([] : List Value).toArray ++ Builtin.zeroCells z.cells m ++ Builtin.zeroCells z.cells (ncap - m)) e
    (by
      simp only [Array.toList_append, List.length_append, Array.length_toList, size_zeroCells, hzs, List.length_replicate, List.length_nil, Nat.zero_add, ← Nat.add_mul]
      congr 1; omega)
    (fun k c u hc hu => by
      have := List.mem_of_getElem? hc
      rw [(List.mem_replicate.1 this).2]
      exact .any _)
  refine wpIn_of_run (by rw [ho]; intro c h; cases h) ?_
  rw [hexec hr]
  exact hn _ _ _ _ (hk2 ncap hnc) (fun i b h => by rw [List.getElem?_append_left (List.getElem?_eq_some_iff.1 h).1]; exact h) (h3.put o.dst (.hs _ _ _ _ w.heap.size (box_rep h4)))
/-- The front of a row in a box. -/
theorem yields_cutB {o : Oper} {E : Env} {t e : TypeId} {x hi : Operand} {n l cap : Nat} {i : Id} {k' : IntKind} {d : TypeDesc} (ho : o.op = .slice t x none (some hi) none) (hx : E.ev x = .hs i 0 n cap)
    (hhi : E.ev hi = .v (.int k' (l : Int))) (ht : P.underlying t = some (.slice e)) (hd : P.underlying e = some d) (hl : l ≤ cap) (hc : 0 < cap) : Yields P o E (.hs i 0 l cap) := by
  refine ⟨(by rw [ho]; intro c hc; cases hc), fun ρ w X g hk hr => .inl ?_⟩
  have r1 := hr x (by rw [ho]; simp [Op.operands])
  have r3 := hr hi (by rw [ho]; simp [Op.operands])
  rw [hx] at r1; rw [hhi] at r3
  have e3 := rep_v r3
  generalize hu : ρ x = u at r1
  cases r1 with
  | hs _ _ _ _ b hgb =>
    have hN : (Instr.sliceBounds true n cap none (some (.int k' (l : Int))) none).run P w = .ok (0, l, cap) w := by
      have e5 : (0 : Int) ≤ (l : Int) := by omega
      have e6 : (l : Int) ≤ (cap : Int) := by omega
      simp [Instr.sliceBounds, Instr.sliceBound, asIntOf, hl]
    have hcl : ¬ cap = 0 := by omega
    refine ⟨.slice (some ⟨b, 0, none⟩) l cap, w, ?_, Evo.refl _ _, .hs _ _ _ _ b hgb⟩
    unfold execOp
    simp only [ho, hu, Option.map_some, e3, Option.map_none]
    refine run_value ?_
    simp [Instr.sliceAt, Sem.run_bind, run_underlying ht, Result.andThen_ok, Instr.slice, hN, run_sizeOf' hd, Sem.run_pure, add_none, hcl]
theorem aop_cutB {o : Oper} {E : Env} {K : Env → Prop} {Kp : AV → Env → Prop} {t e : TypeId} {x hi : Operand} {n l cap : Nat} {i : Id} {k' : IntKind} {d : TypeDesc} (ho : o.op = .slice t x none (some hi) none) (hx : E.ev x = .hs i 0 n cap)
    (hhi : E.ev hi = .v (.int k' (l : Int))) (ht : P.underlying t = some (.slice e)) (hd : P.underlying e = some d) (hl : l ≤ cap) (hc : 0 < cap) (hk : K (E.set o.dst (.hs i 0 l cap))) : AOp P o E K Kp :=
  AOp.of_yields (yields_cutB ho hx hhi ht hd hl hc) hk
end Go.Vl

/- An empty row that nobody owns: what room it has, its front. -/
namespace Go.Vl
open Go.RowKit
variable {P : Program}

theorem empty_val {w : World} {X : Nat → Nat → Prop} {g : List Nat} {sz : Nat} {f : Nat → AV} {u : Value} (h : Rep w X g (.os sz 0 f none) u) : ∃ ad, u = .slice ad 0 0 := by
  cases h with
  | os0 _ _ ad => exact ⟨ad, rfl⟩
  | osn _ _ _ b off vs => exact ⟨_, rfl⟩
theorem aop_cap0 {o : Oper} {E : Env} {K : Env → Prop} {Kp : AV → Env → Prop} {x : Operand} {t e : TypeId} {sz : Nat} {f : Nat → AV} (ho : o.op = .call { callee := .builtin .cap, args := #[x], argTypes := #[t] })
    (hx : E.ev x = .os sz 0 f none) (ht : P.underlying t = some (.slice e)) (hk : K (E.set o.dst (.v (.int .i64 0)))) : AOp P o E K Kp := by
  refine AOp.of_yields (r := .v (.int .i64 0)) ⟨(by rw [ho]; intro c hc; cases hc), fun ρ w X g hk hr => .inl ?_⟩ hk
  have r1 := hr x (by rw [ho]; simp [Op.operands, Call.operands])
  rw [hx] at r1
  obtain ⟨ad, hu⟩ := empty_val r1
  refine ⟨.int .i64 0, w, ?_, Evo.refl _ _, .v _⟩
  unfold execOp
  simp only [ho, resolve]
  simp [invoke, builtin, hu, Builtin.cap_, run_underlying ht, goInt]
theorem aop_cut0 {o : Oper} {E : Env} {K : Env → Prop} {Kp : AV → Env → Prop} {t e : TypeId} {x hi : Operand} {sz : Nat} {f : Nat → AV} {k' : IntKind} {d : TypeDesc} (ho : o.op = .slice t x none (some hi) none) (hx : E.ev x = .os sz 0 f none)
    (hhi : E.ev hi = .v (.int k' 0)) (ht : P.underlying t = some (.slice e)) (hd : P.underlying e = some d) (hk : K (E.set o.dst (.os sz 0 f none))) : AOp P o E K Kp := by
  refine AOp.of_yields (r := .os sz 0 f none) ⟨(by rw [ho]; intro c hc; cases hc), fun ρ w X g hk hr => .inl ?_⟩ hk
  have r1 := hr x (by rw [ho]; simp [Op.operands])
  have r3 := hr hi (by rw [ho]; simp [Op.operands])
  rw [hx] at r1; rw [hhi] at r3
  have e3 := rep_v r3
  obtain ⟨ad, hu⟩ := empty_val r1
  have hN : (Instr.sliceBounds true 0 0 none (some (.int k' 0)) none).run P w = .ok (0, 0, 0) w := by
    simp [Instr.sliceBounds, Instr.sliceBound, asIntOf]
  cases ad with
  | none =>
    refine ⟨.slice none 0 0, w, ?_, Evo.refl _ _, .os0 _ _ _⟩
    unfold execOp
    simp only [ho, hu, Option.map_some, e3, Option.map_none]
    refine run_value ?_
    simp [Instr.sliceAt, Sem.run_bind, run_underlying ht, Result.andThen_ok, Instr.slice, hN, run_sizeOf' hd, Sem.run_pure, add_none]
  | some ad =>
    refine ⟨.slice (some ad) 0 0, w, ?_, Evo.refl _ _, .os0 _ _ _⟩
    unfold execOp
    simp only [ho, hu, Option.map_some, e3, Option.map_none]
    refine run_value ?_
    simp [Instr.sliceAt, Sem.run_bind, run_underlying ht, Result.andThen_ok, Instr.slice, hN, run_sizeOf' hd, Sem.run_pure, add_none]
end Go.Vl

namespace Go.Vl
variable {P : Program}
/-- aop_callF where the part the callee has stands in front and stays there. -/
theorem aop_callP {o : Oper} {E : Env} {K : Env → Prop} {Kp : AV → Env → Prop} {fo : Operand} {args : Array Operand} {tys : Array TypeId} {f : FuncId} {first caps xs : List AV} {h1 : Heap} {Q : AV → Heap → Prop} {bx1 : List (Id × Own)} {pm1 : List (Id × Nat)}
    (rb : List (Id × Own)) (rp : List (Id × Nat)) (nn : Nat) (ho : o.op = .call { callee := .value fo, args := args, argTypes := tys }) (hf : E.ev fo = .fn (.func f) first caps) (hbx : E.h.bx = bx1 ++ rb) (hpm : E.h.pm = rp ++ pm1)
    (hl : LeL (first ++ args.toList.map E.ev ++ caps) xs) (hc : ECall P f xs h1 Q) (hbl : BxLe bx1 h1.bx) (hpe : PmEq pm1 h1.pm) (hn : h1.nx = E.h.nx)
    (hk : ∀ r h', Q r h' → K (({ E with h := ⟨h'.bx ++ rb, rp ++ h'.pm, h'.nx, nn⟩ } : Env).set o.dst r)) : AOp P o E K Kp := by
  have h2 : ECall P f xs ⟨bx1, pm1, h1.nx, h1.nn⟩ Q := hc.tell hbl hpe rfl
  have h3 := (ECall.frame (h := E.h) h2 rb rp (by rw [hbx]) (by rw [hpm]; exact List.perm_append_comm) hn).args hl
  refine aop_call ho hf h3 fun r h' hq => ?_
  obtain ⟨h1', q1, rfl⟩ := hq
  exact ⟨r, ⟨h1'.bx ++ rb, rp ++ h1'.pm, h1'.nx, nn⟩, AVle.refl _, ⟨.refl _, List.perm_append_comm.map _, rfl⟩, hk r h1' q1⟩
theorem AVle.fn_caps {f : Fn} {cs ds : List AV} (h : LeL cs ds) : AVle (.fn f [] cs) (.fn f [] ds) := by
  intro w X g u hr
  cases hr with
  | fn _ _ _ v1 v2 n1 n2 r1 r2 =>
    refine .fn _ _ _ v1 v2 n1 (n2.trans h.get.1) r1 ?_
    intro k c u hc hu
    have hk : k < cs.length := by rw [h.get.1]; exact (List.getElem?_eq_some_iff.1 hc).1
    exact h.get.2 k _ c (List.getElem?_eq_getElem hk) hc w X g u (r2 k _ u (List.getElem?_eq_getElem hk) hu)
end Go.Vl

/- Rows of elements of several cells in boxes of one's own: read, written, cleared; their tails. -/
namespace Go.Vl
open Go.RowKit
variable {P : Program}
section
variable {α : Type} [Inhabited α]
end
end Go.Vl

/- Boxes in another order; more rows of elements of several cells. -/
namespace Go.Vl
open Go.RowKit
variable {P : Program}
variable {α : Type}
end Go.Vl

/- Maps from pairs of numbers to truths: what they give, how they are written. -/
namespace Go.Vl
open Go.RowKit
variable {P : Program}

def keyA (x : Int × Int) : Value := .agg #[.int .i64 x.1, .int .i64 x.2]
def kA (x : Int × Int) : AV := .ag [.v (.int .i64 x.1), .v (.int .i64 x.2)]
def entA (x : Int × Int) : Value × AV := (keyA x, .v (.bool true))
theorem rep_kA {w : World} {X : Nat → Nat → Prop} {g : List Nat} {x : Int × Int} {u : Value} (h : Rep w X g (kA x) u) : u = keyA x := by
  cases h with
  | ag _ vs hn h =>
    match vs, hn with
    | [a, b], _ =>
      have h0 := rep_v (h 0 _ a rfl rfl)
      have h1 := rep_v (h 1 _ b rfl rfl)
      subst h0 h1; rfl
theorem kA_rep {w : World} {X : Nat → Nat → Prop} {g : List Nat} {x : Int × Int} : Rep w X g (kA x) (keyA x) :=
  .ag [_, _] [_, _] rfl fun k c u hc hu => by
    match k, hc, hu with
    | 0, hc, hu => simp at hc hu; subst hc; subst hu; exact .v _
    | 1, hc, hu => simp at hc hu; subst hc; subst hu; exact .v _
structure PairT (P : Program) (kt e : TypeId) : Prop where
  arr : P.underlying kt = some (.array 2 e)
  el : P.underlying e = some (.int .i64)
  sz : P.cellsOf e = 1
  ok : aeqOk P 8 kt = true
  p0 : ∀ a : Int × Int, apart P e [.v (.int .i64 a.1), .v (.int .i64 a.2)] 0 = some (.v (.int .i64 a.1))
  p1 : ∀ a : Int × Int, apart P e [.v (.int .i64 a.1), .v (.int .i64 a.2)] 1 = some (.v (.int .i64 a.2))
  eq : ∀ a b : Int × Int, aeq P 8 kt (kA a) (kA b) = some (a.1 == b.1 && (a.2 == b.2 && true))
theorem pair_dec (a b : Int × Int) : (a.1 == b.1 && (a.2 == b.2 && true)) = decide (a = b) := by
  rw [Bool.eq_iff_iff]
  simp [Prod.ext_iff]
theorem PairT.equal {kt e : TypeId} (h : PairT P kt e) (a b : Int × Int) (w : World) : (Op.equal kt (keyA a) (keyA b)).run P w = .ok (decide (a = b)) w := by
  rw [← pair_dec]
  exact aeq_sound 8 10000 kt (kA a) (kA b) _ _ _ w (fun _ _ => False) [] (by omega) (h.eq a b) h.ok kA_rep kA_rep
theorem PairT.checkI {kt e : TypeId} (h : PairT P kt e) (a : Int) (b : Bool) (n : Nat) (w : World) : (Instr.checkKey b (n + 1) e (.int .i64 a)).run P w = .ok () w := by
  unfold Instr.checkKey
  simp only [Sem.run_bind, run_underlying h.el, Result.andThen_ok, Sem.run_pure]
theorem PairT.check {kt e : TypeId} (h : PairT P kt e) (a : Int × Int) (b : Bool) (w : World) : (Instr.checkKey b 10000 kt (keyA a)).run P w = .ok () w := by
  have hsz := run_sizeOf' (w := w) h.el
  rw [h.sz] at hsz
  have hr : ∀ (k : Nat) (c : AV) (u : Value), [AV.v (.int .i64 a.1), .v (.int .i64 a.2)][k]? = some c → [Value.int .i64 a.1, .int .i64 a.2][k]? = some u → Rep w (fun _ _ => False) [] c u := fun k c u hc hu => by
    match k, hc, hu with
    | 0, hc, hu => simp at hc hu; subst hc; subst hu; exact .v _
    | 1, hc, hu => simp at hc hu; subst hc; subst hu; exact .v _
  obtain ⟨u0, q0, r0⟩ := apart_sound (vs := [Value.int .i64 a.1, .int .i64 a.2]) (h.p0 a) rfl hr
  obtain ⟨u1, q1, r1⟩ := apart_sound (vs := [Value.int .i64 a.1, .int .i64 a.2]) (h.p1 a) rfl hr
  have := rep_v r0; subst this
  have := rep_v r1; subst this
  obtain ⟨n, hn⟩ : ∃ n, 10000 = n + 1 + 1 := ⟨9998, rfl⟩
  rw [hn]
  unfold keyA Instr.checkKey
  simp only [Sem.run_bind, run_underlying h.arr, Result.andThen_ok]
  simp only [Std.Legacy.Range.forIn_eq_forIn_range', Std.Legacy.Range.size, Nat.sub_zero, Nat.add_sub_cancel, Nat.div_one, List.range'_succ, List.range'_zero, List.forIn_cons, List.forIn_nil]
  simp [Sem.run_bind, hsz, q0, q1, h.checkI]
theorem PairT.ask {kt e : TypeId} (h : PairT P kt e) (x : Int × Int) (w : World) : ∀ (es : List (Int × Int)) (ents : List MapEntry) (i : Nat), ents.length = es.length → (∀ (k : Nat) (p : Int × Int) (en : MapEntry), es[k]? = some p → ents[k]? = some en → en.key = keyA p) →
    (x ∉ es ∧ (Instr.findAsking kt (keyA x) ents i).run P w = .ok none w) ∨ ∃ j en, ents[j]? = some en ∧ es[j]? = some x ∧ (Instr.findAsking kt (keyA x) ents i).run P w = .ok (some (i + j, en.val)) w
  | [], [], i, _, _ => .inl ⟨by simp, by simp [Instr.findAsking]⟩
  | [], en :: ents, i, hn, _ => by simp at hn
  | p :: es, [], i, hn, _ => by simp at hn
  | p :: es, en :: ents, i, hn, hk => by
    have h0 := hk 0 p en rfl rfl
    unfold Instr.findAsking
    rw [h0]
    simp only [Sem.run_bind, h.equal, Result.andThen_ok]
    by_cases hx : x = p
    · refine .inr ⟨0, en, rfl, by simp [hx], ?_⟩
      simp [hx]
    · rcases h.ask x w es ents (i + 1) (by simpa using hn) (fun k p' e' h1 h2 => hk (k + 1) p' e' (by simpa using h1) (by simpa using h2)) with ⟨h1, h2⟩ | ⟨j, e', h1, h2, h3⟩
      · refine .inl ⟨by simp [hx, h1], ?_⟩
        simp [hx, h2]
      · refine .inr ⟨j + 1, e', by simpa using h1, by simpa using h2, ?_⟩
        simp [hx, h3]; omega
theorem PairT.find {kt e : TypeId} (h : PairT P kt e) (x : Int × Int) (w : World) (es : List (Int × Int)) (ents : List MapEntry) (hn : ents.length = es.length) (hk : ∀ (k : Nat) (p : Int × Int) (en : MapEntry), es[k]? = some p → ents[k]? = some en → en.key = keyA p) :
    (x ∉ es ∧ (Instr.findKey kt (keyA x) ents).run P w = .ok none w) ∨ ∃ j en, ents[j]? = some en ∧ es[j]? = some x ∧ (Instr.findKey kt (keyA x) ents).run P w = .ok (some (j, en.val)) w := by
  unfold Instr.findKey
  match es, ents, hn, hk with
  | [], [], _, _ => exact .inl ⟨by simp, by simp [Sem.run_bind, run_underlying h.arr, Instr.findNow]⟩
  | p :: es, en :: ents, hn, hk =>
    have e0 : Instr.findNow (.array 2 e) (keyA x) (en :: ents) 0 = none := by simp [Instr.findNow, Instr.sameNow]
    rcases h.ask x w (p :: es) (en :: ents) 0 hn hk with ⟨h1, h2⟩ | ⟨j, e', h1, h2, h3⟩
    · exact .inl ⟨h1, by simp only [Sem.run_bind, run_underlying h.arr, Result.andThen_ok, e0, h2]⟩
    · refine .inr ⟨j, e', h1, h2, ?_⟩
      simp only [Sem.run_bind, run_underlying h.arr, Result.andThen_ok, e0, h3, Nat.zero_add]
theorem aop_lookupA {o : Oper} {t kt e et : TypeId} {m k : Operand} {x : Int × Int} {i : Id} {es : List (Int × Int)} {E : Env} {K : Env → Prop} {Kp : AV → Env → Prop} (ho : o.op = .lookup t m k false) (ht : P.underlying t = some (.map kt et)) (hp : PairT P kt e)
    (hz : (P.info? et).bind (·.zero) = some (.bool false)) (hm : E.ev m = .om i) (hkv : E.ev k = kA x) (hes : hgeto i.1 E.h.bx = some (i.2, .mp (es.map entA))) (hK : K (E.set o.dst (.v (.bool (decide (x ∈ es)))))) : AOp P o E K Kp := by
  refine AOp.of_yields (r := .v (.bool (decide (x ∈ es)))) ⟨(by rw [ho]; intro c hc; cases hc), fun ρ w X g hk hr => .inl ?_⟩ hK
  have r1 := hr m (by rw [ho]; simp [Op.operands])
  have r2 := hr k (by rw [ho]; simp [Op.operands])
  rw [hm] at r1; rw [hkv] at r2
  have e2 := rep_kA r2
  obtain ⟨b, hgb, hown⟩ := hk.bx _ (hgeto_mem hes)
  dsimp only at hgb hown
  obtain ⟨ents, h1, h2, h3⟩ := hown
  have hmv : ρ m = .map (some b) := by
    generalize ρ m = u at r1
    cases r1 with
    | om _ b' hg' => rw [hgb] at hg'; cases hg'; rfl
  rw [List.length_map] at h2
  have hkk : ∀ (k : Nat) (p : Int × Int) (en : MapEntry), es[k]? = some p → ents[k]? = some en → en.key = keyA p := fun k p en q1 q2 => (h3 k (entA p) en (by simp [q1]) q2).1
  have hg := run_getObjG (P := P) h1
  refine ⟨.bool (decide (x ∈ es)), w, ?_, Evo.refl _ _, .v _⟩
  unfold execOp
  simp only [ho, hmv, e2]
  refine run_value ?_
  unfold Instr.lookup
  simp only [Sem.run_bind, run_underlying ht, Result.andThen_ok, hg, Sem.run_pure, hp.check]
  rcases hp.find x w es ents h2 hkk with ⟨hn, hf⟩ | ⟨j, en, q1, q2, hf⟩
  · have hzz := run_zeroValue' (w := w) hz
    simp only [hf, Result.andThen_ok, Sem.run_pure]
    simp [hn, Sem.run_bind, hzz]
  · have hv := rep_v (h3 j (entA x) en (by simp [q2]) q1).2.2
    simp only [hf, Result.andThen_ok, Sem.run_pure]
    simp [hv, List.mem_of_getElem? q2]
def addA (x : Int × Int) (es : List (Int × Int)) : List (Int × Int) := if x ∈ es then es else es ++ [x]
theorem mapUpdate_runA {t kt e et : TypeId} {x : Int × Int} {es : List (Int × Int)} {w : World} {X : Nat → Nat → Prop} {g : List Nat} {b : Nat} (ht : P.underlying t = some (.map kt et)) (hp : PairT P kt e) (hb : OwnRep w X g b (.mp (es.map entA))) :
    ∃ ents' : List MapEntry, (Instr.mapUpdate t (.map (some b)) (keyA x) (.bool true)).run P w = .ok () (World.setO w b (.map ents'.toArray ents'.length)) ∧ ents'.length = ((addA x es).map entA).length ∧
      ∀ (k : Nat) (p : Value × AV) (en : MapEntry), ((addA x es).map entA)[k]? = some p → ents'[k]? = some en → en.key = p.1 ∧ en.born = k ∧ Rep w X g p.2 en.val := by
  obtain ⟨ents, h1, h2, h3⟩ := hb
  rw [List.length_map] at h2
  have hkk : ∀ (k : Nat) (p : Int × Int) (en : MapEntry), es[k]? = some p → ents[k]? = some en → en.key = keyA p := fun k p en q1 q2 => (h3 k (entA p) en (by simp [q1]) q2).1
  have hg := run_getObjG (P := P) h1
  rcases hp.find x w es ents h2 hkk with ⟨hn, hf⟩ | ⟨j, e0, q1, q2, hf⟩
  · refine ⟨ents ++ [⟨keyA x, .bool true, ents.length⟩], ?_, by unfold addA; rw [if_neg hn]; simp [h2], fun k p en r1 r2 => ?_⟩
    · unfold Instr.mapUpdate
      simp only [Sem.run_bind, run_underlying ht, Result.andThen_ok, hg, hp.check, hf]
      rw [run_setObjG h1]
      simp
    · unfold addA at r1
      rw [if_neg hn, List.map_append] at r1
      rcases Nat.lt_or_ge k es.length with hlt | hge
      · rw [List.getElem?_append_left (by simpa using hlt)] at r1
        rw [List.getElem?_append_left (by omega)] at r2
        exact h3 k p en r1 r2
      · rw [List.getElem?_append_right (by simpa using hge)] at r1
        rw [List.getElem?_append_right (by omega)] at r2
        have : k = es.length := by
          have := (List.getElem?_eq_some_iff.1 r1).1; simp at this; omega
        subst this
        rw [List.length_map, Nat.sub_self] at r1
        rw [h2, Nat.sub_self] at r2
        simp at r1 r2
        subst r1; subst r2
        exact ⟨rfl, rfl, .v _⟩
  · have hj : j < ents.length := (List.getElem?_eq_some_iff.1 q1).1
    have hje : ents[j] = e0 := (List.getElem?_eq_some_iff.1 q1).2
    have h0 := h3 j (entA x) e0 (by simp [q2]) q1
    have hv := rep_v h0.2.2
    have hkey : e0.key = keyA x := h0.1
    have hmem : x ∈ es := List.mem_of_getElem? q2
    refine ⟨ents.set j ⟨keyA x, .bool true, e0.born⟩, ?_, by unfold addA; rw [if_pos hmem]; simp [h2], fun k p en r1 r2 => ?_⟩
    · unfold Instr.mapUpdate
      simp only [Sem.run_bind, run_underlying ht, Result.andThen_ok, hg, hp.check, hf]
      have hks : (Instr.keyThatStays (((ents.toArray[j]?).map (·.key)).getD (keyA x)) (keyA x)).run P w = .ok (keyA x) w := by
        have hsb : Instr.sameBits 10000 (keyA x) (keyA x) = true := by
          obtain ⟨n, hn⟩ : ∃ n, 10000 = n + 1 := ⟨9999, rfl⟩
          rw [hn]; simp [keyA, Instr.sameBits]
        simp [q1, hkey, Instr.keyThatStays, hsb]
      simp only [hks, Result.andThen_ok]
      rw [run_setObjG h1]
      congr 2
      simp only [List.length_set]
      congr 1
      apply Array.ext'
      simp only [Array.toList_modify, List.modify_eq_set, Option.map_eq_map]
      rw [List.getElem?_eq_getElem hj]
      simp [hje]
    · unfold addA at r1
      rw [if_pos hmem] at r1
      rw [List.getElem?_set] at r2
      by_cases hjk : j = k
      · subst hjk
        simp [hj] at r2
        subst r2
        have e1 := h3 j p e0 r1 q1
        exact ⟨hkey.symm.trans e1.1, e1.2.1, by
          have : p = entA x := by rw [List.getElem?_map, q2] at r1; exact (Option.some.inj r1).symm
          subst this; exact .v _⟩
      · simp [hjk] at r2
        exact h3 k p en r1 r2
theorem aop_updateA {o : Oper} {t kt e et : TypeId} {m k v : Operand} {x : Int × Int} {i : Id} {es : List (Int × Int)} {E : Env} {K : Env → Prop} (ho : o.op = .mapUpdate t m k v ∨ o.op = .insert t m k v) (ht : P.underlying t = some (.map kt et)) (hp : PairT P kt e)
    (hm : E.ev m = .om i) (hkv : E.ev k = kA x) (hv : E.ev v = .v (.bool true)) (hes : hgeto i.1 E.h.bx = some (i.2, .mp (es.map entA)))
    (hK : K (({ E with h := { E.h with bx := hseto i.1 (.mp ((addA x es).map entA)) E.h.bx } } : Env).set o.dst .any)) : AOp P o E K := by
  intro ro X M w0 a w g hs next Q hn hp'
  obtain ⟨b, hgb, hown⟩ := hs.hok.bx _ (hgeto_mem hes)
  dsimp only at hgb hown
  have hmv : a.eval m = .map (some b) := by
    have := hs.ev m
    rw [hm] at this
    generalize a.eval m = u at this
    cases this with
    | om _ b' hg' => rw [hgb] at hg'; cases hg'; rfl
  have hkv' : a.eval k = keyA x := by
    have := hs.ev k
    rw [hkv] at this
    exact rep_kA this
  have hvv : a.eval v = .bool true := by
    have := hs.ev v
    rw [hv] at this
    exact rep_v this
  obtain ⟨ents', h1, h2, h3⟩ := mapUpdate_runA (x := x) ht hp hown
  obtain ⟨ents, hb0, _⟩ := hown
  have hev := evo_setO (o' := .map ents'.toArray ents'.length) hb0 rfl (fun h => by cases h)
  have hnew := hs.setOwn (x := .mp ((addA x es).map entA)) hes hgb hev (fun hst => ⟨ents', setO_same hb0, h2, fun k p e q1 q2 => ⟨(h3 k p e q1 q2).1, (h3 k p e q1 q2).2.1, (h3 k p e q1 q2).2.2.stays hst⟩⟩)
  refine wpIn_of_run (by intro c h; rcases ho with ho | ho <;> (rw [ho] at h; cases h)) ?_
  have : (execOp a.eval o).run P w = .ok .skip (World.setO w b (.map ents'.toArray ents'.length)) := by
    unfold execOp
    rcases ho with ho | ho <;> (simp only [ho, hmv, hkv', hvv, Sem.run_bind, h1, Result.andThen_ok, Sem.run_pure])
  rw [this]
  exact hn _ _ _ g hK (fun _ _ h => h) (hnew.put o.dst (.any _))
end Go.Vl

/- A guarded call that tells. -/
namespace Go.Vl
variable {P : Program}
end Go.Vl

/- Regions that draw, with two effects that stand in no order: one of them hangs on nothing, and nothing hangs on it. -/
namespace Go.Vl
open Go.RowKit
variable {P : Program}

theorem MixL.mono {ops : Array Oper} {B : List (Id × Own)} {eff : Nat → Bool} {K K' : Env → Prop} : ∀ {L : List Nat} {E : Env}, (∀ E, K E → K' E) → MixL P ops B eff L E K → MixL P ops B eff L E K'
  | [], E, hk, h => hk E h
  | i :: l, E, hk, h => by
    obtain ⟨o, h1, h2⟩ := h
    refine ⟨o, h1, ?_⟩
    cases he : eff i with
    | true =>
      simp only [he] at h2 ⊢
      obtain ⟨R, q1, q2⟩ := h2
      exact ⟨R, q1, fun r h' hr => MixL.mono hk (q2 r h' hr)⟩
    | false =>
      simp only [he] at h2 ⊢
      obtain ⟨r, q1, q2⟩ := h2
      exact ⟨r, q1, MixL.mono hk q2⟩
end Go.Vl

/- Iterators that have memory of their own, for those who take all. -/
namespace Go.Vl
open Go.RowKit
variable {P : Program}

/-- The iterator hands over these, one behind the other, to whoever takes all; own is its own memory. -/
def IterAll (P : Program) (it : FuncId) (first caps : List AV) {α : Type} (e : α → List AV) (xs : List α) (own : List (Id × Own)) : Prop :=
  ∀ (i : Id) (σ : Type) (Cb : σ → List (Id × Own)) (Cp : σ → List (Id × Nat)) (I : List α → σ → Prop), Cons P i e xs Cb Cp I (fun _ _ _ => False) →
    ∀ s0 nx nn, I [] s0 → ECall P it (first ++ [.yl i] ++ caps) ⟨own ++ Cb s0, Cp s0, nx, nn⟩ (fun _ h' => ∃ s', I xs s' ∧ h'.bx = Cb s' ∧ h'.pm = Cp s')
theorem aw_forO {gop : Operand} {ps : Array Tmp} {asg body : Code} {E : Env} {Q : AExit → Env → Prop} {it : FuncId} {first caps : List AV} {ds : List DA} {σ α : Type} {e : α → List AV} {xs : List α} {first' caps' : List AV} (own : List (Id × Own))
    (Cb : σ → List (Id × Own)) (Cp : σ → List (Id × Nat)) (I : List α → σ → Prop) (s0 : σ) (hd : E.df = some ds) (hf : E.ev gop = .fn (.func it) first caps) (hit : IterAll P it first' caps' e xs own) (hl1 : LeL first first') (hl2 : LeL caps caps')
    (hb : E.h.bx = own ++ Cb s0) (hp : E.h.pm = Cp s0) (h0 : I [] s0) (hlen : ∀ x, (e x).length = ps.size)
    (hc : ∀ pre x post s nx nn, xs = pre ++ x :: post → I pre s → AW P asg (roundEnv E.n E.t ⟨((E.h.nn + 1, E.h.nx + 1), .lp .ready none E.n E.t ps asg body) :: ((E.h.nn, E.h.nx), .df) :: Cb s, Cp s, nx, nn⟩ (ps.toList.zip (e x)).reverse)
      (asgQ P (E.h.nn + 1, E.h.nx + 1) body (yPost (fun s => ((E.h.nn + 1, E.h.nx + 1), .lp .ready none E.n E.t ps asg body) :: ((E.h.nn, E.h.nx), .df) :: Cb s) Cp I (fun _ _ _ => False) pre x)))
    (hend : ∀ s' nx nn, I xs s' → Q .normal { E with h := ⟨((E.h.nn + 1, E.h.nx + 1), .lp .exhausted none E.n E.t ps asg body) :: ((E.h.nn, E.h.nx), .df) :: Cb s', Cp s', nx, nn⟩, df := some (.col (E.h.nn, E.h.nx) :: ds) }) :
    AW P (.rangeFunc gop ps asg body) E Q := by
  refine aw_range hd hf ?_
  have hcons : Cons P (E.h.nn + 1, E.h.nx + 1) e xs (fun s => ((E.h.nn + 1, E.h.nx + 1), .lp .ready none E.n E.t ps asg body) :: ((E.h.nn, E.h.nx), .df) :: Cb s) Cp I (fun _ _ _ => False) := by
    intro pre x post s nx nn hx hI
    exact yield_of_aw (i := (E.h.nn + 1, E.h.nx + 1)) (pd := none) (n := E.n) (t := E.t) (ps := ps) (asg := asg) (body := body) (by simp [hgeto]) (hlen x) (hc pre x post s nx nn hx hI)
  have h1 := hit (E.h.nn + 1, E.h.nx + 1) σ _ Cp I hcons s0 (E.h.nx + 2) (E.h.nn + 2) h0
  have hperm : (own ++ ((E.h.nn + 1, E.h.nx + 1), Own.lp .ready none E.n E.t ps asg body) :: ((E.h.nn, E.h.nx), .df) :: Cb s0).Perm (((E.h.nn + 1, E.h.nx + 1), .lp .ready none E.n E.t ps asg body) :: ((E.h.nn, E.h.nx), .df) :: (own ++ Cb s0)) :=
    List.perm_middle.trans (List.Perm.cons _ List.perm_middle)
  have e1 : (E.h.addo .df).addo (.lp .ready none E.n E.t ps asg body) = ⟨((E.h.nn + 1, E.h.nx + 1), .lp .ready none E.n E.t ps asg body) :: ((E.h.nn, E.h.nx), .df) :: (own ++ Cb s0), Cp s0, E.h.nx + 2, E.h.nn + 2⟩ := by
    rw [← hb, ← hp]; rfl
  rw [e1]
  have hl : Like ⟨own ++ ((E.h.nn + 1, E.h.nx + 1), Own.lp .ready none E.n E.t ps asg body) :: ((E.h.nn, E.h.nx), .df) :: Cb s0, Cp s0, E.h.nx + 2, E.h.nn + 2⟩ ⟨((E.h.nn + 1, E.h.nx + 1), .lp .ready none E.n E.t ps asg body) :: ((E.h.nn, E.h.nx), .df) :: (own ++ Cb s0), Cp s0, E.h.nx + 2, E.h.nn + 2⟩ := ⟨hperm.symm.map _, .refl _, rfl⟩
  have h2 := ECall.like hl h1
  refine ((ECall.args (LeL.append (LeL.append hl1 (LeL.refl _)) hl2) h2)).mono fun r h' hq => ?_
  obtain ⟨s', q1, q2, q3⟩ := hq
  obtain ⟨bx, pm, nx, nn⟩ := h'
  dsimp only at q2 q3
  subst q2; subst q3
  unfold rdone
  simp only [hgeto, Nat.beq_refl, cond_true]
  refine ⟨trivial, (by intro h; cases h), ?_⟩
  simp only [hseto, Nat.beq_refl, cond_true]
  exact hend s' nx nn q1
theorem perm_mid {α : Type} (a b c : List α) : (a ++ (b ++ c)).Perm (b ++ (a ++ c)) := by
  rw [← List.append_assoc, ← List.append_assoc]
  exact List.perm_append_comm.append_right _
/-- A call on a part of one's own memory that stands between others. -/
theorem aop_callM {o : Oper} {E : Env} {K : Env → Prop} {Kp : AV → Env → Prop} {fo : Operand} {args : Array Operand} {tys : Array TypeId} {f : FuncId} {first caps xs : List AV} {h1 : Heap} {Q : AV → Heap → Prop} {bx1 : List (Id × Own)} {pm1 : List (Id × Nat)}
    (rb1 rb2 : List (Id × Own)) (rp : List (Id × Nat)) (nn : Nat) (ho : o.op = .call { callee := .value fo, args := args, argTypes := tys }) (hf : E.ev fo = .fn (.func f) first caps) (hbx : E.h.bx = rb1 ++ (bx1 ++ rb2)) (hpm : E.h.pm = rp ++ pm1)
    (hl : LeL (first ++ args.toList.map E.ev ++ caps) xs) (hc : ECall P f xs h1 Q) (hbl : BxLe bx1 h1.bx) (hpe : PmEq pm1 h1.pm) (hn : h1.nx = E.h.nx)
    (hk : ∀ r h', Q r h' → K (({ E with h := ⟨rb1 ++ (h'.bx ++ rb2), rp ++ h'.pm, h'.nx, nn⟩ } : Env).set o.dst r)) : AOp P o E K Kp := by
  have h2 : ECall P f xs ⟨bx1, pm1, h1.nx, h1.nn⟩ Q := hc.tell hbl hpe rfl
  have h3 := (ECall.frame (h := E.h) h2 (rb1 ++ rb2) rp (by rw [hbx]; exact perm_mid _ _ _) (by rw [hpm]; exact List.perm_append_comm) hn).args hl
  refine aop_call ho hf h3 fun r h' hq => ?_
  obtain ⟨h1', q1, rfl⟩ := hq
  exact ⟨r, ⟨rb1 ++ (h1'.bx ++ rb2), rp ++ h1'.pm, h1'.nx, nn⟩, AVle.refl _, ⟨(perm_mid _ _ _).map _, List.perm_append_comm.map _, rfl⟩, hk r h1' q1⟩
end Go.Vl

/- Scopes of labels through which no run jumps. -/
namespace Go.Vl
open Go.RowKit
variable {P : Program}

section
variable {F : Fence} {n : Nat} {b : Frame} {a : Act} {k : List Item} {cs : List Frame} {w : World} {Q : Exit → Act → World → Prop}
theorem stepR_scope' {c : Code} : step P (lone (b.atR a (.code (.scope c) :: k)) cs w) = .next (lone (b.atR a (.code c :: .inScope c :: k)) cs w) :=
  step_lone_go (by simp [stepG, stepG.exec, Frame.atR])
theorem stepR_inScope' {c : Code} : step P (lone (b.atR a (.inScope c :: k)) cs w) = .next (lone (b.atR a k) cs w) :=
  step_lone_go (by simp [stepG, stepG.exec, Frame.atR])
theorem wpIn_scope' {c : Code} (h : c.wpIn F n P (Exit.noGoto Q) a w) : (Code.scope c).wpIn F n P Q a w := by
  intro b k cs hro hb hr
  have h0 : (lone (b.atR a (.code (.scope c) :: k)) cs w).fenced P F := fenced_calm hb hr rfl
  obtain ⟨e, a₁, w₁, hq, harr⟩ := h b (.inScope c :: k) cs hro hb hr
  cases e with
  | normal => exact ⟨.normal, a₁, w₁, hq, .head h0 stepR_scope' (StepsIn.trans harr (.one (fenced_calm hb hr rfl) stepR_inScope'))⟩
  | exit id' =>
    have hx : exitTo id' (.inScope c :: k) = exitTo id' k := by simp [exitTo]
    exact ⟨.exit id', a₁, w₁, hq, fun k' hk => .head h0 stepR_scope' (harr.1 k' (by rw [hx]; exact hk)),
      fun hr' hk => let ⟨k₁, h1, h2⟩ := harr.2 hr' (by rw [hx]; exact hk); ⟨k₁, h1, .head h0 stepR_scope' h2⟩⟩
  | goto l => exact hq.elim
  | ret => exact ⟨_, a₁, w₁, hq, .of_steps (.one h0 stepR_scope') harr⟩
  | panic ch => exact ⟨_, a₁, w₁, hq, .of_steps (.one h0 stepR_scope') harr⟩
  | outgrown => exact ⟨_, a₁, w₁, hq, .of_steps (.one h0 stepR_scope') harr⟩
end
def scopeQ (Q : AExit → Env → Prop) : AExit → Env → Prop
  | .goto _, _ => False
  | e, E => Q e E
theorem aw_scope {c : Code} {E : Env} {Q : AExit → Env → Prop} (h : AW P c E (scopeQ Q)) : AW P (.scope c) E Q := by
  unfold AW
  intro r X M w0 a w g g0 hg hs
  unfold AW at h
  refine wpIn_scope' (wpIn_mono (h r X M w0 a w g g0 hg hs) fun ex a' w' hq => ?_)
  obtain ⟨ax, E', g', q, hx, hg', s⟩ := hq
  cases ax with
  | goto l => exact q.elim
  | normal => cases (hx : ex = .normal); exact ⟨.normal, E', g', q, rfl, hg', s⟩
  | ret => cases (hx : ex = .ret); exact ⟨.ret, E', g', q, rfl, hg', s⟩
  | exit id => cases (hx : ex = .exit id); exact ⟨.exit id, E', g', q, rfl, hg', s⟩
  | panic x =>
    obtain ⟨v, hv, hr⟩ := hx
    subst hv
    exact ⟨.panic x, E', g', q, ⟨v, rfl, hr⟩, hg', s⟩
end Go.Vl

/- Regions that draw, with two effects that stand in no order, and more effects behind both. -/
namespace Go.Vl
open Go.RowKit
variable {P : Program}

end Go.Vl

/- What is told is what comes back. -/
namespace Go.Vl
open Go.RowKit
variable {P : Program}

theorem pcall_of_tells {f : FuncId} {ars : List AV} {s : AV} (h : Tells P f ars s) : PCall P f ars (fun r => r = s) := fun nx => by
  refine ⟨(h nx).1, fun X w g us h1 h2 h3 h4 => ?_⟩
  refine (fnWay P f).mono (w0 := w) (g := g) ((h nx).2 X w g us h1 h2 h3 h4) fun e w' ⟨r, h', g', a1, a2, a3⟩ => ?_
  cases r with
  | pan x => exact a2.elim
  | ret r =>
    obtain ⟨u, e1, e2⟩ := a1
    exact ⟨.ret s, h', g', ⟨u, e1, a2.1 _ _ _ _ e2⟩, ⟨rfl, a2.2⟩, a3⟩
end Go.Vl

namespace Go.Proofs.W

/-- A condition. -/
structure Cnd where
  arg : Int
  op : Int
  mask : Nat
  value : Nat
deriving DecidableEq
def cnd0 : Cnd := ⟨0, 0, 0, 0⟩
def Cnd.ok (c : Cnd) : Prop := c.mask < 18446744073709551616 ∧ c.value < 18446744073709551616
def rightC (c : Cnd) : Bool := decide (0 ≤ c.arg) && decide (c.arg ≤ 5) && decide (1 ≤ c.op) && decide (c.op ≤ 7) && (decide (c.op = 7) || decide (c.mask = 0))
/-- Does a condition hold? -/
def holdsC (c : Cnd) (a : Nat) : Bool :=
  if c.op = 1 then decide (a = c.value)
  else if c.op = 2 then !decide (a = c.value)
  else if c.op = 3 then decide (a < c.value)
  else if c.op = 4 then decide (a ≤ c.value)
  else if c.op = 5 then decide (a > c.value)
  else if c.op = 6 then decide (a ≥ c.value)
  else decide (a &&& c.mask = c.value)
theorem rightC_iff {c : Cnd} : rightC c = true ↔ 0 ≤ c.arg ∧ c.arg ≤ 5 ∧ 1 ≤ c.op ∧ c.op ≤ 7 ∧ (c.op = 7 ∨ c.mask = 0) := by
  simp [rightC, and_assoc]
end Go.Proofs.W

namespace Go.Proofs.W
open Go.Vl

/-- An instruction. -/
structure Ins where
  code : Nat
  jt : Nat
  jf : Nat
  k : Nat
deriving DecidableEq
def Ins.ok (i : Ins) : Prop := i.code < 65536 ∧ i.jt < 256 ∧ i.jf < 256 ∧ i.k < 4294967296
end Go.Proofs.W

namespace Go.Proofs.W
open Go.Vl
set_option maxRecDepth 100000

def int (n : Int) : AV := .v (.int .i64 n)
def u8 (n : Int) : AV := .v (.int .u8 n)
def u16 (n : Int) : AV := .v (.int .u16 n)
def u32 (n : Int) : AV := .v (.int .u32 n)
def boolA (b : Bool) : AV := .v (.bool b)
end Go.Proofs.W

namespace Go.Proofs.W
open Go.Vl
set_option maxRecDepth 100000

def looked (i : Ins) (k : Nat) (x : Bool) (r : Nat) : AV := .ag [u16 i.code, u8 i.jt, u8 i.jf, u32 i.k, int k, boolA x, int r]
theorem fct_b0 {a b : Int} : (false = (a == b)) ↔ a ≠ b := by rw [eq_comm]; simp
theorem fct_b1 {a b : Int} : (true = (a == b)) ↔ a = b := by rw [eq_comm]; simp
theorem fct_n0 {a b : Int} : (false = (a != b)) ↔ a = b := by rw [eq_comm]; simp
theorem fct_n1 {a b : Int} : (true = (a != b)) ↔ a ≠ b := by rw [eq_comm]; simp
theorem fct_d0 {p : Prop} [Decidable p] : (false = decide p) ↔ ¬ p := by rw [eq_comm]; simp
theorem fct_d1 {p : Prop} [Decidable p] : (true = decide p) ↔ p := by rw [eq_comm]; simp
end Go.Proofs.W

namespace Go.Proofs.W
open Go.Vl
set_option maxRecDepth 100000

def u64 (n : Int) : AV := .v (.int .u64 n)
def cndA (c : Cnd) : AV := .ag [int c.arg, int c.op, u64 c.mask, u64 c.value]
def cnds (l : List Cnd) : AV := slOf 4 cndA cnd0 l
theorem right_spec (c : Cnd) : Tells Tryz.prog 144 [cndA c] (boolA (rightC c)) := by
  refine tells_of_aw Tryz.func144 rfl rfl fun nx => ?_
  (repeat' ((repeat((conv=>whnf);first|apply ω0|apply ω1|apply ω2|refine τ3 rfl ?_|refine τ4 rfl ?_|refine ⟨rfl,?_⟩|apply τa|refine τb rfl ?_|refine ⟨⟨by kernel_rfl,by kernel_rfl⟩,?_⟩|refine ⟨by decide,?_⟩|apply τt|apply τf)); intro c h; cases c))
  all_goals
    (repeat((conv=>whnf);first|apply ω0|apply ω1|apply ω2|refine τ3 rfl ?_|refine τ4 rfl ?_|refine ⟨rfl,?_⟩|apply τa|refine τb rfl ?_|refine ⟨⟨by kernel_rfl,by kernel_rfl⟩,?_⟩|refine ⟨by decide,?_⟩|apply τt|apply τf))
    refine ret_tells rfl (le_bool ?_)
    (try simp only [fct_b0, fct_b1, fct_d0, fct_d1, fct_n0, fct_n1] at *)
    simp [rightC]
    omega
theorem le_u64 {a b : Int} (h : a = b) : AVle (.v (.int .u64 a)) (u64 b) := h ▸ AVle.refl _
def fn0 (f : Nat) : AV := .fn (.func f) [] []
end Go.Proofs.W

namespace Go.Proofs
open Go.Shelf
shelf_lay Lays.n160 Nm 160 at Tryz as Tryz.lays160
shelf_lay Lays.n137 Nm 137 at Tryz as Tryz.lays137
end Go.Proofs
namespace Go.Proofs.W
open Go.Vl Go.Shelf
set_option maxRecDepth 100000

def lettersB : ByteArray := ⟨#[97, 98, 99, 100, 101, 102, 103, 104, 105, 106, 107, 108, 109, 110, 111, 112, 113, 114, 115, 116, 117, 118, 119, 120, 121, 122]⟩
def signsB : ByteArray := ⟨#[97, 98, 99, 100, 101, 102, 103, 104, 105, 106, 107, 108, 109, 110, 111, 112, 113, 114, 115, 116, 117, 118, 119, 120, 121, 122, 48, 49, 50, 51, 52, 53, 54, 55, 56, 57, 95]⟩
theorem trim_spec (s : ByteArray) (hs : s.size ≤ 9223372036854775807) : Tells Tryz.prog 104 [.v (.string s), .v (.string signsB)] (.v (.string ⟨(Lib.trimS s.data.toList signsB.data.toList).toArray⟩)) :=
  tells_of_calls (vs := [.string s, .string signsB]) ⟨_, Tryz.func104, rfl, rfl⟩ fun w => Any.strings_Trim_laid Tryz.lays160 (by kernel_rfl) s signsB w hs (by decide) (ascii_of_all (by decide))
theorem idxByte_spec (s : ByteArray) (c : Int) : Tells Tryz.prog 105 [.v (.string s), .v (.int .u8 c)] (.v (.int .i64 (Lib.indexByte s.data.toList c.toNat.toUInt8))) :=
  tells_of_calls (vs := [.string s, .int .u8 c]) ⟨_, Tryz.func105, rfl, rfl⟩ fun w => (Any.strings_IndexByte Tryz.lays137 s c w).mono fun e w' ⟨h1, h2⟩ => ⟨h1, by subst h2; exact ⟨rfl, rfl, rfl, Nat.le_refl _, fun _ _ => rfl⟩⟩
theorem dropW_nil {p : UInt8 → Bool} : ∀ {l : List UInt8}, l.dropWhile p = [] ↔ l.all p = true
  | [] => by simp
  | x :: l => by
    rw [List.dropWhile_cons, List.all_cons]
    cases h : p x
    · simp
    · simp only [if_true, Bool.true_and]; exact dropW_nil
theorem dropW_head {p : UInt8 → Bool} : ∀ {l : List UInt8} {y : UInt8} {ys : List UInt8}, l.dropWhile p = y :: ys → p y = false
  | [], y, ys, h => by simp at h
  | x :: l, y, ys, h => by
    rw [List.dropWhile_cons] at h
    cases hx : p x
    · rw [hx] at h
      simp at h
      rw [← h.1]; exact hx
    · rw [hx] at h
      simp only [if_true] at h
      exact dropW_head h
theorem trimS_nil (l cs : List UInt8) : Lib.trimS l cs = [] ↔ l.all (cs.contains ·) = true := by
  unfold Lib.trimS Lib.trimLeftS Lib.trimRightS
  rw [dropW_nil, List.all_reverse]
  constructor
  · intro h
    cases hq : l.reverse.dropWhile (cs.contains ·) with
    | nil => rw [dropW_nil, List.all_reverse] at hq; exact hq
    | cons y ys =>
      have hy := dropW_head hq
      rw [hq, List.all_cons, hy] at h
      cases h
  · intro h
    have : l.reverse.dropWhile (cs.contains ·) = [] := by rw [dropW_nil, List.all_reverse]; exact h
    rw [this]; rfl
theorem idx_nonneg (l : List UInt8) (c : UInt8) : (0 ≤ Lib.indexByte l c ↔ c ∈ l) ∧ -1 ≤ Lib.indexByte l c := by
  induction l with
  | nil => simp [Lib.indexByte]
  | cons b l ih =>
    obtain ⟨h1, h2⟩ := ih
    unfold Lib.indexByte
    by_cases hb : b = c
    · subst hb; simp
    · have hbe : (b == c) = false := by simpa using hb
      rw [hbe]
      simp only [Bool.false_eq_true, if_false]
      by_cases hi : Lib.indexByte l c = -1
      · have : ¬ c ∈ l := fun h => by have := h1.2 h; omega
        rw [if_pos (by rw [hi]; rfl)]
        simp [this, Ne.symm hb]
      · rw [if_neg (by simpa using hi)]
        have hm : c ∈ l := h1.1 (by omega)
        simp [hm]
        omega
def defaultL : List UInt8 := [100, 101, 102, 97, 117, 108, 116]
def x32L : List UInt8 := [120, 51, 50]
/-- May a name be? -/
def nameB (l : List UInt8) : Bool := !(l == []) && (!(l == defaultL) && (!(l == x32L) && (decide (l.length ≤ 30) && (l.all (signsB.data.toList.contains ·) && lettersB.data.toList.contains (l.headD 0)))))
theorem nameB_out1 {l : List UInt8} (h : false = !(l == [])) : nameB l = false := by rw [nameB, ← h]; rfl
theorem nameB_out2 {l : List UInt8} (h : false = !(l == defaultL)) : nameB l = false := by rw [nameB, ← h]; simp
theorem nameB_out3 {l : List UInt8} (h : false = !(l == x32L)) : nameB l = false := by rw [nameB, ← h]; simp
theorem nameB_out4 {l : List UInt8} (h : ¬ l.length ≤ 30) : nameB l = false := by rw [nameB, decide_eq_false h]; simp
theorem nameB_out5 {l : List UInt8} (h : ¬ l.all (signsB.data.toList.contains ·) = true) : nameB l = false := by rw [nameB, Bool.not_eq_true _ |>.mp h]; simp
theorem nameB_in {l : List UInt8} (h1 : true = !(l == [])) (h2 : true = !(l == defaultL)) (h3 : true = !(l == x32L)) (h4 : l.length ≤ 30) (h5 : l.all (signsB.data.toList.contains ·) = true) : nameB l = lettersB.data.toList.contains (l.headD 0) := by
  rw [nameB, ← h1, ← h2, ← h3, decide_eq_true h4, h5]; rfl
theorem head_get {s : ByteArray} (h : ¬ s.data.toList = []) : 0 < s.size := by
  rcases Nat.eq_zero_or_pos s.size with h0 | h0
  · exfalso; apply h
    have : s.data.toList.length = 0 := h0
    exact List.length_eq_zero_iff.1 this
  · exact h0
theorem mk_toList (l : List UInt8) : (⟨l.toArray⟩ : ByteArray).toList = l := by rw [Lib.toList_data]
theorem named_spec (s : ByteArray) (hs : s.size ≤ 9223372036854775807) : Tells Tryz.prog 56 [.v (.string s)] (boolA (nameB s.data.toList)) := by
  have hsz : s.size = s.data.toList.length := rfl
  refine tells_of_aw Tryz.func56 rfl rfl fun nx => ?_
  (repeat((conv=>whnf);first|apply ω0|apply ω1|apply ω2|refine τ3 rfl ?_|refine τ4 rfl ?_|refine ⟨rfl,?_⟩|apply τa|refine τb rfl ?_|refine ⟨⟨by kernel_rfl,by kernel_rfl⟩,?_⟩|refine ⟨by decide,?_⟩|apply τt|apply τf))
  intro c t1
  rw [Lib.toList_data, Lib.toList_data] at t1
  cases c
  · (repeat((conv=>whnf);first|apply ω0|apply ω1|apply ω2|refine τ3 rfl ?_|refine τ4 rfl ?_|refine ⟨rfl,?_⟩|apply τa|refine τb rfl ?_|refine ⟨⟨by kernel_rfl,by kernel_rfl⟩,?_⟩|refine ⟨by decide,?_⟩|apply τt|apply τf))
    exact ret_tells rfl (le_bool (nameB_out1 t1).symm)
  (repeat((conv=>whnf);first|apply ω0|apply ω1|apply ω2|refine τ3 rfl ?_|refine τ4 rfl ?_|refine ⟨rfl,?_⟩|apply τa|refine τb rfl ?_|refine ⟨⟨by kernel_rfl,by kernel_rfl⟩,?_⟩|refine ⟨by decide,?_⟩|apply τt|apply τf))
  intro c t2
  rw [Lib.toList_data, Lib.toList_data] at t2
  cases c
  · (repeat((conv=>whnf);first|apply ω0|apply ω1|apply ω2|refine τ3 rfl ?_|refine τ4 rfl ?_|refine ⟨rfl,?_⟩|apply τa|refine τb rfl ?_|refine ⟨⟨by kernel_rfl,by kernel_rfl⟩,?_⟩|refine ⟨by decide,?_⟩|apply τt|apply τf))
    exact ret_tells rfl (le_bool (nameB_out2 t2).symm)
  (repeat((conv=>whnf);first|apply ω0|apply ω1|apply ω2|refine τ3 rfl ?_|refine τ4 rfl ?_|refine ⟨rfl,?_⟩|apply τa|refine τb rfl ?_|refine ⟨⟨by kernel_rfl,by kernel_rfl⟩,?_⟩|refine ⟨by decide,?_⟩|apply τt|apply τf))
  intro c t3
  rw [Lib.toList_data, Lib.toList_data] at t3
  cases c
  · (repeat((conv=>whnf);first|apply ω0|apply ω1|apply ω2|refine τ3 rfl ?_|refine τ4 rfl ?_|refine ⟨rfl,?_⟩|apply τa|refine τb rfl ?_|refine ⟨⟨by kernel_rfl,by kernel_rfl⟩,?_⟩|refine ⟨by decide,?_⟩|apply τt|apply τf))
    exact ret_tells rfl (le_bool (nameB_out3 t3).symm)
  (repeat((conv=>whnf);first|apply ω0|apply ω1|apply ω2|refine τ3 rfl ?_|refine τ4 rfl ?_|refine ⟨rfl,?_⟩|apply τa|refine τb rfl ?_|refine ⟨⟨by kernel_rfl,by kernel_rfl⟩,?_⟩|refine ⟨by decide,?_⟩|apply τt|apply τf))
  intro c t4; cases c
  · (repeat((conv=>whnf);first|apply ω0|apply ω1|apply ω2|refine τ3 rfl ?_|refine τ4 rfl ?_|refine ⟨rfl,?_⟩|apply τa|refine τb rfl ?_|refine ⟨⟨by kernel_rfl,by kernel_rfl⟩,?_⟩|refine ⟨by decide,?_⟩|apply τt|apply τf))
    exact ret_tells rfl (le_bool (nameB_out4 (by have := not_of t4; omega)).symm)
  have h4 : s.data.toList.length ≤ 30 := by have := yes_of t4; omega
  (repeat((conv=>whnf);first|apply ω0|apply ω1|apply ω2|refine τ3 rfl ?_|refine τ4 rfl ?_|refine ⟨rfl,?_⟩|apply τa|refine τb rfl ?_|refine ⟨⟨by kernel_rfl,by kernel_rfl⟩,?_⟩|refine ⟨by decide,?_⟩|apply τt|apply τf))
  refine aop_tells rfl rfl (trim_spec s hs) ⟨AVle.refl _, AVle.refl _, trivial⟩ fun nx1 => ?_
  (repeat((conv=>whnf);first|apply ω0|apply ω1|apply ω2|refine τ3 rfl ?_|refine τ4 rfl ?_|refine ⟨rfl,?_⟩|apply τa|refine τb rfl ?_|refine ⟨⟨by kernel_rfl,by kernel_rfl⟩,?_⟩|refine ⟨by decide,?_⟩|apply τt|apply τf))
  intro c t5
  rw [mk_toList, Lib.toList_data] at t5
  cases c
  · have h5 : ¬ Lib.trimS s.data.toList signsB.data.toList = [] := by simpa using t5
    rw [trimS_nil] at h5
    (repeat((conv=>whnf);first|apply ω0|apply ω1|apply ω2|refine τ3 rfl ?_|refine τ4 rfl ?_|refine ⟨rfl,?_⟩|apply τa|refine τb rfl ?_|refine ⟨⟨by kernel_rfl,by kernel_rfl⟩,?_⟩|refine ⟨by decide,?_⟩|apply τt|apply τf))
    exact ret_tells rfl (le_bool (nameB_out5 h5).symm)
  have h5 : Lib.trimS s.data.toList signsB.data.toList = [] := by simpa using t5
  rw [trimS_nil] at h5
  have h0 : ¬ s.data.toList = [] := by simpa using t1
  (repeat((conv=>whnf);first|apply ω0|apply ω1|apply ω2|refine τ3 rfl ?_|refine τ4 rfl ?_|refine ⟨rfl,?_⟩|apply τa|refine τb rfl ?_|refine ⟨⟨by kernel_rfl,by kernel_rfl⟩,?_⟩|refine ⟨by decide,?_⟩|apply τt|apply τf))
  refine ⟨⟨by decide, by have := head_get h0; show (0 : Int) < (s.size : Int); omega⟩, ?_⟩
  (repeat((conv=>whnf);first|apply ω0|apply ω1|apply ω2|refine τ3 rfl ?_|refine τ4 rfl ?_|refine ⟨rfl,?_⟩|apply τa|refine τb rfl ?_|refine ⟨⟨by kernel_rfl,by kernel_rfl⟩,?_⟩|refine ⟨by decide,?_⟩|apply τt|apply τf))
  refine aop_tells rfl rfl (idxByte_spec lettersB _) ⟨AVle.refl _, AVle.refl _, trivial⟩ fun nx2 => ?_
  (repeat((conv=>whnf);first|apply ω0|apply ω1|apply ω2|refine τ3 rfl ?_|refine τ4 rfl ?_|refine ⟨rfl,?_⟩|apply τa|refine τb rfl ?_|refine ⟨⟨by kernel_rfl,by kernel_rfl⟩,?_⟩|refine ⟨by decide,?_⟩|apply τt|apply τf))
  intro c t6
  (repeat((conv=>whnf);first|apply ω0|apply ω1|apply ω2|refine τ3 rfl ?_|refine τ4 rfl ?_|refine ⟨rfl,?_⟩|apply τa|refine τb rfl ?_|refine ⟨⟨by kernel_rfl,by kernel_rfl⟩,?_⟩|refine ⟨by decide,?_⟩|apply τt|apply τf))
  have e1 : (((s.data.getD (Int.toNat 0) 0).toNat : Int)).toNat.toUInt8 = s.data.toList.headD 0 := by
    have hh : s.data.getD 0 0 = s.data.toList.headD 0 := by
      have := head_get h0
      cases hq : s.data.toList with
      | nil => exact absurd hq h0
      | cons x xs =>
        have h2 : s.data = (x :: xs).toArray := by rw [← hq]
        rw [h2]; rfl
    show (((s.data.getD 0 0).toNat : Int)).toNat.toUInt8 = _
    rw [hh, Int.toNat_natCast]
    simp
  refine ret_tells rfl (le_bool (t6.trans ?_))
  rw [nameB_in t1 t2 t3 h4 h5, e1, Bool.eq_iff_iff, decide_eq_true_eq]
  exact (idx_nonneg _ _).1.trans (by simp)
end Go.Proofs.W

namespace Go.Proofs.W
open Go.Vl
set_option maxRecDepth 100000

theorem right10_spec (c : Cnd) : Tells Tryz.prog 41 [cndA c] (boolA (rightC c)) := by
  refine tells_of_aw Tryz.func41 rfl rfl fun nx => ?_
  (repeat' ((repeat((conv=>whnf);first|apply ω0|apply ω1|apply ω2|refine τ3 rfl ?_|refine τ4 rfl ?_|refine ⟨rfl,?_⟩|apply τa|refine τb rfl ?_|refine ⟨⟨by kernel_rfl,by kernel_rfl⟩,?_⟩|refine ⟨by decide,?_⟩|apply τt|apply τf)); intro c h; cases c))
  all_goals
    (repeat((conv=>whnf);first|apply ω0|apply ω1|apply ω2|refine τ3 rfl ?_|refine τ4 rfl ?_|refine ⟨rfl,?_⟩|apply τa|refine τb rfl ?_|refine ⟨⟨by kernel_rfl,by kernel_rfl⟩,?_⟩|refine ⟨by decide,?_⟩|apply τt|apply τf))
    refine ret_tells rfl (le_bool ?_)
    (try simp only [fct_b0, fct_b1, fct_d0, fct_d1, fct_n0, fct_n1] at *)
    simp [rightC]
    omega
theorem u64_and {a b : Nat} (ha : a < 18446744073709551616) (hb : b < 18446744073709551616) : bitsI .and .u64 a b = ((a &&& b : Nat) : Int) :=
  bits_and (k := .u64) ha hb (by
    have : a &&& b ≤ a := Nat.and_le_left
    simp [IntKind.wrap, IntKind.signed, IntKind.bits] at this ⊢
    omega)
end Go.Proofs.W

namespace Go.Proofs.W
open Go.Vl
set_option maxRecDepth 100000

theorem hold1_spec (a : Nat) (c : Cnd) : Tells Tryz.prog 176 [u64 a, cndA c] (boolA (decide (a = c.value))) := by
  refine tells_of_aw Tryz.func176 rfl rfl fun nx => ?_
  (repeat((conv=>whnf);first|apply ω0|apply ω1|apply ω2|refine τ3 rfl ?_|refine τ4 rfl ?_|refine ⟨rfl,?_⟩|apply τa|refine τb rfl ?_|refine ⟨⟨by kernel_rfl,by kernel_rfl⟩,?_⟩|refine ⟨by decide,?_⟩|apply τt|apply τf))
  intro c h; cases c
  all_goals
    (repeat((conv=>whnf);first|apply ω0|apply ω1|apply ω2|refine τ3 rfl ?_|refine τ4 rfl ?_|refine ⟨rfl,?_⟩|apply τa|refine τb rfl ?_|refine ⟨⟨by kernel_rfl,by kernel_rfl⟩,?_⟩|refine ⟨by decide,?_⟩|apply τt|apply τf))
    refine ret_tells rfl (le_bool ?_)
    (try simp only [fct_b0, fct_b1, fct_d0, fct_d1, fct_n0, fct_n1] at *)
    first | omega | (simp; omega)
theorem hold2_spec (a : Nat) (c : Cnd) : Tells Tryz.prog 177 [u64 a, cndA c] (boolA (!decide (a = c.value))) := by
  refine tells_of_aw Tryz.func177 rfl rfl fun nx => ?_
  (repeat((conv=>whnf);first|apply ω0|apply ω1|apply ω2|refine τ3 rfl ?_|refine τ4 rfl ?_|refine ⟨rfl,?_⟩|apply τa|refine τb rfl ?_|refine ⟨⟨by kernel_rfl,by kernel_rfl⟩,?_⟩|refine ⟨by decide,?_⟩|apply τt|apply τf))
  intro c h; cases c
  all_goals
    (repeat((conv=>whnf);first|apply ω0|apply ω1|apply ω2|refine τ3 rfl ?_|refine τ4 rfl ?_|refine ⟨rfl,?_⟩|apply τa|refine τb rfl ?_|refine ⟨⟨by kernel_rfl,by kernel_rfl⟩,?_⟩|refine ⟨by decide,?_⟩|apply τt|apply τf))
    refine ret_tells rfl (le_bool ?_)
    (try simp only [fct_b0, fct_b1, fct_d0, fct_d1, fct_n0, fct_n1] at *)
    first | omega | (simp; omega)
theorem hold3_spec (a : Nat) (c : Cnd) : Tells Tryz.prog 178 [u64 a, cndA c] (boolA (decide (a < c.value))) := by
  refine tells_of_aw Tryz.func178 rfl rfl fun nx => ?_
  (repeat((conv=>whnf);first|apply ω0|apply ω1|apply ω2|refine τ3 rfl ?_|refine τ4 rfl ?_|refine ⟨rfl,?_⟩|apply τa|refine τb rfl ?_|refine ⟨⟨by kernel_rfl,by kernel_rfl⟩,?_⟩|refine ⟨by decide,?_⟩|apply τt|apply τf))
  intro c h; cases c
  all_goals
    (repeat((conv=>whnf);first|apply ω0|apply ω1|apply ω2|refine τ3 rfl ?_|refine τ4 rfl ?_|refine ⟨rfl,?_⟩|apply τa|refine τb rfl ?_|refine ⟨⟨by kernel_rfl,by kernel_rfl⟩,?_⟩|refine ⟨by decide,?_⟩|apply τt|apply τf))
    refine ret_tells rfl (le_bool ?_)
    (try simp only [fct_b0, fct_b1, fct_d0, fct_d1, fct_n0, fct_n1] at *)
    first | omega | (simp; omega)
theorem hold4_spec (a : Nat) (c : Cnd) : Tells Tryz.prog 179 [u64 a, cndA c] (boolA (decide (a ≤ c.value))) := by
  refine tells_of_aw Tryz.func179 rfl rfl fun nx => ?_
  (repeat((conv=>whnf);first|apply ω0|apply ω1|apply ω2|refine τ3 rfl ?_|refine τ4 rfl ?_|refine ⟨rfl,?_⟩|apply τa|refine τb rfl ?_|refine ⟨⟨by kernel_rfl,by kernel_rfl⟩,?_⟩|refine ⟨by decide,?_⟩|apply τt|apply τf))
  intro c h; cases c
  all_goals
    (repeat((conv=>whnf);first|apply ω0|apply ω1|apply ω2|refine τ3 rfl ?_|refine τ4 rfl ?_|refine ⟨rfl,?_⟩|apply τa|refine τb rfl ?_|refine ⟨⟨by kernel_rfl,by kernel_rfl⟩,?_⟩|refine ⟨by decide,?_⟩|apply τt|apply τf))
    refine ret_tells rfl (le_bool ?_)
    (try simp only [fct_b0, fct_b1, fct_d0, fct_d1, fct_n0, fct_n1] at *)
    first | omega | (simp; omega)
theorem hold5_spec (a : Nat) (c : Cnd) : Tells Tryz.prog 180 [u64 a, cndA c] (boolA (decide (a > c.value))) := by
  refine tells_of_aw Tryz.func180 rfl rfl fun nx => ?_
  (repeat((conv=>whnf);first|apply ω0|apply ω1|apply ω2|refine τ3 rfl ?_|refine τ4 rfl ?_|refine ⟨rfl,?_⟩|apply τa|refine τb rfl ?_|refine ⟨⟨by kernel_rfl,by kernel_rfl⟩,?_⟩|refine ⟨by decide,?_⟩|apply τt|apply τf))
  intro c h; cases c
  all_goals
    (repeat((conv=>whnf);first|apply ω0|apply ω1|apply ω2|refine τ3 rfl ?_|refine τ4 rfl ?_|refine ⟨rfl,?_⟩|apply τa|refine τb rfl ?_|refine ⟨⟨by kernel_rfl,by kernel_rfl⟩,?_⟩|refine ⟨by decide,?_⟩|apply τt|apply τf))
    refine ret_tells rfl (le_bool ?_)
    (try simp only [fct_b0, fct_b1, fct_d0, fct_d1, fct_n0, fct_n1] at *)
    first | omega | (simp; omega)
theorem hold6_spec (a : Nat) (c : Cnd) : Tells Tryz.prog 181 [u64 a, cndA c] (boolA (decide (a ≥ c.value))) := by
  refine tells_of_aw Tryz.func181 rfl rfl fun nx => ?_
  (repeat((conv=>whnf);first|apply ω0|apply ω1|apply ω2|refine τ3 rfl ?_|refine τ4 rfl ?_|refine ⟨rfl,?_⟩|apply τa|refine τb rfl ?_|refine ⟨⟨by kernel_rfl,by kernel_rfl⟩,?_⟩|refine ⟨by decide,?_⟩|apply τt|apply τf))
  intro c h; cases c
  all_goals
    (repeat((conv=>whnf);first|apply ω0|apply ω1|apply ω2|refine τ3 rfl ?_|refine τ4 rfl ?_|refine ⟨rfl,?_⟩|apply τa|refine τb rfl ?_|refine ⟨⟨by kernel_rfl,by kernel_rfl⟩,?_⟩|refine ⟨by decide,?_⟩|apply τt|apply τf))
    refine ret_tells rfl (le_bool ?_)
    (try simp only [fct_b0, fct_b1, fct_d0, fct_d1, fct_n0, fct_n1] at *)
    first | omega | (simp; omega)
theorem hold7_spec (a : Nat) (c : Cnd) (ha : a < 18446744073709551616) (ho : c.ok) : Tells Tryz.prog 182 [u64 a, cndA c] (boolA (decide (a &&& c.mask = c.value))) := by
  refine tells_of_aw Tryz.func182 rfl rfl fun nx => ?_
  (repeat((conv=>whnf);first|apply ω0|apply ω1|apply ω2|refine τ3 rfl ?_|refine τ4 rfl ?_|refine ⟨rfl,?_⟩|apply τa|refine τb rfl ?_|refine ⟨⟨by kernel_rfl,by kernel_rfl⟩,?_⟩|refine ⟨by decide,?_⟩|apply τt|apply τf))
  intro c h; cases c
  all_goals
    rw [u64_and ha ho.1] at h
    (repeat((conv=>whnf);first|apply ω0|apply ω1|apply ω2|refine τ3 rfl ?_|refine τ4 rfl ?_|refine ⟨rfl,?_⟩|apply τa|refine τb rfl ?_|refine ⟨⟨by kernel_rfl,by kernel_rfl⟩,?_⟩|refine ⟨by decide,?_⟩|apply τt|apply τf))
    refine ret_tells rfl (le_bool ?_)
    (try simp only [fct_b0, fct_b1, fct_d0, fct_d1, fct_n0, fct_n1] at *)
    first | omega | (simp; omega)
def strA (s : ByteArray) : AV := .v (.string s)
def opsL : List AV := [
  .ag [strA ⟨#[61, 61]⟩, fn0 176],
  .ag [strA ⟨#[33, 61]⟩, fn0 177],
  .ag [strA ⟨#[60]⟩, fn0 178],
  .ag [strA ⟨#[60, 61]⟩, fn0 179],
  .ag [strA ⟨#[62]⟩, fn0 180],
  .ag [strA ⟨#[62, 61]⟩, fn0 181],
  .ag [strA ⟨#[38]⟩, fn0 182]]
theorem ops_spec : Tells Tryz.prog 145 [] (.sl 2 7 (rowF opsL)) := by
  refine tells_of_aw Tryz.func145 rfl rfl fun nx => ?_
  (repeat((conv=>whnf);first|apply ω0|apply ω1|apply ω2|refine τ3 rfl ?_|refine τ4 rfl ?_|refine ⟨rfl,?_⟩|apply τa|refine τb rfl ?_|refine ⟨⟨by kernel_rfl,by kernel_rfl⟩,?_⟩|refine ⟨by decide,?_⟩|apply τt|apply τf))
  refine ret_tells rfl (le_rowF ⟨⟨⟨⟨⟨⟨⟨trivial, rfl⟩, rfl⟩, rfl⟩, rfl⟩, rfl⟩, rfl⟩, rfl⟩)
def args6 (a0 a1 a2 a3 a4 a5 : Nat) : AV := .ag [u64 a0, u64 a1, u64 a2, u64 a3, u64 a4, u64 a5]
theorem noid_cndA (c : Cnd) : NoId (cndA c) := NoId.ag (by intro y hy; simp only [List.mem_cons, List.not_mem_nil, or_false] at hy; rcases hy with rfl | rfl | rfl | rfl <;> exact NoId.v _)
theorem noid_ops : NoId (.sl 2 7 (rowF opsL)) := NoId.sl (by
  intro i hi x hx
  match i, hi with
  | 0, _ | 1, _ | 2, _ | 3, _ | 4, _ | 5, _ | 6, _ => rcases List.mem_cons.1 hx with rfl | hx; exact NoId.v _; rcases List.mem_cons.1 hx with rfl | hx; exact NoId.fn (by simp) (by simp); cases hx)
theorem ixc {c i : Nat} (h : c = 1) : 0 + Int.toNat ((i : Nat) : Int) * c = i := by subst h; omega
theorem holds_key (c : Cnd) (a0 a1 a2 a3 a4 a5 : Nat) (hr : rightC c = true) (k f : Nat) (hk : c.op = k + 1) (hk7 : k < 7) (s : AV) (hf : rowF opsL k = .ag [s, fn0 f]) (b : Bool)
    (hb : Tells Tryz.prog f [u64 ([a0, a1, a2, a3, a4, a5].getD c.arg.toNat 0 : Nat), cndA c] (boolA b)) :
    Tells Tryz.prog 96 [cndA c, args6 a0 a1 a2 a3 a4 a5] (boolA b) := by
  obtain ⟨h1, h2, h3, h4, h5⟩ := rightC_iff.1 hr
  obtain ⟨arg, op, mask, value⟩ := c
  dsimp only at h1 h2 h3 h4 h5 hk
  obtain ⟨i, rfl⟩ : ∃ i : Nat, arg = i := ⟨arg.toNat, by omega⟩
  replace h2 : i ≤ 5 := by omega
  refine tells_of_aw Tryz.func96 rfl rfl fun nx => ?_
  (repeat((conv=>whnf);first|apply ω0|apply ω1|apply ω2|refine τ3 rfl ?_|refine τ4 rfl ?_|refine ⟨rfl,?_⟩|apply τa|refine τb rfl ?_|refine ⟨⟨by kernel_rfl,by kernel_rfl⟩,?_⟩|refine ⟨by decide,?_⟩|apply τt|apply τf))
  (refine aw_draw 17 ?_ ?_ ?_ ?_; (· kernel_rfl); (· kernel_rfl); (· kernel_rfl))
  (repeat((conv=>whnf);first|apply ω0|apply ω1|apply ω2|refine τ3 rfl ?_|refine τ4 rfl ?_|refine ⟨rfl,?_⟩|apply τa|refine τb rfl ?_|refine ⟨⟨by kernel_rfl,by kernel_rfl⟩,?_⟩|refine ⟨by decide,?_⟩|apply τt|apply τf))
  refine ex_yields (yields_tells rfl rfl (right_spec _) ⟨AVle.refl _, trivial⟩ (NoId.v _)) ?_
  rw [hr]
  (repeat((conv=>whnf);first|apply ω0|apply ω1|apply ω2|refine τ3 rfl ?_|refine τ4 rfl ?_|refine ⟨rfl,?_⟩|apply τa|refine τb rfl ?_|refine ⟨⟨by kernel_rfl,by kernel_rfl⟩,?_⟩|refine ⟨by decide,?_⟩|apply τt|apply τf))
  refine ex_yields (yields_tells rfl rfl ops_spec trivial noid_ops) ?_
  have hx : IntKind.i64.wrap (op - 1) = (k : Int) := by rw [wrap_id (by omega) (by omega)]; omega
  (repeat((conv=>whnf);first|apply ω0|apply ω1|apply ω2|refine τ3 rfl ?_|refine τ4 rfl ?_|refine ⟨rfl,?_⟩|apply τa|refine τb rfl ?_|refine ⟨⟨by kernel_rfl,by kernel_rfl⟩,?_⟩|refine ⟨by decide,?_⟩|apply τt|apply τf))
  refine ⟨⟨by rw [hx]; omega, by rw [hx]; omega⟩, splitO_eq (b := .rp [s, fn0 f]) (by rw [hx]; show AV.rp (rowF opsL k).cells = _; rw [hf]; rfl) ?_⟩
  (repeat((conv=>whnf);first|apply ω0|apply ω1|apply ω2|refine τ3 rfl ?_|refine τ4 rfl ?_|refine ⟨rfl,?_⟩|apply τa|refine τb rfl ?_|refine ⟨⟨by kernel_rfl,by kernel_rfl⟩,?_⟩|refine ⟨by decide,?_⟩|apply τt|apply τf))
  refine ⟨⟨h1, by show (i : Int) < (6 : Int); omega⟩, splitO_eq (b := .bp (1, nx + 1) i) (congrArg (AV.bp (1, nx + 1)) (ixc (by kernel_rfl))) ?_⟩
  (conv => whnf)
  refine ⟨⟨rfl, by show i + 1 ≤ 6; omega⟩, splitO_eq (b := u64 ([a0, a1, a2, a3, a4, a5].getD i 0 : Nat)) (by
    match i, h2 with
    | 0, _ | 1, _ | 2, _ | 3, _ | 4, _ | 5, _ => rfl) ?_⟩
  (repeat((conv=>whnf);first|apply ω0|apply ω1|apply ω2|refine τ3 rfl ?_|refine τ4 rfl ?_|refine ⟨rfl,?_⟩|apply τa|refine τb rfl ?_|refine ⟨⟨by kernel_rfl,by kernel_rfl⟩,?_⟩|refine ⟨by decide,?_⟩|apply τt|apply τf))
  refine ex_yields (yields_tells rfl rfl hb ⟨AVle.refl _, AVle.refl _, trivial⟩ (NoId.v _)) ?_
  cases b
  · (repeat((conv=>whnf);first|apply ω0|apply ω1|apply ω2|refine τ3 rfl ?_|refine τ4 rfl ?_|refine ⟨rfl,?_⟩|apply τa|refine τb rfl ?_|refine ⟨⟨by kernel_rfl,by kernel_rfl⟩,?_⟩|refine ⟨by decide,?_⟩|apply τt|apply τf))
    exact ret_tells rfl (AVle.refl _)
  · (repeat((conv=>whnf);first|apply ω0|apply ω1|apply ω2|refine τ3 rfl ?_|refine τ4 rfl ?_|refine ⟨rfl,?_⟩|apply τa|refine τb rfl ?_|refine ⟨⟨by kernel_rfl,by kernel_rfl⟩,?_⟩|refine ⟨by decide,?_⟩|apply τt|apply τf))
    exact ret_tells rfl (AVle.refl _)
theorem holds_spec (c : Cnd) (a0 a1 a2 a3 a4 a5 : Nat) (ho : c.ok) (ha : ∀ i, [a0, a1, a2, a3, a4, a5].getD i 0 < 18446744073709551616) :
    Tells Tryz.prog 96 [cndA c, args6 a0 a1 a2 a3 a4 a5] (boolA (rightC c && holdsC c ([a0, a1, a2, a3, a4, a5].getD c.arg.toNat 0))) := by
  cases hr : rightC c
  · refine tells_of_aw Tryz.func96 rfl rfl fun nx => ?_
    (repeat((conv=>whnf);first|apply ω0|apply ω1|apply ω2|refine τ3 rfl ?_|refine τ4 rfl ?_|refine ⟨rfl,?_⟩|apply τa|refine τb rfl ?_|refine ⟨⟨by kernel_rfl,by kernel_rfl⟩,?_⟩|refine ⟨by decide,?_⟩|apply τt|apply τf))
    (refine aw_draw 17 ?_ ?_ ?_ ?_; (· kernel_rfl); (· kernel_rfl); (· kernel_rfl))
    (repeat((conv=>whnf);first|apply ω0|apply ω1|apply ω2|refine τ3 rfl ?_|refine τ4 rfl ?_|refine ⟨rfl,?_⟩|apply τa|refine τb rfl ?_|refine ⟨⟨by kernel_rfl,by kernel_rfl⟩,?_⟩|refine ⟨by decide,?_⟩|apply τt|apply τf))
    refine ex_yields (yields_tells rfl rfl (right_spec c) ⟨AVle.refl _, trivial⟩ (NoId.v _)) ?_
    rw [hr]
    (repeat((conv=>whnf);first|apply ω0|apply ω1|apply ω2|refine τ3 rfl ?_|refine τ4 rfl ?_|refine ⟨rfl,?_⟩|apply τa|refine τb rfl ?_|refine ⟨⟨by kernel_rfl,by kernel_rfl⟩,?_⟩|refine ⟨by decide,?_⟩|apply τt|apply τf))
    exact ret_tells rfl (AVle.refl _)
  · have hop := rightC_iff.1 hr
    rw [Bool.true_and]
    have ha' := ha c.arg.toNat
    obtain ⟨arg, op, mask, value⟩ := c
    dsimp only at hop ha'
    have h7 : op = 1 ∨ op = 2 ∨ op = 3 ∨ op = 4 ∨ op = 5 ∨ op = 6 ∨ op = 7 := by omega
    rcases h7 with rfl | rfl | rfl | rfl | rfl | rfl | rfl
    · exact holds_key _ _ _ _ _ _ _ hr 0 _ rfl (by decide) _ rfl _ (hold1_spec _ _)
    · exact holds_key _ _ _ _ _ _ _ hr 1 _ rfl (by decide) _ rfl _ (hold2_spec _ _)
    · exact holds_key _ _ _ _ _ _ _ hr 2 _ rfl (by decide) _ rfl _ (hold3_spec _ _)
    · exact holds_key _ _ _ _ _ _ _ hr 3 _ rfl (by decide) _ rfl _ (hold4_spec _ _)
    · exact holds_key _ _ _ _ _ _ _ hr 4 _ rfl (by decide) _ rfl _ (hold5_spec _ _)
    · exact holds_key _ _ _ _ _ _ _ hr 5 _ rfl (by decide) _ rfl _ (hold6_spec _ _)
    · exact holds_key _ _ _ _ _ _ _ hr 6 _ rfl (by decide) _ rfl _ (hold7_spec _ _ ha' ho)
end Go.Proofs.W

namespace Go.Proofs.W
open Go.Vl
set_option maxRecDepth 100000

def belowF (n : Int) : AV := .fn (.func 188) [] [.rp [int n]]
theorem f30_spec (n : Int) (h : 0 ≤ n ∧ n ≤ 100000) : Tells Tryz.prog 188 [.rp [int n]] (int (n - 1)) := by
  refine tells_of_aw Tryz.func188 rfl rfl fun nx => ?_
  (repeat((conv=>whnf);first|apply ω0|apply ω1|apply ω2|refine τ3 rfl ?_|refine τ4 rfl ?_|refine ⟨rfl,?_⟩|apply τa|refine τb rfl ?_|refine ⟨⟨by kernel_rfl,by kernel_rfl⟩,?_⟩|refine ⟨by decide,?_⟩|apply τt|apply τf))
  refine ret_tells rfl (le_int (wrap_id (by omega) (by omega)))
theorem f29_spec (n : Int) : Tells Tryz.prog 158 [int n] (belowF n) := by
  refine tells_of_aw Tryz.func158 rfl rfl fun nx => ?_
  (repeat ((conv=>whnf);first|refine ω0 ?_|refine ω1 ?_|refine ω2 ?_|refine ω3 ?_|refine ω4 rfl ?_|refine ω5 rfl ?_|refine ω6 ?_|refine ω7 ?_|refine ⟨rfl,?_⟩|refine ⟨trivial,?_⟩|refine ⟨⟨rfl,Nat.le_of_ble_eq_true rfl⟩,?_⟩|refine ⟨⟨by kernel_rfl,by kernel_rfl⟩,?_⟩|refine ⟨by decide,?_⟩|refine lit_true ?_|refine lit_false ?_))
  refine AW.le (ele_freeze (L := [(2, belowF n)]) (bx := []) (pm := []) (nn := 0) [((0, nx), .c [int n])] rfl rfl (List.Sublist.refl _) (List.Sublist.refl _) ⟨Frz.fn trivial ⟨Frz.bp (.head _) rfl, trivial⟩, trivial⟩) ?_
  (repeat((conv=>whnf);first|apply ω0|apply ω1|apply ω2|refine τ3 rfl ?_|refine τ4 rfl ?_|refine ⟨rfl,?_⟩|apply τa|refine τb rfl ?_|refine ⟨⟨by kernel_rfl,by kernel_rfl⟩,?_⟩|refine ⟨by decide,?_⟩|apply τt|apply τf))
  refine ret_tells rfl (AVle.refl _)

def rowsL : List AV := [
  .ag [.v (.string ⟨#[107, 105, 108, 108]⟩), .v (.int .u32 2147483648), .v .nilFunc],
  .ag [.v (.string ⟨#[107, 105, 108, 108, 95, 116, 104, 114, 101, 97, 100]⟩), .v (.int .u32 0), .v .nilFunc],
  .ag [.v (.string ⟨#[116, 114, 97, 112]⟩), .v (.int .u32 196608), .v .nilFunc],
  .ag [.v (.string ⟨#[101, 114, 114, 110, 111]⟩), .v (.int .u32 327680), belowF 4096],
  .ag [.v (.string ⟨#[110, 111, 116, 105, 102, 121]⟩), .v (.int .u32 2143289344), .v .nilFunc],
  .ag [.v (.string ⟨#[116, 114, 97, 99, 101]⟩), .v (.int .u32 2146435072), belowF 65536],
  .ag [.v (.string ⟨#[108, 111, 103]⟩), .v (.int .u32 2147221504), .v .nilFunc],
  .ag [.v (.string ⟨#[97, 108, 108, 111, 119]⟩), .v (.int .u32 2147418112), .v .nilFunc]]
def rowsA : AV := .sl 3 8 (rowF rowsL)
theorem f28_spec : Tells Tryz.prog 115 [] rowsA := by
  refine tells_of_aw Tryz.func115 rfl rfl fun nx => ?_
  (repeat((conv=>whnf);first|apply ω0|apply ω1|apply ω2|refine τ3 rfl ?_|refine τ4 rfl ?_|refine ⟨rfl,?_⟩|apply τa|refine τb rfl ?_|refine ⟨⟨by kernel_rfl,by kernel_rfl⟩,?_⟩|refine ⟨by decide,?_⟩|apply τt|apply τf))
  refine aop_tells rfl rfl (f29_spec 4096) ⟨AVle.refl _, trivial⟩ fun nx => ?_
  (repeat((conv=>whnf);first|apply ω0|apply ω1|apply ω2|refine τ3 rfl ?_|refine τ4 rfl ?_|refine ⟨rfl,?_⟩|apply τa|refine τb rfl ?_|refine ⟨⟨by kernel_rfl,by kernel_rfl⟩,?_⟩|refine ⟨by decide,?_⟩|apply τt|apply τf))
  refine aop_tells rfl rfl (f29_spec 65536) ⟨AVle.refl _, trivial⟩ fun nx => ?_
  (repeat((conv=>whnf);first|apply ω0|apply ω1|apply ω2|refine τ3 rfl ?_|refine τ4 rfl ?_|refine ⟨rfl,?_⟩|apply τa|refine τb rfl ?_|refine ⟨⟨by kernel_rfl,by kernel_rfl⟩,?_⟩|refine ⟨by decide,?_⟩|apply τt|apply τf))
  refine ret_tells rfl (le_rowF ⟨⟨⟨⟨⟨⟨⟨⟨trivial, rfl⟩, rfl⟩, rfl⟩, rfl⟩, rfl⟩, rfl⟩, rfl⟩, rfl⟩)
theorem f26_out (k : Int) (h : k < 1 ∨ 8 < k) : Tells Tryz.prog 102 [int k] (.tup [.ag [.v (.string ⟨#[]⟩), .v (.int .u32 0), .v .nilFunc], boolA false]) := by
  refine tells_of_aw Tryz.func102 rfl rfl fun nx => ?_
  (repeat((conv=>whnf);first|apply ω0|apply ω1|apply ω2|refine τ3 rfl ?_|refine τ4 rfl ?_|refine ⟨rfl,?_⟩|apply τa|refine τb rfl ?_|refine ⟨⟨by kernel_rfl,by kernel_rfl⟩,?_⟩|refine ⟨by decide,?_⟩|apply τt|apply τf))
  refine aop_tells rfl rfl f28_spec trivial fun nx => ?_
  (repeat((conv=>whnf);first|apply ω0|apply ω1|apply ω2|refine τ3 rfl ?_|refine τ4 rfl ?_|refine ⟨rfl,?_⟩|apply τa|refine τb rfl ?_|refine ⟨⟨by kernel_rfl,by kernel_rfl⟩,?_⟩|refine ⟨by decide,?_⟩|apply τt|apply τf))
  intro c h1; cases c
  · (repeat((conv=>whnf);first|apply ω0|apply ω1|apply ω2|refine τ3 rfl ?_|refine τ4 rfl ?_|refine ⟨rfl,?_⟩|apply τa|refine τb rfl ?_|refine ⟨⟨by kernel_rfl,by kernel_rfl⟩,?_⟩|refine ⟨by decide,?_⟩|apply τt|apply τf))
    intro c h2; cases c
    · simp at h1 h2; omega
    · (repeat((conv=>whnf);first|apply ω0|apply ω1|apply ω2|refine τ3 rfl ?_|refine τ4 rfl ?_|refine ⟨rfl,?_⟩|apply τa|refine τb rfl ?_|refine ⟨⟨by kernel_rfl,by kernel_rfl⟩,?_⟩|refine ⟨by decide,?_⟩|apply τt|apply τf))
      (refine ret_tells_all rfl ?_ ?_; (· exact ⟨rfl, trivial⟩)); exact AVle.refl _
  · (repeat((conv=>whnf);first|apply ω0|apply ω1|apply ω2|refine τ3 rfl ?_|refine τ4 rfl ?_|refine ⟨rfl,?_⟩|apply τa|refine τb rfl ?_|refine ⟨⟨by kernel_rfl,by kernel_rfl⟩,?_⟩|refine ⟨by decide,?_⟩|apply τt|apply τf))
    (refine ret_tells_all rfl ?_ ?_; (· exact ⟨rfl, trivial⟩)); exact AVle.refl _
theorem f26_in (k : Nat) (h : k < 8) : Tells Tryz.prog 102 [int (k + 1)] (.tup [rowF rowsL k, boolA true]) := by
  refine tells_of_aw Tryz.func102 rfl rfl fun nx => ?_
  (repeat((conv=>whnf);first|apply ω0|apply ω1|apply ω2|refine τ3 rfl ?_|refine τ4 rfl ?_|refine ⟨rfl,?_⟩|apply τa|refine τb rfl ?_|refine ⟨⟨by kernel_rfl,by kernel_rfl⟩,?_⟩|refine ⟨by decide,?_⟩|apply τt|apply τf))
  refine aop_tells rfl rfl f28_spec trivial fun nx => ?_
  (repeat((conv=>whnf);first|apply ω0|apply ω1|apply ω2|refine τ3 rfl ?_|refine τ4 rfl ?_|refine ⟨rfl,?_⟩|apply τa|refine τb rfl ?_|refine ⟨⟨by kernel_rfl,by kernel_rfl⟩,?_⟩|refine ⟨by decide,?_⟩|apply τt|apply τf))
  intro c h1; cases c
  · (repeat((conv=>whnf);first|apply ω0|apply ω1|apply ω2|refine τ3 rfl ?_|refine τ4 rfl ?_|refine ⟨rfl,?_⟩|apply τa|refine τb rfl ?_|refine ⟨⟨by kernel_rfl,by kernel_rfl⟩,?_⟩|refine ⟨by decide,?_⟩|apply τt|apply τf))
    rcases k with _ | _ | _ | _ | _ | _ | _ | _ | k
    iterate 8
      · refine ⟨⟨by decide, by decide⟩, ?_⟩
        (repeat((conv=>whnf);first|apply ω0|apply ω1|apply ω2|refine τ3 rfl ?_|refine τ4 rfl ?_|refine ⟨rfl,?_⟩|apply τa|refine τb rfl ?_|refine ⟨⟨by kernel_rfl,by kernel_rfl⟩,?_⟩|refine ⟨by decide,?_⟩|apply τt|apply τf))
        (refine ret_tells_all rfl ?_ ?_; (· exact ⟨rfl, trivial⟩)); exact AVle.refl _
    · omega
  · simp at h1; omega
def most9 (k : Int) : Int := if k = 4 then 4095 else if k = 6 then 65535 else 0
theorem most9_spec (k : Int) : Tells Tryz.prog 87 [int k] (int (most9 k)) := by
  refine tells_of_aw Tryz.func87 rfl rfl fun nx => ?_
  (repeat((conv=>whnf);first|apply ω0|apply ω1|apply ω2|refine τ3 rfl ?_|refine τ4 rfl ?_|refine ⟨rfl,?_⟩|apply τa|refine τb rfl ?_|refine ⟨⟨by kernel_rfl,by kernel_rfl⟩,?_⟩|refine ⟨by decide,?_⟩|apply τt|apply τf))
  intro c hc
  cases c
  · (repeat((conv=>whnf);first|apply ω0|apply ω1|apply ω2|refine τ3 rfl ?_|refine τ4 rfl ?_|refine ⟨rfl,?_⟩|apply τa|refine τb rfl ?_|refine ⟨⟨by kernel_rfl,by kernel_rfl⟩,?_⟩|refine ⟨by decide,?_⟩|apply τt|apply τf))
    intro d hd
    cases d
    · (repeat((conv=>whnf);first|apply ω0|apply ω1|apply ω2|refine τ3 rfl ?_|refine τ4 rfl ?_|refine ⟨rfl,?_⟩|apply τa|refine τb rfl ?_|refine ⟨⟨by kernel_rfl,by kernel_rfl⟩,?_⟩|refine ⟨by decide,?_⟩|apply τt|apply τf))
      refine ret_tells rfl (le_int ?_)
      simp at hc hd; simp [most9, hc, hd]
    · (repeat((conv=>whnf);first|apply ω0|apply ω1|apply ω2|refine τ3 rfl ?_|refine τ4 rfl ?_|refine ⟨rfl,?_⟩|apply τa|refine τb rfl ?_|refine ⟨⟨by kernel_rfl,by kernel_rfl⟩,?_⟩|refine ⟨by decide,?_⟩|apply τt|apply τf))
      refine ret_tells rfl (le_int ?_)
      simp at hc hd; simp [most9, hc, hd]
  · (repeat((conv=>whnf);first|apply ω0|apply ω1|apply ω2|refine τ3 rfl ?_|refine τ4 rfl ?_|refine ⟨rfl,?_⟩|apply τa|refine τb rfl ?_|refine ⟨⟨by kernel_rfl,by kernel_rfl⟩,?_⟩|refine ⟨by decide,?_⟩|apply τt|apply τf))
    refine ret_tells rfl (le_int ?_)
    simp at hc; simp [most9, hc]
def act (k n : Int) : AV := .ag [int k, int n]
def right9 (k n : Int) : Bool := decide (1 ≤ k) && decide (k ≤ 8) && decide (0 ≤ n) && decide (n ≤ most9 k)
end Go.Proofs.W

namespace Go.Proofs.W
open Go.Vl
set_option maxRecDepth 100000

theorem f27_nil (s : ByteArray) (c : Int) : Tells Tryz.prog 117 [.ag [.v (.string s), .v (.int .u32 c), .v .nilFunc]] (int 0) := by
  refine tells_of_aw Tryz.func117 rfl rfl fun nx => ?_
  (repeat((conv=>whnf);first|apply ω0|apply ω1|apply ω2|refine τ3 rfl ?_|refine τ4 rfl ?_|refine ⟨rfl,?_⟩|apply τa|refine τb rfl ?_|refine ⟨⟨by kernel_rfl,by kernel_rfl⟩,?_⟩|refine ⟨by decide,?_⟩|apply τt|apply τf))
  refine ret_tells rfl (AVle.refl _)
theorem f27_below (s : ByteArray) (c n : Int) (h : 0 ≤ n ∧ n ≤ 100000) : Tells Tryz.prog 117 [.ag [.v (.string s), .v (.int .u32 c), belowF n]] (int (n - 1)) := by
  refine tells_of_aw Tryz.func117 rfl rfl fun nx => ?_
  (repeat((conv=>whnf);first|apply ω0|apply ω1|apply ω2|refine τ3 rfl ?_|refine τ4 rfl ?_|refine ⟨rfl,?_⟩|apply τa|refine τb rfl ?_|refine ⟨⟨by kernel_rfl,by kernel_rfl⟩,?_⟩|refine ⟨by decide,?_⟩|apply τt|apply τf))
  refine aop_tells rfl rfl (f30_spec n h) ⟨AVle.refl _, trivial⟩ fun nx => ?_
  (repeat((conv=>whnf);first|apply ω0|apply ω1|apply ω2|refine τ3 rfl ?_|refine τ4 rfl ?_|refine ⟨rfl,?_⟩|apply τa|refine τb rfl ?_|refine ⟨⟨by kernel_rfl,by kernel_rfl⟩,?_⟩|refine ⟨by decide,?_⟩|apply τt|apply τf))
  refine ret_tells rfl (AVle.refl _)
theorem row_most (k : Nat) (h : k < 8) : ∃ s c m, rowF rowsL k = .ag [.v (.string s), .v (.int .u32 c), m] ∧ (m = .v .nilFunc ∨ ∃ n, m = belowF n) ∧ Tells Tryz.prog 117 [rowF rowsL k] (int (most9 (k + 1))) := by
  rcases k with _ | _ | _ | _ | _ | _ | _ | _ | k
  · exact ⟨_, _, _, rfl, .inl rfl, f27_nil _ _⟩
  · exact ⟨_, _, _, rfl, .inl rfl, f27_nil _ _⟩
  · exact ⟨_, _, _, rfl, .inl rfl, f27_nil _ _⟩
  · exact ⟨_, _, _, rfl, .inr ⟨_, rfl⟩, f27_below _ _ 4096 (by decide)⟩
  · exact ⟨_, _, _, rfl, .inl rfl, f27_nil _ _⟩
  · exact ⟨_, _, _, rfl, .inr ⟨_, rfl⟩, f27_below _ _ 65536 (by decide)⟩
  · exact ⟨_, _, _, rfl, .inl rfl, f27_nil _ _⟩
  · exact ⟨_, _, _, rfl, .inl rfl, f27_nil _ _⟩
  · omega
theorem right9_out {k n : Int} (h : k < 1 ∨ 8 < k) : right9 k n = false := by simp [right9]; omega
theorem f22_in (k n : Int) (m : AV) (s : ByteArray) (c : Int) (hm : m = .v .nilFunc ∨ ∃ n, m = belowF n) (hk : 1 ≤ k ∧ k ≤ 8)
    (h26 : Tells Tryz.prog 102 [int k] (.tup [.ag [.v (.string s), .v (.int .u32 c), m], boolA true])) (h27 : Tells Tryz.prog 117 [.ag [.v (.string s), .v (.int .u32 c), m]] (int (most9 k))) :
    Tells Tryz.prog 98 [act k n] (boolA (right9 k n)) := by
  refine tells_of_aw Tryz.func98 rfl rfl fun nx => ?_
  (repeat((conv=>whnf);first|apply ω0|apply ω1|apply ω2|refine τ3 rfl ?_|refine τ4 rfl ?_|refine ⟨rfl,?_⟩|apply τa|refine τb rfl ?_|refine ⟨⟨by kernel_rfl,by kernel_rfl⟩,?_⟩|refine ⟨by decide,?_⟩|apply τt|apply τf))
  refine aop_tells rfl rfl h26 ⟨AVle.refl _, trivial⟩ fun nx => ?_
  rcases hm with rfl | ⟨n', rfl⟩
  all_goals
    (repeat((conv=>whnf);first|apply ω0|apply ω1|apply ω2|refine τ3 rfl ?_|refine τ4 rfl ?_|refine ⟨rfl,?_⟩|apply τa|refine τb rfl ?_|refine ⟨⟨by kernel_rfl,by kernel_rfl⟩,?_⟩|refine ⟨by decide,?_⟩|apply τt|apply τf))
    (refine aw_draw 13 ?_ ?_ ?_ ?_; (· kernel_rfl); (· kernel_rfl); (· kernel_rfl))
    (repeat((conv=>whnf);first|apply ω0|apply ω1|apply ω2|refine τ3 rfl ?_|refine τ4 rfl ?_|refine ⟨rfl,?_⟩|apply τa|refine τb rfl ?_|refine ⟨⟨by kernel_rfl,by kernel_rfl⟩,?_⟩|refine ⟨by decide,?_⟩|apply τt|apply τf))
    intro c h1; cases c
    · (repeat((conv=>whnf);first|apply ω0|apply ω1|apply ω2|refine τ3 rfl ?_|refine τ4 rfl ?_|refine ⟨rfl,?_⟩|apply τa|refine τb rfl ?_|refine ⟨⟨by kernel_rfl,by kernel_rfl⟩,?_⟩|refine ⟨by decide,?_⟩|apply τt|apply τf))
      refine ret_tells rfl (le_bool ?_)
      simp at h1; simp [right9]; omega
    (repeat((conv=>whnf);first|apply ω0|apply ω1|apply ω2|refine τ3 rfl ?_|refine τ4 rfl ?_|refine ⟨rfl,?_⟩|apply τa|refine τb rfl ?_|refine ⟨⟨by kernel_rfl,by kernel_rfl⟩,?_⟩|refine ⟨by decide,?_⟩|apply τt|apply τf))
    refine ex_yields (yields_tells rfl rfl h27 ⟨AVle.refl _, trivial⟩ (NoId.v _)) ?_
    (repeat((conv=>whnf);first|apply ω0|apply ω1|apply ω2|refine τ3 rfl ?_|refine τ4 rfl ?_|refine ⟨rfl,?_⟩|apply τa|refine τb rfl ?_|refine ⟨⟨by kernel_rfl,by kernel_rfl⟩,?_⟩|refine ⟨by decide,?_⟩|apply τt|apply τf))
    intro c h2; cases c
    · (repeat((conv=>whnf);first|apply ω0|apply ω1|apply ω2|refine τ3 rfl ?_|refine τ4 rfl ?_|refine ⟨rfl,?_⟩|apply τa|refine τb rfl ?_|refine ⟨⟨by kernel_rfl,by kernel_rfl⟩,?_⟩|refine ⟨by decide,?_⟩|apply τt|apply τf))
      refine ret_tells rfl (le_bool ?_)
      simp at h1 h2; simp [right9]; omega
    · (repeat((conv=>whnf);first|apply ω0|apply ω1|apply ω2|refine τ3 rfl ?_|refine τ4 rfl ?_|refine ⟨rfl,?_⟩|apply τa|refine τb rfl ?_|refine ⟨⟨by kernel_rfl,by kernel_rfl⟩,?_⟩|refine ⟨by decide,?_⟩|apply τt|apply τf))
      refine ret_tells rfl (le_bool ?_)
      simp at h1 h2; simp [right9]; omega
theorem f22_spec (k n : Int) : Tells Tryz.prog 98 [act k n] (boolA (right9 k n)) := by
  by_cases hk : k < 1 ∨ 8 < k
  · refine tells_of_aw Tryz.func98 rfl rfl fun nx => ?_
    (repeat((conv=>whnf);first|apply ω0|apply ω1|apply ω2|refine τ3 rfl ?_|refine τ4 rfl ?_|refine ⟨rfl,?_⟩|apply τa|refine τb rfl ?_|refine ⟨⟨by kernel_rfl,by kernel_rfl⟩,?_⟩|refine ⟨by decide,?_⟩|apply τt|apply τf))
    refine aop_tells rfl rfl (f26_out k hk) ⟨AVle.refl _, trivial⟩ fun nx => ?_
    (repeat((conv=>whnf);first|apply ω0|apply ω1|apply ω2|refine τ3 rfl ?_|refine τ4 rfl ?_|refine ⟨rfl,?_⟩|apply τa|refine τb rfl ?_|refine ⟨⟨by kernel_rfl,by kernel_rfl⟩,?_⟩|refine ⟨by decide,?_⟩|apply τt|apply τf))
    (refine aw_draw 13 ?_ ?_ ?_ ?_; (· kernel_rfl); (· kernel_rfl); (· kernel_rfl))
    (repeat((conv=>whnf);first|apply ω0|apply ω1|apply ω2|refine τ3 rfl ?_|refine τ4 rfl ?_|refine ⟨rfl,?_⟩|apply τa|refine τb rfl ?_|refine ⟨⟨by kernel_rfl,by kernel_rfl⟩,?_⟩|refine ⟨by decide,?_⟩|apply τt|apply τf))
    refine ret_tells rfl (le_bool (right9_out hk).symm)
  · obtain ⟨j, hj, rfl⟩ : ∃ j : Nat, j < 8 ∧ k = (j : Int) + 1 := ⟨(k - 1).toNat, by omega, by omega⟩
    obtain ⟨s, c, m, hr, ho, hm⟩ := row_most j hj
    have h26 := f26_in j hj
    rw [hr] at h26 hm
    exact f22_in _ n m s c ho (by omega) h26 hm
/-- Actions, as data. -/
abbrev A2 := Int × Int
def actP (a : A2) : AV := act a.1 a.2
theorem idx_at {α : Type} {p : α → Bool} {l : List α} {i : Nat} (d : α) (hi : i < l.length) (hb : ∀ j, j < i → p (l.getD j d) = false) (h : p (l.getD i d) = true) : l.findIdx? p = some i := by
  rw [List.findIdx?_eq_some_iff_getElem]
  refine ⟨hi, by simpa [List.getD, hi] using h, fun j hj => ?_⟩
  have := hb j hj
  have hj' : j < l.length := by omega
  simpa [List.getD, hj'] using this
theorem idx_none {α : Type} {p : α → Bool} {l : List α} (d : α) (hb : ∀ j, j < l.length → p (l.getD j d) = false) : l.findIdx? p = none := by
  rw [List.findIdx?_eq_none_iff]
  intro x hx
  obtain ⟨j, hj, rfl⟩ := List.getElem_of_mem hx
  have := hb j hj
  simpa [List.getD, hj] using this
def optI : Option Nat → Int
  | some i => i
  | none => -1
theorem optI_nonneg (o : Option Nat) : decide (0 ≤ optI o) = o.isSome := by cases o <;> simp [optI]
end Go.Proofs.W

namespace Go.Proofs.W
open Go.Vl
set_option maxRecDepth 100000

/-- A rule, a policy. -/
structure Rul where
  name : ByteArray
  act : A2
  conds : List Cnd
structure Pol where
  dflt : A2
  x32 : Bool
  rules : List Rul
def rul0 : Rul := ⟨⟨#[]⟩, (0, 0), []⟩
def rulA (r : Rul) : AV := .ag [strA r.name, int r.act.1, int r.act.2, cnds r.conds]
def ruls (l : List Rul) : AV := slOf 4 rulA rul0 l
def polA (p : Pol) : AV := .ag [int p.dflt.1, int p.dflt.2, boolA p.x32, ruls p.rules]
theorem idxf_int (l : List Int) (p : Int → Bool) (f : Nat) (hl : l.length ≤ 1000000000) (hp : ∀ i, i < l.length → Tells Tryz.prog f [int (l.getD i 0)] (boolA (p (l.getD i 0)))) :
    Tells Tryz.prog 156 [slOf 1 int 0 l, fn0 f] (int (optI (l.findIdx? p))) := by
  refine tells_of_aw Tryz.func156 rfl rfl fun nx => ?_
  (repeat((conv=>whnf);first|apply ω0|apply ω1|apply ω2|refine τ3 rfl ?_|refine τ4 rfl ?_|refine ⟨rfl,?_⟩|apply τa|refine τb rfl ?_|refine ⟨⟨by kernel_rfl,by kernel_rfl⟩,?_⟩|refine ⟨by decide,?_⟩|apply τt|apply τf))
  refine aw_loop (fun s : Nat × Nat => mk 19 [(0, slOf 1 int 0 l), (1, fn0 f), (7, int l.length), (8, int s.1)] ⟨[], [], s.2, 0⟩) (fun s => s.1 ≤ l.length ∧ ∀ j, j < s.1 → p (l.getD j 0) = false) (fun s => l.length - s.1) ?_ ?_
  · exact ⟨(0, nx), ⟨by simp, by intro j hj; simp at hj⟩, ele_mk rfl rfl ⟨AVle.refl _, AVle.refl _, AVle.refl _, AVle.refl _, trivial⟩⟩
  · rintro ⟨i, nx⟩ ⟨h1, h2⟩
    dsimp only at h1 h2
    (repeat((conv=>whnf);first|apply ω0|apply ω1|apply ω2|refine τ3 rfl ?_|refine τ4 rfl ?_|refine ⟨rfl,?_⟩|apply τa|refine τb rfl ?_|refine ⟨⟨by kernel_rfl,by kernel_rfl⟩,?_⟩|refine ⟨by decide,?_⟩|apply τt|apply τf))
    intro c h3; cases c
    · have h3 := not_of h3
      dsimp only at h3
      (repeat((conv=>whnf);first|apply ω0|apply ω1|apply ω2|refine τ3 rfl ?_|refine τ4 rfl ?_|refine ⟨rfl,?_⟩|apply τa|refine τb rfl ?_|refine ⟨⟨by kernel_rfl,by kernel_rfl⟩,?_⟩|refine ⟨by decide,?_⟩|apply τt|apply τf))
      refine ret_tells rfl (le_int ?_)
      rw [idx_none 0 (fun j hj => h2 j (by omega))]; rfl
    · have h3 := yes_of h3
      dsimp only at h3
      have hi : i < l.length := by omega
      (repeat((conv=>whnf);first|apply ω0|apply ω1|apply ω2|refine τ3 rfl ?_|refine τ4 rfl ?_|refine ⟨rfl,?_⟩|apply τa|refine τb rfl ?_|refine ⟨⟨by kernel_rfl,by kernel_rfl⟩,?_⟩|refine ⟨by decide,?_⟩|apply τt|apply τf))
      refine ⟨⟨by dsimp only; omega, by dsimp only; omega⟩, ?_⟩
      (repeat((conv=>whnf);first|apply ω0|apply ω1|apply ω2|refine τ3 rfl ?_|refine τ4 rfl ?_|refine ⟨rfl,?_⟩|apply τa|refine τb rfl ?_|refine ⟨⟨by kernel_rfl,by kernel_rfl⟩,?_⟩|refine ⟨by decide,?_⟩|apply τt|apply τf))
      refine aop_tells rfl rfl (hp i hi) ⟨AVle.refl _, trivial⟩ fun nx' => ?_
      intro c h4; cases c
      · (repeat((conv=>whnf);first|apply ω0|apply ω1|apply ω2|refine τ3 rfl ?_|refine τ4 rfl ?_|refine ⟨rfl,?_⟩|apply τa|refine τb rfl ?_|refine ⟨⟨by kernel_rfl,by kernel_rfl⟩,?_⟩|refine ⟨by decide,?_⟩|apply τt|apply τf))
        refine back (i + 1, nx') ⟨by dsimp only; omega, fun j hj => ?_⟩ (by dsimp only; omega) (ele_mk rfl rfl ⟨AVle.refl _, AVle.refl _, AVle.refl _, le_int (wrap_succ (by dsimp only; omega)), trivial⟩)
        dsimp only at hj
        rcases Nat.lt_or_ge j i with h | h
        · exact h2 j h
        · obtain rfl : j = i := by omega
          exact h4.symm
      · (repeat((conv=>whnf);first|apply ω0|apply ω1|apply ω2|refine τ3 rfl ?_|refine τ4 rfl ?_|refine ⟨rfl,?_⟩|apply τa|refine τb rfl ?_|refine ⟨⟨by kernel_rfl,by kernel_rfl⟩,?_⟩|refine ⟨by decide,?_⟩|apply τt|apply τf))
        refine ret_tells rfl (le_int ?_)
        rw [idx_at 0 hi h2 h4.symm]; rfl
theorem cntf_int (l : List Int) (p : Int → Bool) (f : Nat) (hl : l.length ≤ 1000000000) (hp : ∀ i, i < l.length → Tells Tryz.prog f [int (l.getD i 0)] (boolA (p (l.getD i 0)))) :
    Tells Tryz.prog 106 [slOf 1 int 0 l, fn0 f] (boolA (l.any p)) := by
  refine tells_of_aw Tryz.func106 rfl rfl fun nx => ?_
  (repeat((conv=>whnf);first|apply ω0|apply ω1|apply ω2|refine τ3 rfl ?_|refine τ4 rfl ?_|refine ⟨rfl,?_⟩|apply τa|refine τb rfl ?_|refine ⟨⟨by kernel_rfl,by kernel_rfl⟩,?_⟩|refine ⟨by decide,?_⟩|apply τt|apply τf))
  refine aop_tells rfl rfl (idxf_int l p f hl hp) ⟨AVle.refl _, AVle.refl _, trivial⟩ fun nx' => ?_
  (repeat((conv=>whnf);first|apply ω0|apply ω1|apply ω2|refine τ3 rfl ?_|refine τ4 rfl ?_|refine ⟨rfl,?_⟩|apply τa|refine τb rfl ?_|refine ⟨⟨by kernel_rfl,by kernel_rfl⟩,?_⟩|refine ⟨by decide,?_⟩|apply τt|apply τf))
  intro c h; cases c
  all_goals
    (repeat((conv=>whnf);first|apply ω0|apply ω1|apply ω2|refine τ3 rfl ?_|refine τ4 rfl ?_|refine ⟨rfl,?_⟩|apply τa|refine τb rfl ?_|refine ⟨⟨by kernel_rfl,by kernel_rfl⟩,?_⟩|refine ⟨by decide,?_⟩|apply τt|apply τf))
    refine ret_tells rfl (le_bool ?_)
    rw [h, ← List.findIdx?_isSome]
    exact optI_nonneg _
theorem idxf_cnd (l : List Cnd) (p : Cnd → Bool) (f : Nat) (hl : l.length ≤ 1000000000) (hp : ∀ i, i < l.length → Tells Tryz.prog f [cndA (l.getD i cnd0)] (boolA (p (l.getD i cnd0)))) :
    Tells Tryz.prog 143 [slOf 4 cndA cnd0 l, fn0 f] (int (optI (l.findIdx? p))) := by
  refine tells_of_aw Tryz.func143 rfl rfl fun nx => ?_
  (repeat((conv=>whnf);first|apply ω0|apply ω1|apply ω2|refine τ3 rfl ?_|refine τ4 rfl ?_|refine ⟨rfl,?_⟩|apply τa|refine τb rfl ?_|refine ⟨⟨by kernel_rfl,by kernel_rfl⟩,?_⟩|refine ⟨by decide,?_⟩|apply τt|apply τf))
  refine aw_loop (fun s : Nat × Nat => mk 19 [(0, slOf 4 cndA cnd0 l), (1, fn0 f), (7, int l.length), (8, int s.1)] ⟨[], [], s.2, 0⟩) (fun s => s.1 ≤ l.length ∧ ∀ j, j < s.1 → p (l.getD j cnd0) = false) (fun s => l.length - s.1) ?_ ?_
  · exact ⟨(0, nx), ⟨by simp, by intro j hj; simp at hj⟩, ele_mk rfl rfl ⟨AVle.refl _, AVle.refl _, AVle.refl _, AVle.refl _, trivial⟩⟩
  · rintro ⟨i, nx⟩ ⟨h1, h2⟩
    dsimp only at h1 h2
    (repeat((conv=>whnf);first|apply ω0|apply ω1|apply ω2|refine τ3 rfl ?_|refine τ4 rfl ?_|refine ⟨rfl,?_⟩|apply τa|refine τb rfl ?_|refine ⟨⟨by kernel_rfl,by kernel_rfl⟩,?_⟩|refine ⟨by decide,?_⟩|apply τt|apply τf))
    intro c h3; cases c
    · have h3 := not_of h3
      dsimp only at h3
      (repeat((conv=>whnf);first|apply ω0|apply ω1|apply ω2|refine τ3 rfl ?_|refine τ4 rfl ?_|refine ⟨rfl,?_⟩|apply τa|refine τb rfl ?_|refine ⟨⟨by kernel_rfl,by kernel_rfl⟩,?_⟩|refine ⟨by decide,?_⟩|apply τt|apply τf))
      refine ret_tells rfl (le_int ?_)
      rw [idx_none cnd0 (fun j hj => h2 j (by omega))]; rfl
    · have h3 := yes_of h3
      dsimp only at h3
      have hi : i < l.length := by omega
      (repeat((conv=>whnf);first|apply ω0|apply ω1|apply ω2|refine τ3 rfl ?_|refine τ4 rfl ?_|refine ⟨rfl,?_⟩|apply τa|refine τb rfl ?_|refine ⟨⟨by kernel_rfl,by kernel_rfl⟩,?_⟩|refine ⟨by decide,?_⟩|apply τt|apply τf))
      refine ⟨⟨by dsimp only; omega, by dsimp only; omega⟩, ?_⟩
      (repeat((conv=>whnf);first|apply ω0|apply ω1|apply ω2|refine τ3 rfl ?_|refine τ4 rfl ?_|refine ⟨rfl,?_⟩|apply τa|refine τb rfl ?_|refine ⟨⟨by kernel_rfl,by kernel_rfl⟩,?_⟩|refine ⟨by decide,?_⟩|apply τt|apply τf))
      refine aop_tells rfl rfl (hp i hi) ⟨AVle.refl _, trivial⟩ fun nx' => ?_
      intro c h4; cases c
      · (repeat((conv=>whnf);first|apply ω0|apply ω1|apply ω2|refine τ3 rfl ?_|refine τ4 rfl ?_|refine ⟨rfl,?_⟩|apply τa|refine τb rfl ?_|refine ⟨⟨by kernel_rfl,by kernel_rfl⟩,?_⟩|refine ⟨by decide,?_⟩|apply τt|apply τf))
        refine back (i + 1, nx') ⟨by dsimp only; omega, fun j hj => ?_⟩ (by dsimp only; omega) (ele_mk rfl rfl ⟨AVle.refl _, AVle.refl _, AVle.refl _, le_int (wrap_succ (by dsimp only; omega)), trivial⟩)
        dsimp only at hj
        rcases Nat.lt_or_ge j i with h | h
        · exact h2 j h
        · obtain rfl : j = i := by omega
          exact h4.symm
      · (repeat((conv=>whnf);first|apply ω0|apply ω1|apply ω2|refine τ3 rfl ?_|refine τ4 rfl ?_|refine ⟨rfl,?_⟩|apply τa|refine τb rfl ?_|refine ⟨⟨by kernel_rfl,by kernel_rfl⟩,?_⟩|refine ⟨by decide,?_⟩|apply τt|apply τf))
        refine ret_tells rfl (le_int ?_)
        rw [idx_at cnd0 hi h2 h4.symm]; rfl
theorem cntf_cnd (l : List Cnd) (p : Cnd → Bool) (f : Nat) (hl : l.length ≤ 1000000000) (hp : ∀ i, i < l.length → Tells Tryz.prog f [cndA (l.getD i cnd0)] (boolA (p (l.getD i cnd0)))) :
    Tells Tryz.prog 94 [slOf 4 cndA cnd0 l, fn0 f] (boolA (l.any p)) := by
  refine tells_of_aw Tryz.func94 rfl rfl fun nx => ?_
  (repeat((conv=>whnf);first|apply ω0|apply ω1|apply ω2|refine τ3 rfl ?_|refine τ4 rfl ?_|refine ⟨rfl,?_⟩|apply τa|refine τb rfl ?_|refine ⟨⟨by kernel_rfl,by kernel_rfl⟩,?_⟩|refine ⟨by decide,?_⟩|apply τt|apply τf))
  refine aop_tells rfl rfl (idxf_cnd l p f hl hp) ⟨AVle.refl _, AVle.refl _, trivial⟩ fun nx' => ?_
  (repeat((conv=>whnf);first|apply ω0|apply ω1|apply ω2|refine τ3 rfl ?_|refine τ4 rfl ?_|refine ⟨rfl,?_⟩|apply τa|refine τb rfl ?_|refine ⟨⟨by kernel_rfl,by kernel_rfl⟩,?_⟩|refine ⟨by decide,?_⟩|apply τt|apply τf))
  intro c h; cases c
  all_goals
    (repeat((conv=>whnf);first|apply ω0|apply ω1|apply ω2|refine τ3 rfl ?_|refine τ4 rfl ?_|refine ⟨rfl,?_⟩|apply τa|refine τb rfl ?_|refine ⟨⟨by kernel_rfl,by kernel_rfl⟩,?_⟩|refine ⟨by decide,?_⟩|apply τt|apply τf))
    refine ret_tells rfl (le_bool ?_)
    rw [h, ← List.findIdx?_isSome]
    exact optI_nonneg _
theorem idxf_rul (l : List Rul) (p : Rul → Bool) (f : Nat) (hl : l.length ≤ 1000000000) (hp : ∀ i, i < l.length → Tells Tryz.prog f [rulA (l.getD i rul0)] (boolA (p (l.getD i rul0)))) :
    Tells Tryz.prog 67 [slOf 4 rulA rul0 l, fn0 f] (int (optI (l.findIdx? p))) := by
  refine tells_of_aw Tryz.func67 rfl rfl fun nx => ?_
  (repeat((conv=>whnf);first|apply ω0|apply ω1|apply ω2|refine τ3 rfl ?_|refine τ4 rfl ?_|refine ⟨rfl,?_⟩|apply τa|refine τb rfl ?_|refine ⟨⟨by kernel_rfl,by kernel_rfl⟩,?_⟩|refine ⟨by decide,?_⟩|apply τt|apply τf))
  refine aw_loop (fun s : Nat × Nat => mk 19 [(0, slOf 4 rulA rul0 l), (1, fn0 f), (7, int l.length), (8, int s.1)] ⟨[], [], s.2, 0⟩) (fun s => s.1 ≤ l.length ∧ ∀ j, j < s.1 → p (l.getD j rul0) = false) (fun s => l.length - s.1) ?_ ?_
  · exact ⟨(0, nx), ⟨by simp, by intro j hj; simp at hj⟩, ele_mk rfl rfl ⟨AVle.refl _, AVle.refl _, AVle.refl _, AVle.refl _, trivial⟩⟩
  · rintro ⟨i, nx⟩ ⟨h1, h2⟩
    dsimp only at h1 h2
    (repeat((conv=>whnf);first|apply ω0|apply ω1|apply ω2|refine τ3 rfl ?_|refine τ4 rfl ?_|refine ⟨rfl,?_⟩|apply τa|refine τb rfl ?_|refine ⟨⟨by kernel_rfl,by kernel_rfl⟩,?_⟩|refine ⟨by decide,?_⟩|apply τt|apply τf))
    intro c h3; cases c
    · have h3 := not_of h3
      dsimp only at h3
      (repeat((conv=>whnf);first|apply ω0|apply ω1|apply ω2|refine τ3 rfl ?_|refine τ4 rfl ?_|refine ⟨rfl,?_⟩|apply τa|refine τb rfl ?_|refine ⟨⟨by kernel_rfl,by kernel_rfl⟩,?_⟩|refine ⟨by decide,?_⟩|apply τt|apply τf))
      refine ret_tells rfl (le_int ?_)
      rw [idx_none rul0 (fun j hj => h2 j (by omega))]; rfl
    · have h3 := yes_of h3
      dsimp only at h3
      have hi : i < l.length := by omega
      (repeat((conv=>whnf);first|apply ω0|apply ω1|apply ω2|refine τ3 rfl ?_|refine τ4 rfl ?_|refine ⟨rfl,?_⟩|apply τa|refine τb rfl ?_|refine ⟨⟨by kernel_rfl,by kernel_rfl⟩,?_⟩|refine ⟨by decide,?_⟩|apply τt|apply τf))
      refine ⟨⟨by dsimp only; omega, by dsimp only; omega⟩, ?_⟩
      (repeat((conv=>whnf);first|apply ω0|apply ω1|apply ω2|refine τ3 rfl ?_|refine τ4 rfl ?_|refine ⟨rfl,?_⟩|apply τa|refine τb rfl ?_|refine ⟨⟨by kernel_rfl,by kernel_rfl⟩,?_⟩|refine ⟨by decide,?_⟩|apply τt|apply τf))
      refine aop_tells rfl rfl (hp i hi) ⟨AVle.refl _, trivial⟩ fun nx' => ?_
      intro c h4; cases c
      · (repeat((conv=>whnf);first|apply ω0|apply ω1|apply ω2|refine τ3 rfl ?_|refine τ4 rfl ?_|refine ⟨rfl,?_⟩|apply τa|refine τb rfl ?_|refine ⟨⟨by kernel_rfl,by kernel_rfl⟩,?_⟩|refine ⟨by decide,?_⟩|apply τt|apply τf))
        refine back (i + 1, nx') ⟨by dsimp only; omega, fun j hj => ?_⟩ (by dsimp only; omega) (ele_mk rfl rfl ⟨AVle.refl _, AVle.refl _, AVle.refl _, le_int (wrap_succ (by dsimp only; omega)), trivial⟩)
        dsimp only at hj
        rcases Nat.lt_or_ge j i with h | h
        · exact h2 j h
        · obtain rfl : j = i := by omega
          exact h4.symm
      · (repeat((conv=>whnf);first|apply ω0|apply ω1|apply ω2|refine τ3 rfl ?_|refine τ4 rfl ?_|refine ⟨rfl,?_⟩|apply τa|refine τb rfl ?_|refine ⟨⟨by kernel_rfl,by kernel_rfl⟩,?_⟩|refine ⟨by decide,?_⟩|apply τt|apply τf))
        refine ret_tells rfl (le_int ?_)
        rw [idx_at rul0 hi h2 h4.symm]; rfl
theorem cntf_rul (l : List Rul) (p : Rul → Bool) (f : Nat) (hl : l.length ≤ 1000000000) (hp : ∀ i, i < l.length → Tells Tryz.prog f [rulA (l.getD i rul0)] (boolA (p (l.getD i rul0)))) :
    Tells Tryz.prog 99 [slOf 4 rulA rul0 l, fn0 f] (boolA (l.any p)) := by
  refine tells_of_aw Tryz.func99 rfl rfl fun nx => ?_
  (repeat((conv=>whnf);first|apply ω0|apply ω1|apply ω2|refine τ3 rfl ?_|refine τ4 rfl ?_|refine ⟨rfl,?_⟩|apply τa|refine τb rfl ?_|refine ⟨⟨by kernel_rfl,by kernel_rfl⟩,?_⟩|refine ⟨by decide,?_⟩|apply τt|apply τf))
  refine aop_tells rfl rfl (idxf_rul l p f hl hp) ⟨AVle.refl _, AVle.refl _, trivial⟩ fun nx' => ?_
  (repeat((conv=>whnf);first|apply ω0|apply ω1|apply ω2|refine τ3 rfl ?_|refine τ4 rfl ?_|refine ⟨rfl,?_⟩|apply τa|refine τb rfl ?_|refine ⟨⟨by kernel_rfl,by kernel_rfl⟩,?_⟩|refine ⟨by decide,?_⟩|apply τt|apply τf))
  intro c h; cases c
  all_goals
    (repeat((conv=>whnf);first|apply ω0|apply ω1|apply ω2|refine τ3 rfl ?_|refine τ4 rfl ?_|refine ⟨rfl,?_⟩|apply τa|refine τb rfl ?_|refine ⟨⟨by kernel_rfl,by kernel_rfl⟩,?_⟩|refine ⟨by decide,?_⟩|apply τt|apply τf))
    refine ret_tells rfl (le_bool ?_)
    rw [h, ← List.findIdx?_isSome]
    exact optI_nonneg _
end Go.Proofs.W

namespace Go.Proofs.W
open Go.Vl
set_option maxRecDepth 100000

/-- A table's row, that has no numbers. -/
def row1 (s : ByteArray) : AV := .ag [strA s, int (-1), int (-1), int (-1), int (-1), int (-1), int 0, int 0]
def badN (n : Int) : Bool := decide (n < -1) || decide (n > 1073741823)
theorem ranged1_spec (n : Int) : Tells Tryz.prog 107 [int n] (boolA (badN n)) := by
  refine tells_of_aw Tryz.func107 rfl rfl fun nx => ?_
  (repeat((conv=>whnf);first|apply ω0|apply ω1|apply ω2|refine τ3 rfl ?_|refine τ4 rfl ?_|refine ⟨rfl,?_⟩|apply τa|refine τb rfl ?_|refine ⟨⟨by kernel_rfl,by kernel_rfl⟩,?_⟩|refine ⟨by decide,?_⟩|apply τt|apply τf))
  intro c t1; cases c
  · (repeat((conv=>whnf);first|apply ω0|apply ω1|apply ω2|refine τ3 rfl ?_|refine τ4 rfl ?_|refine ⟨rfl,?_⟩|apply τa|refine τb rfl ?_|refine ⟨⟨by kernel_rfl,by kernel_rfl⟩,?_⟩|refine ⟨by decide,?_⟩|apply τt|apply τf))
    intro c t2; cases c
    · (repeat((conv=>whnf);first|apply ω0|apply ω1|apply ω2|refine τ3 rfl ?_|refine τ4 rfl ?_|refine ⟨rfl,?_⟩|apply τa|refine τb rfl ?_|refine ⟨⟨by kernel_rfl,by kernel_rfl⟩,?_⟩|refine ⟨by decide,?_⟩|apply τt|apply τf))
      exact ret_tells rfl (le_bool (by rw [badN, ← t1, ← t2]; rfl))
    · (repeat((conv=>whnf);first|apply ω0|apply ω1|apply ω2|refine τ3 rfl ?_|refine τ4 rfl ?_|refine ⟨rfl,?_⟩|apply τa|refine τb rfl ?_|refine ⟨⟨by kernel_rfl,by kernel_rfl⟩,?_⟩|refine ⟨by decide,?_⟩|apply τt|apply τf))
      exact ret_tells rfl (le_bool (by rw [badN, ← t1, ← t2]; rfl))
  · (repeat((conv=>whnf);first|apply ω0|apply ω1|apply ω2|refine τ3 rfl ?_|refine τ4 rfl ?_|refine ⟨rfl,?_⟩|apply τa|refine τb rfl ?_|refine ⟨⟨by kernel_rfl,by kernel_rfl⟩,?_⟩|refine ⟨by decide,?_⟩|apply τt|apply τf))
    exact ret_tells rfl (le_bool (by rw [badN, ← t1]; rfl))
theorem ranged_row1 (s : ByteArray) : Tells Tryz.prog 57 [row1 s] (boolA true) := by
  have hc := cntf_int [-1, -1, -1, -1, -1] badN 107 (by decide) (fun i _ => ranged1_spec _)
  rw [show [(-1 : Int), -1, -1, -1, -1].any badN = false by decide] at hc
  refine tells_of_aw Tryz.func57 rfl rfl fun nx => ?_
  ((repeat((conv=>whnf);first|apply ω0|apply ω2|refine τ3 rfl ?_|refine τ4 rfl ?_|refine ⟨rfl,?_⟩|apply τa|refine τb rfl ?_|refine ⟨⟨by kernel_rfl,by kernel_rfl⟩,?_⟩|refine ⟨by decide,?_⟩|apply τt|apply τf)); refine aw_region ?_; (repeat((conv=>whnf);first|apply ω0|apply ω2|refine τ3 rfl ?_|refine τ4 rfl ?_|refine ⟨rfl,?_⟩|apply τa|refine τb rfl ?_|refine ⟨⟨by kernel_rfl,by kernel_rfl⟩,?_⟩|refine ⟨by decide,?_⟩|apply τt|apply τf)))
  refine aw_freeze (n := 30) (nx := nx + 1) (nn := 1) (pm := []) (bx := []) (L := [(1, .rp [strA s, int (-1), int (-1), int (-1), int (-1), int (-1), int 0, int 0])]) (df := some []) [((0, nx), .c [strA s, int (-1), int (-1), int (-1), int (-1), int (-1), int 0, int 0])] rfl rfl rfl (List.Perm.refl _) (List.Sublist.refl _) ⟨Frz.bp (.head _) rfl, trivial⟩ ?_
  refine aw_regionY (fun n => match n with | 0 => true | _ => false) 2 ?_
  (repeat((conv=>whnf);first|apply ω0|apply ω1|apply ω2|refine τ3 rfl ?_|refine τ4 rfl ?_|refine ⟨rfl,?_⟩|apply τa|refine τb rfl ?_|refine ⟨⟨by kernel_rfl,by kernel_rfl⟩,?_⟩|refine ⟨by decide,?_⟩|apply τt|apply τf))
  refine aop_ahead (n := 5) (e := 3) (cs := [int (-1), int (-1), int (-1), int (-1), int (-1), int 0, int 0]) rfl rfl Tryz.underlying74 Tryz.underlying3 (by kernel_rfl) (by decide) (by decide) (by simp [int, AV.cells]) ?_
  (repeat((conv=>whnf);first|apply ω0|apply ω1|apply ω2|refine τ3 rfl ?_|refine τ4 rfl ?_|refine ⟨rfl,?_⟩|apply τa|refine τb rfl ?_|refine ⟨⟨by kernel_rfl,by kernel_rfl⟩,?_⟩|refine ⟨by decide,?_⟩|apply τt|apply τf))
  refine aop_tells rfl rfl hc ⟨AVle.sl_fun fun k hk => ?_, AVle.refl _, trivial⟩ fun nx1 => ?_
  · match k, hk with
    | 0, _ | 1, _ | 2, _ | 3, _ | 4, _ => rfl
  (repeat((conv=>whnf);first|apply ω0|apply ω1|apply ω2|refine τ3 rfl ?_|refine τ4 rfl ?_|refine ⟨rfl,?_⟩|apply τa|refine τb rfl ?_|refine ⟨⟨by kernel_rfl,by kernel_rfl⟩,?_⟩|refine ⟨by decide,?_⟩|apply τt|apply τf))
  exact ret_tells rfl (AVle.refl _)
def m1A : AV := .ag [int (-1), int (-1), int (-1), int (-1), int (-1)]
set_option maxHeartbeats 1000000 in
theorem tabRight_row1 (s : ByteArray) (hs : s.size ≤ 9223372036854775807) (b : Bool) (hb : nameB s.data.toList = b) : Tells Tryz.prog 23 [.sl 8 1 (fun _ => row1 s)] (.tup [int 0, int (if b then 0 else 13)]) := by
  have hn := named_spec s hs
  rw [hb] at hn
  have hr := ranged_row1 s
  refine tells_of_aw Tryz.func23 rfl rfl fun nx => ?_
  (repeat((conv=>whnf);first|apply ω0|apply ω1|apply ω2|refine τ3 rfl ?_|refine τ4 rfl ?_|refine ⟨rfl,?_⟩|apply τa|refine τb rfl ?_|refine ⟨⟨by kernel_rfl,by kernel_rfl⟩,?_⟩|refine ⟨by decide,?_⟩|apply τt|apply τf))
  refine aw_loop (fun y : Bool × Nat => mk 88 [(2, int 0), (3, int 0), (14, .sl 8 1 (fun _ => row1 s)), (15, int 1), (16, int (bif y.1 then 1 else 0))] ⟨[], [], y.2, 0⟩) (fun y => y.1 = true → b = true) (fun y => if y.1 then 0 else 1) ?_ ?_
  · exact ⟨(false, nx + 1), (fun h => by cases h), ele_tell (pm := []) [] [] rfl rfl (List.nil_sublist _) (List.Sublist.refl _) trivial trivial ⟨AVle.refl _, AVle.refl _, AVle.refl _, AVle.refl _, AVle.refl _, trivial⟩⟩
  · rintro ⟨y, nx1⟩ hy
    cases y
    · (repeat((conv=>whnf);first|apply ω0|apply ω1|apply ω2|refine τ3 rfl ?_|refine τ4 rfl ?_|refine ⟨rfl,?_⟩|apply τa|refine τb rfl ?_|refine ⟨⟨by kernel_rfl,by kernel_rfl⟩,?_⟩|refine ⟨by decide,?_⟩|apply τt|apply τf))
      refine ⟨⟨by show (0 : Int) ≤ 0; decide, by show (0 : Int) < 1; decide⟩, ?_⟩
      (repeat((conv=>whnf);first|apply ω0|apply ω1|apply ω2|refine τ3 rfl ?_|refine τ4 rfl ?_|refine ⟨rfl,?_⟩|apply τa|refine τb rfl ?_|refine ⟨⟨by kernel_rfl,by kernel_rfl⟩,?_⟩|refine ⟨by decide,?_⟩|apply τt|apply τf))
      refine aop_tells rfl rfl hn ⟨AVle.refl _, trivial⟩ fun nx2 => ?_
      cases b
      · (repeat((conv=>whnf);first|apply ω0|apply ω1|apply ω2|refine τ3 rfl ?_|refine τ4 rfl ?_|refine ⟨rfl,?_⟩|apply τa|refine τb rfl ?_|refine ⟨⟨by kernel_rfl,by kernel_rfl⟩,?_⟩|refine ⟨by decide,?_⟩|apply τt|apply τf))
        exact ret_tells rfl (AVle.refl _)
      · (repeat((conv=>whnf);first|apply ω0|apply ω1|apply ω2|refine τ3 rfl ?_|refine τ4 rfl ?_|refine ⟨rfl,?_⟩|apply τa|refine τb rfl ?_|refine ⟨⟨by kernel_rfl,by kernel_rfl⟩,?_⟩|refine ⟨by decide,?_⟩|apply τt|apply τf))
        (refine aw_draw 13 ?_ ?_ ?_ ?_; (· kernel_rfl); (· kernel_rfl); (· kernel_rfl))
        (repeat((conv=>whnf);first|apply ω0|apply ω1|apply ω2|refine τ3 rfl ?_|refine τ4 rfl ?_|refine ⟨rfl,?_⟩|apply τa|refine τb rfl ?_|refine ⟨⟨by kernel_rfl,by kernel_rfl⟩,?_⟩|refine ⟨by decide,?_⟩|apply τt|apply τf))
        refine aop_tells rfl rfl hr ⟨AVle.refl _, trivial⟩ fun nx3 => ?_
        (repeat((conv=>whnf);first|apply ω0|apply ω1|apply ω2|refine τ3 rfl ?_|refine τ4 rfl ?_|refine ⟨rfl,?_⟩|apply τa|refine τb rfl ?_|refine ⟨⟨by kernel_rfl,by kernel_rfl⟩,?_⟩|refine ⟨by decide,?_⟩|apply τt|apply τf))
        refine aw_loop (fun z : Nat × Nat => mk 88 [(2, int 0), (3, int 0), (5, int 0), (6, .bp (0, nx1) 0), (14, .sl 8 1 (fun _ => row1 s)), (15, int 1), (16, int 0), (59, m1A), (60, int z.1)] ⟨[((0, nx1), .c [strA s, int (-1), int (-1), int (-1), int (-1), int (-1), int 0, int 0])], [], z.2, 1⟩) (fun z => z.1 ≤ 5) (fun z => 5 - z.1) ?_ ?_
        · exact ⟨(0, nx3), Nat.zero_le _, ele_tell (pm := []) _ [] rfl rfl (List.Sublist.refl _) (List.Sublist.refl _) ⟨rfl, OwnLe.refl _, trivial⟩ trivial ⟨AVle.refl _, AVle.refl _, AVle.refl _, AVle.refl _, AVle.refl _, AVle.refl _, AVle.refl _, AVle.refl _, AVle.refl _, trivial⟩⟩
        · rintro ⟨k, nx4⟩ hk
          dsimp only at hk
          rcases k with _ | _ | _ | _ | _ | _ | k
          iterate 5
            · (repeat((conv=>whnf);first|apply ω0|apply ω1|apply ω2|refine τ3 rfl ?_|refine τ4 rfl ?_|refine ⟨rfl,?_⟩|apply τa|refine τb rfl ?_|refine ⟨⟨by kernel_rfl,by kernel_rfl⟩,?_⟩|refine ⟨by decide,?_⟩|apply τt|apply τf))
              refine back (_ + 1, nx4) (by dsimp only; omega) (by dsimp only; omega) (ele_tell (pm := []) _ [] rfl rfl (List.Sublist.refl _) (List.Sublist.refl _) ⟨rfl, OwnLe.refl _, trivial⟩ trivial ⟨AVle.refl _, AVle.refl _, AVle.refl _, AVle.refl _, AVle.refl _, AVle.refl _, AVle.refl _, AVle.refl _, AVle.refl _, trivial⟩)
          · (repeat((conv=>whnf);first|apply ω0|apply ω1|apply ω2|refine τ3 rfl ?_|refine τ4 rfl ?_|refine ⟨rfl,?_⟩|apply τa|refine τb rfl ?_|refine ⟨⟨by kernel_rfl,by kernel_rfl⟩,?_⟩|refine ⟨by decide,?_⟩|apply τt|apply τf))
            exact back (true, nx4) (fun _ => rfl) (by show 0 < 1; decide) (ele_tell (pm := []) [] [] rfl rfl (List.nil_sublist _) (List.Sublist.refl _) trivial trivial ⟨AVle.refl _, AVle.refl _, AVle.refl _, AVle.refl _, AVle.refl _, trivial⟩)
          · omega
    · have hbt := hy rfl
      rw [hbt]
      (repeat((conv=>whnf);first|apply ω0|apply ω1|apply ω2|refine τ3 rfl ?_|refine τ4 rfl ?_|refine ⟨rfl,?_⟩|apply τa|refine τb rfl ?_|refine ⟨⟨by kernel_rfl,by kernel_rfl⟩,?_⟩|refine ⟨by decide,?_⟩|apply τt|apply τf))
      exact ret_tells rfl (AVle.refl _)
end Go.Proofs.W

namespace Go.Proofs.W
open Go.Vl
set_option maxRecDepth 100000

/-- A row of a table. -/
structure TRow where
  name : ByteArray
  a0 : Int
  a1 : Int
  a2 : Int
  a3 : Int
  a4 : Int
  mux : Int
  sub : Int
def TRow.num (r : TRow) : Nat → Int
  | 0 => r.a0
  | 1 => r.a1
  | 2 => r.a2
  | 3 => r.a3
  | _ => r.a4
def trow0 : TRow := ⟨⟨#[]⟩, 0, 0, 0, 0, 0, 0, 0⟩
def trowC (r : TRow) : List AV := [strA r.name, int r.a0, int r.a1, int r.a2, int r.a3, int r.a4, int r.mux, int r.sub]
def trowA (r : TRow) : AV := .ag (trowC r)
def trows (l : List TRow) : AV := slOf 8 trowA trow0 l
def arr5 (r : TRow) : AV := .ag [int r.a0, int r.a1, int r.a2, int r.a3, int r.a4]
theorem pairT : PairT Tryz.prog 175 3 := ⟨by kernel_rfl, by kernel_rfl, by kernel_rfl, by kernel_rfl, fun _ => rfl, fun _ => rfl, fun _ _ => rfl⟩
theorem z_boolT : (Tryz.prog.info? 4).bind (·.zero) = some (.bool false) := by kernel_rfl
theorem met_spec (s nx nn : Nat) (es : List (Int × Int)) (a n : Int) :
    ECall Tryz.prog 58 [.om (0, s), int a, int n] ⟨[((0, s), .mp (es.map entA))], [], nx, 1⟩ fun r h' => ∃ nx' nn', r = boolA (decide ((a, n) ∈ es)) ∧ h' = ⟨[((0, s), .mp ((addA (a, n) es).map entA))], [], nx', nn'⟩ := by
  refine ECall.wk (ecall_of_aw Tryz.func58 rfl rfl ?_)
  ((repeat((conv=>whnf);first|apply ω0|apply ω2|refine τ3 rfl ?_|refine τ4 rfl ?_|refine ⟨rfl,?_⟩|apply τa|refine τb rfl ?_|refine ⟨⟨by kernel_rfl,by kernel_rfl⟩,?_⟩|refine ⟨by decide,?_⟩|apply τt|apply τf)); refine aw_region ?_; (repeat((conv=>whnf);first|apply ω0|apply ω2|refine τ3 rfl ?_|refine τ4 rfl ?_|refine ⟨rfl,?_⟩|apply τa|refine τb rfl ?_|refine ⟨⟨by kernel_rfl,by kernel_rfl⟩,?_⟩|refine ⟨by decide,?_⟩|apply τt|apply τf)); refine aw_region ?_; (repeat((conv=>whnf);first|apply ω0|apply ω2|refine τ3 rfl ?_|refine τ4 rfl ?_|refine ⟨rfl,?_⟩|apply τa|refine τb rfl ?_|refine ⟨⟨by kernel_rfl,by kernel_rfl⟩,?_⟩|refine ⟨by decide,?_⟩|apply τt|apply τf)))
  refine AW.le (E' := mk 18 [(0, .om (0, s)), (6, boolA false), (7, .bp (1, nx) 0)] ⟨[((1, nx), .c [int a, int n]), ((0, s), .mp (es.map entA))], [], nx + 1, 2⟩) (ele_tell (pm := []) _ [] rfl rfl (List.Sublist.refl _) (List.Sublist.refl _) (BxLe.refl _) trivial ⟨AVle.refl _, AVle.refl _, AVle.refl _, trivial⟩) ?_
  (repeat((conv=>whnf);first|apply ω0|apply ω2|refine τ3 rfl ?_|refine τ4 rfl ?_|refine ⟨rfl,?_⟩|apply τa|refine τb rfl ?_|refine ⟨⟨by kernel_rfl,by kernel_rfl⟩,?_⟩|refine ⟨by decide,?_⟩|apply τt|apply τf))
  refine aw_regionY (fun i => match i with | 0 => true | _ => false) 3 ?_
  (repeat((conv=>whnf);first|apply ω0|apply ω1|apply ω2|refine τ3 rfl ?_|refine τ4 rfl ?_|refine ⟨rfl,?_⟩|apply τa|refine τb rfl ?_|refine ⟨⟨by kernel_rfl,by kernel_rfl⟩,?_⟩|refine ⟨by decide,?_⟩|apply τt|apply τf))
  refine splitO_eq (b := kA (a, n)) rfl ?_
  (conv => whnf)
  refine aop_lookupA (x := (a, n)) (i := (0, s)) (es := es) rfl Tryz.underlying109 pairT z_boolT rfl rfl rfl ?_
  (repeat((conv=>whnf);first|apply ω0|apply ω2|refine τ3 rfl ?_|refine τ4 rfl ?_|refine ⟨rfl,?_⟩|apply τa|refine τb rfl ?_|refine ⟨⟨by kernel_rfl,by kernel_rfl⟩,?_⟩|refine ⟨by decide,?_⟩|apply τt|apply τf))
  refine aw_regionY (fun i => match i with | 0 => true | _ => false) 3 ?_
  (repeat((conv=>whnf);first|apply ω0|apply ω1|apply ω2|refine τ3 rfl ?_|refine τ4 rfl ?_|refine ⟨rfl,?_⟩|apply τa|refine τb rfl ?_|refine ⟨⟨by kernel_rfl,by kernel_rfl⟩,?_⟩|refine ⟨by decide,?_⟩|apply τt|apply τf))
  refine splitO_eq (b := kA (a, n)) rfl ?_
  (conv => whnf)
  refine AOp.any (aop_updateA (x := (a, n)) (i := (0, s)) (es := es) (.inl rfl) Tryz.underlying109 pairT rfl rfl rfl rfl ?_)
  (repeat((conv=>whnf);first|apply ω0|apply ω1|apply ω2|refine τ3 rfl ?_|refine τ4 rfl ?_|refine ⟨rfl,?_⟩|apply τa|refine τb rfl ?_|refine ⟨⟨by kernel_rfl,by kernel_rfl⟩,?_⟩|refine ⟨by decide,?_⟩|apply τt|apply τf))
  exact ret_is rfl ⟨_, ⟨[((0, s), .mp ((addA (a, n) es).map entA))], [], nx + 1, 1⟩, AVle.refl _, hle_tell _ _ rfl (.cons _ (List.Sublist.refl _)) (List.Sublist.refl _) (BxLe.refl _) (PmEq.refl _), _, _, rfl, rfl⟩
def badR (r : TRow) : Bool := [r.a0, r.a1, r.a2, r.a3, r.a4].any badN
def rangedR (r : TRow) : Bool := !badR r && (if r.mux = 0 then decide (r.sub = 0) else (decide (r.mux = 1) || decide (r.mux = 2)) && decide (1 ≤ r.sub) && decide (r.sub ≤ 255))
theorem ranged_spec (r : TRow) : Tells Tryz.prog 57 [trowA r] (boolA (rangedR r)) := by
  have hc := cntf_int [r.a0, r.a1, r.a2, r.a3, r.a4] badN 107 (by show 5 ≤ _; decide) (fun i _ => ranged1_spec _)
  unfold rangedR
  have hb : badR r = [r.a0, r.a1, r.a2, r.a3, r.a4].any badN := rfl
  rw [← hb] at hc
  generalize badR r = b at hc
  obtain ⟨nm, a0, a1, a2, a3, a4, mux, sub⟩ := r
  dsimp only at hc ⊢
  refine tells_of_aw Tryz.func57 rfl rfl fun nx => ?_
  ((repeat((conv=>whnf);first|apply ω0|apply ω2|refine τ3 rfl ?_|refine τ4 rfl ?_|refine ⟨rfl,?_⟩|apply τa|refine τb rfl ?_|refine ⟨⟨by kernel_rfl,by kernel_rfl⟩,?_⟩|refine ⟨by decide,?_⟩|apply τt|apply τf)); refine aw_region ?_; (repeat((conv=>whnf);first|apply ω0|apply ω2|refine τ3 rfl ?_|refine τ4 rfl ?_|refine ⟨rfl,?_⟩|apply τa|refine τb rfl ?_|refine ⟨⟨by kernel_rfl,by kernel_rfl⟩,?_⟩|refine ⟨by decide,?_⟩|apply τt|apply τf)))
  refine aw_freeze (n := 30) (nx := nx + 1) (nn := 1) (pm := []) (bx := []) (L := [(1, .rp [strA nm, int a0, int a1, int a2, int a3, int a4, int mux, int sub])]) (df := some []) [((0, nx), .c [strA nm, int a0, int a1, int a2, int a3, int a4, int mux, int sub])] rfl rfl rfl (List.Perm.refl _) (List.Sublist.refl _) ⟨Frz.bp (.head _) rfl, trivial⟩ ?_
  refine aw_regionY (fun n => match n with | 0 => true | _ => false) 2 ?_
  (repeat((conv=>whnf);first|apply ω0|apply ω1|apply ω2|refine τ3 rfl ?_|refine τ4 rfl ?_|refine ⟨rfl,?_⟩|apply τa|refine τb rfl ?_|refine ⟨⟨by kernel_rfl,by kernel_rfl⟩,?_⟩|refine ⟨by decide,?_⟩|apply τt|apply τf))
  refine aop_ahead (n := 5) (e := 3) (cs := [int a0, int a1, int a2, int a3, int a4, int mux, int sub]) rfl rfl Tryz.underlying74 Tryz.underlying3 (by kernel_rfl) (by decide) (by show 5 * 1 ≤ 7; decide) (by simp [int, AV.cells]) ?_
  (repeat((conv=>whnf);first|apply ω0|apply ω1|apply ω2|refine τ3 rfl ?_|refine τ4 rfl ?_|refine ⟨rfl,?_⟩|apply τa|refine τb rfl ?_|refine ⟨⟨by kernel_rfl,by kernel_rfl⟩,?_⟩|refine ⟨by decide,?_⟩|apply τt|apply τf))
  refine aop_tells rfl rfl hc ⟨AVle.sl_fun fun k hk => ?_, AVle.refl _, trivial⟩ fun nx1 => ?_
  · match k, hk with
    | 0, _ | 1, _ | 2, _ | 3, _ | 4, _ => rfl
  cases b
  · (repeat((conv=>whnf);first|apply ω0|apply ω1|apply ω2|refine τ3 rfl ?_|refine τ4 rfl ?_|refine ⟨rfl,?_⟩|apply τa|refine τb rfl ?_|refine ⟨⟨by kernel_rfl,by kernel_rfl⟩,?_⟩|refine ⟨by decide,?_⟩|apply τt|apply τf))
    intro c g; cases c
    · have g : ¬ mux = 0 := fun h => by subst h; simp at g
      rw [if_neg g]
      (repeat((conv=>whnf);first|apply ω0|apply ω1|apply ω2|refine τ3 rfl ?_|refine τ4 rfl ?_|refine ⟨rfl,?_⟩|apply τa|refine τb rfl ?_|refine ⟨⟨by kernel_rfl,by kernel_rfl⟩,?_⟩|refine ⟨by decide,?_⟩|apply τt|apply τf))
      intro c t1; cases c
      · have t1 : decide (mux = 1) = false := decide_eq_false (by simpa using t1.symm)
        rw [t1]
        (repeat((conv=>whnf);first|apply ω0|apply ω1|apply ω2|refine τ3 rfl ?_|refine τ4 rfl ?_|refine ⟨rfl,?_⟩|apply τa|refine τb rfl ?_|refine ⟨⟨by kernel_rfl,by kernel_rfl⟩,?_⟩|refine ⟨by decide,?_⟩|apply τt|apply τf))
        intro c t2; cases c
        · have t2 : decide (mux = 2) = false := decide_eq_false (by simpa using t2.symm)
          rw [t2]
          (repeat((conv=>whnf);first|apply ω0|apply ω1|apply ω2|refine τ3 rfl ?_|refine τ4 rfl ?_|refine ⟨rfl,?_⟩|apply τa|refine τb rfl ?_|refine ⟨⟨by kernel_rfl,by kernel_rfl⟩,?_⟩|refine ⟨by decide,?_⟩|apply τt|apply τf))
          exact ret_tells rfl (AVle.refl _)
        · have t2 : decide (mux = 2) = true := decide_eq_true (by simpa using t2.symm)
          rw [t2]
          (repeat((conv=>whnf);first|apply ω0|apply ω1|apply ω2|refine τ3 rfl ?_|refine τ4 rfl ?_|refine ⟨rfl,?_⟩|apply τa|refine τb rfl ?_|refine ⟨⟨by kernel_rfl,by kernel_rfl⟩,?_⟩|refine ⟨by decide,?_⟩|apply τt|apply τf))
          intro c t3; cases c
          · (repeat((conv=>whnf);first|apply ω0|apply ω1|apply ω2|refine τ3 rfl ?_|refine τ4 rfl ?_|refine ⟨rfl,?_⟩|apply τa|refine τb rfl ?_|refine ⟨⟨by kernel_rfl,by kernel_rfl⟩,?_⟩|refine ⟨by decide,?_⟩|apply τt|apply τf))
            exact ret_tells rfl (le_bool (by rw [show decide (1 ≤ sub) = false from t3.symm]; rfl))
          · (repeat((conv=>whnf);first|apply ω0|apply ω1|apply ω2|refine τ3 rfl ?_|refine τ4 rfl ?_|refine ⟨rfl,?_⟩|apply τa|refine τb rfl ?_|refine ⟨⟨by kernel_rfl,by kernel_rfl⟩,?_⟩|refine ⟨by decide,?_⟩|apply τt|apply τf))
            intro c t4; cases c
            all_goals
              (repeat((conv=>whnf);first|apply ω0|apply ω1|apply ω2|refine τ3 rfl ?_|refine τ4 rfl ?_|refine ⟨rfl,?_⟩|apply τa|refine τb rfl ?_|refine ⟨⟨by kernel_rfl,by kernel_rfl⟩,?_⟩|refine ⟨by decide,?_⟩|apply τt|apply τf))
              exact ret_tells rfl (le_bool (t4.trans (by rw [show decide (1 ≤ sub) = true from t3.symm]; rfl)))
      · have t1 : decide (mux = 1) = true := decide_eq_true (by simpa using t1.symm)
        rw [t1]
        (repeat((conv=>whnf);first|apply ω0|apply ω1|apply ω2|refine τ3 rfl ?_|refine τ4 rfl ?_|refine ⟨rfl,?_⟩|apply τa|refine τb rfl ?_|refine ⟨⟨by kernel_rfl,by kernel_rfl⟩,?_⟩|refine ⟨by decide,?_⟩|apply τt|apply τf))
        intro c t3; cases c
        · (repeat((conv=>whnf);first|apply ω0|apply ω1|apply ω2|refine τ3 rfl ?_|refine τ4 rfl ?_|refine ⟨rfl,?_⟩|apply τa|refine τb rfl ?_|refine ⟨⟨by kernel_rfl,by kernel_rfl⟩,?_⟩|refine ⟨by decide,?_⟩|apply τt|apply τf))
          exact ret_tells rfl (le_bool (by rw [show decide (1 ≤ sub) = false from t3.symm]; rfl))
        · (repeat((conv=>whnf);first|apply ω0|apply ω1|apply ω2|refine τ3 rfl ?_|refine τ4 rfl ?_|refine ⟨rfl,?_⟩|apply τa|refine τb rfl ?_|refine ⟨⟨by kernel_rfl,by kernel_rfl⟩,?_⟩|refine ⟨by decide,?_⟩|apply τt|apply τf))
          intro c t4; cases c
          all_goals
            (repeat((conv=>whnf);first|apply ω0|apply ω1|apply ω2|refine τ3 rfl ?_|refine τ4 rfl ?_|refine ⟨rfl,?_⟩|apply τa|refine τb rfl ?_|refine ⟨⟨by kernel_rfl,by kernel_rfl⟩,?_⟩|refine ⟨by decide,?_⟩|apply τt|apply τf))
            exact ret_tells rfl (le_bool (t4.trans (by rw [show decide (1 ≤ sub) = true from t3.symm]; rfl)))
    · have g : mux = 0 := by simpa using g.symm
      rw [if_pos g]
      (repeat((conv=>whnf);first|apply ω0|apply ω1|apply ω2|refine τ3 rfl ?_|refine τ4 rfl ?_|refine ⟨rfl,?_⟩|apply τa|refine τb rfl ?_|refine ⟨⟨by kernel_rfl,by kernel_rfl⟩,?_⟩|refine ⟨by decide,?_⟩|apply τt|apply τf))
      intro c h; cases c
      all_goals
        (repeat((conv=>whnf);first|apply ω0|apply ω1|apply ω2|refine τ3 rfl ?_|refine τ4 rfl ?_|refine ⟨rfl,?_⟩|apply τa|refine τb rfl ?_|refine ⟨⟨by kernel_rfl,by kernel_rfl⟩,?_⟩|refine ⟨by decide,?_⟩|apply τt|apply τf))
        exact ret_tells rfl (le_bool (h.trans (by rw [Bool.eq_iff_iff]; simp)))
  · (repeat((conv=>whnf);first|apply ω0|apply ω1|apply ω2|refine τ3 rfl ?_|refine τ4 rfl ?_|refine ⟨rfl,?_⟩|apply τa|refine τb rfl ?_|refine ⟨⟨by kernel_rfl,by kernel_rfl⟩,?_⟩|refine ⟨by decide,?_⟩|apply τt|apply τf))
    exact ret_tells rfl (le_bool (by simp))
end Go.Proofs.W

namespace Go.Proofs.W
open Go.Vl
set_option maxRecDepth 100000

/-- A way of calling. -/
structure Inf where
  name : ByteArray
  token : Nat
  bit : Bool
  bits : Int
def inf0 : Inf := ⟨⟨#[]⟩, 0, false, 0⟩
def infC (i : Inf) : List AV := [strA i.name, u32 i.token, boolA i.bit, int i.bits]
def infA (i : Inf) : AV := .ag (infC i)
def infL : List Inf := [⟨⟨#[120, 56, 54, 95, 54, 52]⟩, 3221225534, false, 64⟩, ⟨⟨#[120, 51, 50]⟩, 3221225534, true, 64⟩, ⟨⟨#[105, 51, 56, 54]⟩, 1073741827, false, 32⟩, ⟨⟨#[97, 114, 109, 54, 52]⟩, 3221225655, false, 64⟩, ⟨⟨#[114, 105, 115, 99, 118, 54, 52]⟩, 3221225715, false, 64⟩]
def infN : List (Nat × Inf) := [(0, infL.getD 0 inf0), (1, infL.getD 1 inf0), (2, infL.getD 2 inf0), (3, infL.getD 3 inf0), (4, infL.getD 4 inf0)]
def infE (p : Nat × Inf) : List AV := [int p.1, infA p.2]
def infAll : AV := .ag (infL.flatMap infC)
theorem rows_iter : IterSpec Tryz.prog 157 [] [] infE infN := by
  intro i σ Cb Cp I J hc s0 nx nn h0
  refine ECall.wk (ecall_of_aw Tryz.func157 rfl rfl ?_)
  refine AW.le (E' := mk 22 [(0, .yl i)] ⟨Cb s0, Cp s0, nx, 0⟩) (ele_tell (bx := Cb s0) (pm := Cp s0) _ _ rfl rfl (List.Sublist.refl _) (List.Sublist.refl _) (BxLe.refl _) (PmEq.refl _) ⟨AVle.refl _, trivial⟩) ?_
  (repeat((conv=>whnf);first|apply ω0|apply ω1|apply ω2|refine τ3 rfl ?_|refine τ4 rfl ?_|refine ⟨rfl,?_⟩|apply τa|refine τb rfl ?_|refine ⟨⟨by kernel_rfl,by kernel_rfl⟩,?_⟩|refine ⟨by decide,?_⟩|apply τt|apply τf))
  refine AW.le (E' := mk 22 [(0, .yl i), (11, infAll), (12, int 0)] ⟨Cb s0, Cp s0, nx + 1, 0⟩) (ele_tell (bx := Cb s0) (pm := Cp s0) _ _ rfl rfl (.cons _ (List.Sublist.refl _)) (List.Sublist.refl _) (BxLe.refl _) (PmEq.refl _) ⟨AVle.refl _, AVle.refl _, AVle.refl _, trivial⟩) ?_
  refine aw_loop (fun y : Nat × σ × Nat => mk 22 [(0, .yl i), (11, infAll), (12, int y.1)] ⟨Cb y.2.1, Cp y.2.1, y.2.2, 0⟩) (fun y => y.1 ≤ 5 ∧ I (infN.take y.1) y.2.1) (fun y => 5 - y.1) ?_ ?_
  · exact ⟨(0, s0, nx + 1), ⟨Nat.zero_le _, h0⟩, ele_tell _ _ rfl rfl (List.Sublist.refl _) (List.Sublist.refl _) (BxLe.refl _) (PmEq.refl _) ⟨AVle.refl _, AVle.refl _, AVle.refl _, trivial⟩⟩
  · rintro ⟨k, s, nx1⟩ ⟨hk, hI⟩
    dsimp only at hk hI
    rcases k with _ | _ | _ | _ | _ | _ | k
    · (repeat((conv=>whnf);first|apply ω0|apply ω1|apply ω2|refine τ3 rfl ?_|refine τ4 rfl ?_|refine ⟨rfl,?_⟩|apply τa|refine τb rfl ?_|refine ⟨⟨by kernel_rfl,by kernel_rfl⟩,?_⟩|refine ⟨by decide,?_⟩|apply τt|apply τf))
      refine aop_hand [((0, nx1), .c (infC (infL.getD 0 inf0)))] [] rfl rfl rfl hc (show infN = infN.take 0 ++ (0, infL.getD 0 inf0) :: infN.drop (0 + 1) from rfl) hI ⟨AVle.refl _, AVle.refl _, trivial⟩ (fun s' nx' hI' => ?_) (fun s' nx' hJ => ?_)
      · (repeat((conv=>whnf);first|apply ω0|apply ω1|apply ω2|refine τ3 rfl ?_|refine τ4 rfl ?_|refine ⟨rfl,?_⟩|apply τa|refine τb rfl ?_|refine ⟨⟨by kernel_rfl,by kernel_rfl⟩,?_⟩|refine ⟨by decide,?_⟩|apply τt|apply τf))
        exact back (0 + 1, s', nx') ⟨by dsimp only; omega, hI'⟩ (by dsimp only; omega) (ele_tell _ _ rfl rfl (.cons _ (List.Sublist.refl _)) (List.Sublist.refl _) (BxLe.refl _) (PmEq.refl _) ⟨AVle.refl _, AVle.refl _, AVle.refl _, trivial⟩)
      · (repeat((conv=>whnf);first|apply ω0|apply ω1|apply ω2|refine τ3 rfl ?_|refine τ4 rfl ?_|refine ⟨rfl,?_⟩|apply τa|refine τb rfl ?_|refine ⟨⟨by kernel_rfl,by kernel_rfl⟩,?_⟩|refine ⟨by decide,?_⟩|apply τt|apply τf))
        exact ret_is rfl ⟨_, ⟨Cb s', Cp s', nx', 0⟩, AVle.refl _, hle_tell _ _ rfl (.cons _ (List.Sublist.refl _)) (List.Sublist.refl _) (BxLe.refl _) (PmEq.refl _), s', .inr ⟨_, _, _, rfl, hJ⟩, rfl, rfl⟩
    · (repeat((conv=>whnf);first|apply ω0|apply ω1|apply ω2|refine τ3 rfl ?_|refine τ4 rfl ?_|refine ⟨rfl,?_⟩|apply τa|refine τb rfl ?_|refine ⟨⟨by kernel_rfl,by kernel_rfl⟩,?_⟩|refine ⟨by decide,?_⟩|apply τt|apply τf))
      refine aop_hand [((0, nx1), .c (infC (infL.getD 1 inf0)))] [] rfl rfl rfl hc (show infN = infN.take 1 ++ (1, infL.getD 1 inf0) :: infN.drop (1 + 1) from rfl) hI ⟨AVle.refl _, AVle.refl _, trivial⟩ (fun s' nx' hI' => ?_) (fun s' nx' hJ => ?_)
      · (repeat((conv=>whnf);first|apply ω0|apply ω1|apply ω2|refine τ3 rfl ?_|refine τ4 rfl ?_|refine ⟨rfl,?_⟩|apply τa|refine τb rfl ?_|refine ⟨⟨by kernel_rfl,by kernel_rfl⟩,?_⟩|refine ⟨by decide,?_⟩|apply τt|apply τf))
        exact back (1 + 1, s', nx') ⟨by dsimp only; omega, hI'⟩ (by dsimp only; omega) (ele_tell _ _ rfl rfl (.cons _ (List.Sublist.refl _)) (List.Sublist.refl _) (BxLe.refl _) (PmEq.refl _) ⟨AVle.refl _, AVle.refl _, AVle.refl _, trivial⟩)
      · (repeat((conv=>whnf);first|apply ω0|apply ω1|apply ω2|refine τ3 rfl ?_|refine τ4 rfl ?_|refine ⟨rfl,?_⟩|apply τa|refine τb rfl ?_|refine ⟨⟨by kernel_rfl,by kernel_rfl⟩,?_⟩|refine ⟨by decide,?_⟩|apply τt|apply τf))
        exact ret_is rfl ⟨_, ⟨Cb s', Cp s', nx', 0⟩, AVle.refl _, hle_tell _ _ rfl (.cons _ (List.Sublist.refl _)) (List.Sublist.refl _) (BxLe.refl _) (PmEq.refl _), s', .inr ⟨_, _, _, rfl, hJ⟩, rfl, rfl⟩
    · (repeat((conv=>whnf);first|apply ω0|apply ω1|apply ω2|refine τ3 rfl ?_|refine τ4 rfl ?_|refine ⟨rfl,?_⟩|apply τa|refine τb rfl ?_|refine ⟨⟨by kernel_rfl,by kernel_rfl⟩,?_⟩|refine ⟨by decide,?_⟩|apply τt|apply τf))
      refine aop_hand [((0, nx1), .c (infC (infL.getD 2 inf0)))] [] rfl rfl rfl hc (show infN = infN.take 2 ++ (2, infL.getD 2 inf0) :: infN.drop (2 + 1) from rfl) hI ⟨AVle.refl _, AVle.refl _, trivial⟩ (fun s' nx' hI' => ?_) (fun s' nx' hJ => ?_)
      · (repeat((conv=>whnf);first|apply ω0|apply ω1|apply ω2|refine τ3 rfl ?_|refine τ4 rfl ?_|refine ⟨rfl,?_⟩|apply τa|refine τb rfl ?_|refine ⟨⟨by kernel_rfl,by kernel_rfl⟩,?_⟩|refine ⟨by decide,?_⟩|apply τt|apply τf))
        exact back (2 + 1, s', nx') ⟨by dsimp only; omega, hI'⟩ (by dsimp only; omega) (ele_tell _ _ rfl rfl (.cons _ (List.Sublist.refl _)) (List.Sublist.refl _) (BxLe.refl _) (PmEq.refl _) ⟨AVle.refl _, AVle.refl _, AVle.refl _, trivial⟩)
      · (repeat((conv=>whnf);first|apply ω0|apply ω1|apply ω2|refine τ3 rfl ?_|refine τ4 rfl ?_|refine ⟨rfl,?_⟩|apply τa|refine τb rfl ?_|refine ⟨⟨by kernel_rfl,by kernel_rfl⟩,?_⟩|refine ⟨by decide,?_⟩|apply τt|apply τf))
        exact ret_is rfl ⟨_, ⟨Cb s', Cp s', nx', 0⟩, AVle.refl _, hle_tell _ _ rfl (.cons _ (List.Sublist.refl _)) (List.Sublist.refl _) (BxLe.refl _) (PmEq.refl _), s', .inr ⟨_, _, _, rfl, hJ⟩, rfl, rfl⟩
    · (repeat((conv=>whnf);first|apply ω0|apply ω1|apply ω2|refine τ3 rfl ?_|refine τ4 rfl ?_|refine ⟨rfl,?_⟩|apply τa|refine τb rfl ?_|refine ⟨⟨by kernel_rfl,by kernel_rfl⟩,?_⟩|refine ⟨by decide,?_⟩|apply τt|apply τf))
      refine aop_hand [((0, nx1), .c (infC (infL.getD 3 inf0)))] [] rfl rfl rfl hc (show infN = infN.take 3 ++ (3, infL.getD 3 inf0) :: infN.drop (3 + 1) from rfl) hI ⟨AVle.refl _, AVle.refl _, trivial⟩ (fun s' nx' hI' => ?_) (fun s' nx' hJ => ?_)
      · (repeat((conv=>whnf);first|apply ω0|apply ω1|apply ω2|refine τ3 rfl ?_|refine τ4 rfl ?_|refine ⟨rfl,?_⟩|apply τa|refine τb rfl ?_|refine ⟨⟨by kernel_rfl,by kernel_rfl⟩,?_⟩|refine ⟨by decide,?_⟩|apply τt|apply τf))
        exact back (3 + 1, s', nx') ⟨by dsimp only; omega, hI'⟩ (by dsimp only; omega) (ele_tell _ _ rfl rfl (.cons _ (List.Sublist.refl _)) (List.Sublist.refl _) (BxLe.refl _) (PmEq.refl _) ⟨AVle.refl _, AVle.refl _, AVle.refl _, trivial⟩)
      · (repeat((conv=>whnf);first|apply ω0|apply ω1|apply ω2|refine τ3 rfl ?_|refine τ4 rfl ?_|refine ⟨rfl,?_⟩|apply τa|refine τb rfl ?_|refine ⟨⟨by kernel_rfl,by kernel_rfl⟩,?_⟩|refine ⟨by decide,?_⟩|apply τt|apply τf))
        exact ret_is rfl ⟨_, ⟨Cb s', Cp s', nx', 0⟩, AVle.refl _, hle_tell _ _ rfl (.cons _ (List.Sublist.refl _)) (List.Sublist.refl _) (BxLe.refl _) (PmEq.refl _), s', .inr ⟨_, _, _, rfl, hJ⟩, rfl, rfl⟩
    · (repeat((conv=>whnf);first|apply ω0|apply ω1|apply ω2|refine τ3 rfl ?_|refine τ4 rfl ?_|refine ⟨rfl,?_⟩|apply τa|refine τb rfl ?_|refine ⟨⟨by kernel_rfl,by kernel_rfl⟩,?_⟩|refine ⟨by decide,?_⟩|apply τt|apply τf))
      refine aop_hand [((0, nx1), .c (infC (infL.getD 4 inf0)))] [] rfl rfl rfl hc (show infN = infN.take 4 ++ (4, infL.getD 4 inf0) :: infN.drop (4 + 1) from rfl) hI ⟨AVle.refl _, AVle.refl _, trivial⟩ (fun s' nx' hI' => ?_) (fun s' nx' hJ => ?_)
      · (repeat((conv=>whnf);first|apply ω0|apply ω1|apply ω2|refine τ3 rfl ?_|refine τ4 rfl ?_|refine ⟨rfl,?_⟩|apply τa|refine τb rfl ?_|refine ⟨⟨by kernel_rfl,by kernel_rfl⟩,?_⟩|refine ⟨by decide,?_⟩|apply τt|apply τf))
        exact back (4 + 1, s', nx') ⟨by dsimp only; omega, hI'⟩ (by dsimp only; omega) (ele_tell _ _ rfl rfl (.cons _ (List.Sublist.refl _)) (List.Sublist.refl _) (BxLe.refl _) (PmEq.refl _) ⟨AVle.refl _, AVle.refl _, AVle.refl _, trivial⟩)
      · (repeat((conv=>whnf);first|apply ω0|apply ω1|apply ω2|refine τ3 rfl ?_|refine τ4 rfl ?_|refine ⟨rfl,?_⟩|apply τa|refine τb rfl ?_|refine ⟨⟨by kernel_rfl,by kernel_rfl⟩,?_⟩|refine ⟨by decide,?_⟩|apply τt|apply τf))
        exact ret_is rfl ⟨_, ⟨Cb s', Cp s', nx', 0⟩, AVle.refl _, hle_tell _ _ rfl (.cons _ (List.Sublist.refl _)) (List.Sublist.refl _) (BxLe.refl _) (PmEq.refl _), s', .inr ⟨_, _, _, rfl, hJ⟩, rfl, rfl⟩
    · (repeat((conv=>whnf);first|apply ω0|apply ω1|apply ω2|refine τ3 rfl ?_|refine τ4 rfl ?_|refine ⟨rfl,?_⟩|apply τa|refine τb rfl ?_|refine ⟨⟨by kernel_rfl,by kernel_rfl⟩,?_⟩|refine ⟨by decide,?_⟩|apply τt|apply τf))
      exact ret_is rfl ⟨_, ⟨Cb s, Cp s, nx1, 0⟩, AVle.refl _, HLe.refl _, s, .inl hI, rfl, rfl⟩
    · omega
theorem abirows_spec : Tells Tryz.prog 108 [] (.fn (.func 157) [] []) := by
  refine tells_of_aw Tryz.func108 rfl rfl fun nx => ?_
  (repeat((conv=>whnf);first|apply ω0|apply ω1|apply ω2|refine τ3 rfl ?_|refine τ4 rfl ?_|refine ⟨rfl,?_⟩|apply τa|refine τb rfl ?_|refine ⟨⟨by kernel_rfl,by kernel_rfl⟩,?_⟩|refine ⟨by decide,?_⟩|apply τt|apply τf))
  exact ret_tells rfl (AVle.refl _)
theorem inf_cases {pre post : List (Nat × Inf)} {x : Nat × Inf} (h : infN = pre ++ x :: post) : (pre = infN.take 0 ∧ x = (0, infL.getD 0 inf0)) ∨ (pre = infN.take 1 ∧ x = (1, infL.getD 1 inf0)) ∨ (pre = infN.take 2 ∧ x = (2, infL.getD 2 inf0)) ∨ (pre = infN.take 3 ∧ x = (3, infL.getD 3 inf0)) ∨ (pre = infN.take 4 ∧ x = (4, infL.getD 4 inf0)) := by
  have hl : pre.length < 5 := by have := congrArg List.length h; simp [infN] at this; omega
  have hp : pre = infN.take pre.length := by rw [h]; simp
  have hx : infN[pre.length]? = some x := by rw [h]; simp
  rcases (by omega : pre.length = 0 ∨ pre.length = 1 ∨ pre.length = 2 ∨ pre.length = 3 ∨ pre.length = 4) with e | e | e | e | e
  all_goals rw [e] at hp hx
  · exact .inl ⟨hp, (Option.some.inj hx).symm⟩
  · exact .inr (.inl ⟨hp, (Option.some.inj hx).symm⟩)
  · exact .inr (.inr (.inl ⟨hp, (Option.some.inj hx).symm⟩))
  · exact .inr (.inr (.inr (.inl ⟨hp, (Option.some.inj hx).symm⟩)))
  · exact .inr (.inr (.inr (.inr ⟨hp, (Option.some.inj hx).symm⟩)))
def withB (num : Nat) : Bool := decide (num &&& 1073741824 ≠ 0) && decide (num ≠ 4294967295)
def selB (arch : Nat) (w : Bool) (x : Nat × Inf) : Bool := decide (x.2.token = arch) && ((decide (x.1 ≠ 0) && decide (x.1 ≠ 1)) || (x.2.bit == w))
def selA (arch num : Nat) : AV := match infN.find? (selB arch (withB num)) with
  | some x => .tup [int x.1, boolA true]
  | none => .tup [int 0, boolA false]
theorem sel_none {arch num : Nat} (h : ∀ y ∈ infN, selB arch (withB num) y = false) : selA arch num = .tup [int 0, boolA false] := by
  unfold selA
  rw [List.find?_eq_none.2 (fun x hx => by rw [h x hx]; decide)]
theorem sel_some {arch num : Nat} {pre post : List (Nat × Inf)} {x : Nat × Inf} (hx : infN = pre ++ x :: post) (h : ∀ y ∈ pre, selB arch (withB num) y = false) (hs : selB arch (withB num) x = true) : selA arch num = .tup [int x.1, boolA true] := by
  unfold selA
  have : infN.find? (selB arch (withB num)) = some x := by
    rw [hx, List.find?_append, List.find?_eq_none.2 (fun y hy => by rw [h y hy]; decide), List.find?_cons, hs]; rfl
  rw [this]
theorem and32 {a b : Nat} (ha : a < 4294967296) (hb : b < 4294967296) : bitsI .and .u32 (a : Int) (b : Int) = ((a &&& b : Nat) : Int) :=
  bits_and (k := .u32) ha hb (by
    have : a &&& b ≤ a := Nat.and_le_left
    simp [IntKind.wrap, IntKind.signed, IntKind.bits] at this ⊢
    omega)
theorem sel_tok {arch : Nat} {w : Bool} {x : Nat × Inf} (h : false = ((x.2.token : Int) == (arch : Int))) : selB arch w x = false := by
  unfold selB
  rw [show decide (x.2.token = arch) = false from decide_eq_false (fun e => by rw [e] at h; simp at h)]; rfl
theorem sel_no {arch : Nat} {w : Bool} {x : Nat × Inf} (t : true = ((x.2.token : Int) == (arch : Int))) (h : ((decide (x.1 ≠ 0) && decide (x.1 ≠ 1)) || (x.2.bit == w)) = false) : selB arch w x = false := by
  unfold selB; rw [h, Bool.and_false]
theorem sel_yes {arch : Nat} {w : Bool} {x : Nat × Inf} (t : true = ((x.2.token : Int) == (arch : Int))) (h : ((decide (x.1 ≠ 0) && decide (x.1 ≠ 1)) || (x.2.bit == w)) = true) : selB arch w x = true := by
  unfold selB
  have e : x.2.token = arch := by have : (x.2.token : Int) = (arch : Int) := by simpa using t.symm
                                  omega
  rw [h, decide_eq_true e]; rfl
theorem sel_more {arch : Nat} {w : Bool} {x : Nat × Inf} {pre : List (Nat × Inf)} (h : ∀ z ∈ pre, selB arch w z = false) (hx : selB arch w x = false) : ∀ z ∈ pre ++ [x], selB arch w z = false := fun z hz => by
  rcases List.mem_append.1 hz with q | q
  · exact h z q
  · rw [List.mem_singleton.1 q]; exact hx
set_option maxHeartbeats 4000000 in
theorem select_spec (arch num : Nat) (ha : arch < 4294967296) (hn : num < 4294967296) : Tells Tryz.prog 59 [u32 arch, u32 num] (selA arch num) := by
  refine tells_of_aw Tryz.func59 rfl rfl fun nx => ?_
  ((repeat((conv=>whnf);first|apply ω0|apply ω2|refine τ3 rfl ?_|refine τ4 rfl ?_|refine ⟨rfl,?_⟩|apply τa|refine τb rfl ?_|refine ⟨⟨by kernel_rfl,by kernel_rfl⟩,?_⟩|refine ⟨by decide,?_⟩|apply τt|apply τf)); refine aw_region ?_; (repeat((conv=>whnf);first|apply ω0|apply ω2|refine τ3 rfl ?_|refine τ4 rfl ?_|refine ⟨rfl,?_⟩|apply τa|refine τb rfl ?_|refine ⟨⟨by kernel_rfl,by kernel_rfl⟩,?_⟩|refine ⟨by decide,?_⟩|apply τt|apply τf)))
  refine aw_mid (fun y : Nat => mk 38 [(2, .bp (0, nx) 0), (4, .bp (1, nx + 1) 0), (5, .bp (2, nx + 2) 0), (6, .bp (3, nx + 3) 0)] ⟨[((3, nx + 3), .c [boolA (withB num)]), ((2, nx + 2), .c [boolA false]), ((1, nx + 1), .c [int 0]), ((0, nx), .c [u32 arch])], [], y, 4⟩) (fun _ => True) ?_ ?_
  · have hw : withB num = (decide (num &&& 1073741824 ≠ 0) && decide (num ≠ 4294967295)) := rfl
    (repeat((conv=>whnf);first|apply ω0|apply ω1|apply ω2|refine τ3 rfl ?_|refine τ4 rfl ?_|refine ⟨rfl,?_⟩|apply τa|refine τb rfl ?_|refine ⟨⟨by kernel_rfl,by kernel_rfl⟩,?_⟩|refine ⟨by decide,?_⟩|apply τt|apply τf))
    intro c hc
    have hc2 : c = decide (num &&& 1073741824 ≠ 0) := by
      rw [hc]
      show (bitsI .and .u32 (num : Int) ((1073741824 : Nat) : Int) != 0) = _
      rw [and32 hn (by decide), Bool.eq_iff_iff]
      simp
    clear hc
    rw [← hc2] at hw
    clear hc2
    cases c
    · rw [hw]
      (repeat((conv=>whnf);first|apply ω0|apply ω1|apply ω2|refine τ3 rfl ?_|refine τ4 rfl ?_|refine ⟨rfl,?_⟩|apply τa|refine τb rfl ?_|refine ⟨⟨by kernel_rfl,by kernel_rfl⟩,?_⟩|refine ⟨by decide,?_⟩|apply τt|apply τf))
      exact ⟨nx + 4, trivial, ele_tell (pm := []) _ [] rfl rfl (List.Sublist.refl _) (List.Sublist.refl _) (BxLe.refl _) trivial ⟨AVle.refl _, AVle.refl _, AVle.refl _, AVle.refl _, trivial⟩⟩
    · rw [Bool.true_and] at hw
      (repeat((conv=>whnf);first|apply ω0|apply ω1|apply ω2|refine τ3 rfl ?_|refine τ4 rfl ?_|refine ⟨rfl,?_⟩|apply τa|refine τb rfl ?_|refine ⟨⟨by kernel_rfl,by kernel_rfl⟩,?_⟩|refine ⟨by decide,?_⟩|apply τt|apply τf))
      intro c hc
      have hc2 : c = withB num := by
        rw [hw, hc, Bool.eq_iff_iff]
        simp
        omega
      rw [← hc2]
      clear hc hc2 hw
      cases c
      all_goals
        (repeat((conv=>whnf);first|apply ω0|apply ω1|apply ω2|refine τ3 rfl ?_|refine τ4 rfl ?_|refine ⟨rfl,?_⟩|apply τa|refine τb rfl ?_|refine ⟨⟨by kernel_rfl,by kernel_rfl⟩,?_⟩|refine ⟨by decide,?_⟩|apply τt|apply τf))
        exact ⟨nx + 4, trivial, ele_tell (pm := []) _ [] rfl rfl (List.Sublist.refl _) (List.Sublist.refl _) (BxLe.refl _) trivial ⟨AVle.refl _, AVle.refl _, AVle.refl _, AVle.refl _, trivial⟩⟩
  · rintro nx2 -
    (repeat((conv=>whnf);first|apply ω0|apply ω1|apply ω2|refine τ3 rfl ?_|refine τ4 rfl ?_|refine ⟨rfl,?_⟩|apply τa|refine τb rfl ?_|refine ⟨⟨by kernel_rfl,by kernel_rfl⟩,?_⟩|refine ⟨by decide,?_⟩|apply τt|apply τf))
    refine aop_tells rfl rfl abirows_spec trivial fun nx3 => ?_
    (repeat((conv=>whnf);first|apply ω0|apply ω1|apply ω2|refine τ3 rfl ?_|refine τ4 rfl ?_|refine ⟨rfl,?_⟩|apply τa|refine τb rfl ?_|refine ⟨⟨by kernel_rfl,by kernel_rfl⟩,?_⟩|refine ⟨by decide,?_⟩|apply τt|apply τf))
    refine AW.le (E' := mk 38 [(2, .bp (0, nx) 0), (4, .bp (1, nx + 1) 0), (5, .bp (2, nx + 2) 0), (6, .bp (3, nx + 3) 0), (16, .fn (.func 157) [] [])] ⟨[((3, nx + 3), .c [boolA (withB num)]), ((2, nx + 2), .c [boolA false]), ((1, nx + 1), .c [int 0]), ((0, nx), .c [u32 arch])], [], nx3, 4⟩) (ele_tell _ _ rfl rfl (List.Sublist.refl _) (List.Sublist.refl _) (BxLe.refl _) (PmEq.refl _) ⟨AVle.refl _, AVle.refl _, AVle.refl _, AVle.refl _, AVle.refl _, trivial⟩) ?_
    generalize hw : withB num = w
    refine aw_forX (σ := Option Nat) (α := Nat × Inf) (e := infE) (xs := infN) (first' := []) (caps' := []) (fun y => [((3, nx + 3), .c [boolA (w)]), ((2, nx + 2), .c [boolA y.isSome]), ((1, nx + 1), .c [int (y.getD 0 : Nat)]), ((0, nx), .c [u32 arch])]) (fun _ => []) (fun pre y => y = none ∧ ∀ z ∈ pre, selB arch w z = false) (fun pre x y => y = some x.1 ∧ selB arch w x = true ∧ ∀ z ∈ pre, selB arch w z = false) none rfl rfl rows_iter trivial trivial rfl rfl ⟨rfl, fun z hz => by cases hz⟩ (fun _ => rfl) ?_ ?_ ?_
    · rintro pre x post s nx4 nn4 hx ⟨rfl, hI⟩
      rcases inf_cases hx with ⟨rfl, rfl⟩ | ⟨rfl, rfl⟩ | ⟨rfl, rfl⟩ | ⟨rfl, rfl⟩ | ⟨rfl, rfl⟩
      · refine AW.le (ele_drop (nn := 9) (List.Sublist.refl _) (List.Sublist.refl _)) ?_
        (repeat((conv=>whnf);first|apply ω0|apply ω1|apply ω2|refine τ3 rfl ?_|refine τ4 rfl ?_|refine ⟨rfl,?_⟩|apply τa|refine τb rfl ?_|refine ⟨⟨by kernel_rfl,by kernel_rfl⟩,?_⟩|refine ⟨by decide,?_⟩|apply τt|apply τf))
        intro c t1; cases c
        · (repeat((conv=>whnf);first|apply ω0|apply ω1|apply ω2|refine τ3 rfl ?_|refine τ4 rfl ?_|refine ⟨rfl,?_⟩|apply τa|refine τb rfl ?_|refine ⟨⟨by kernel_rfl,by kernel_rfl⟩,?_⟩|refine ⟨by decide,?_⟩|apply τt|apply τf))
          exact ⟨_, ⟨_, _, _, 0⟩, AVle.refl _, hle_tell _ _ rfl (.cons _ (List.Sublist.refl _)) (List.Sublist.refl _) (BxLe.refl _) (PmEq.refl _), .inl ⟨rfl, none, ⟨rfl, sel_more hI (sel_tok t1)⟩, rfl, rfl⟩⟩
        · cases w
          · (repeat((conv=>whnf);first|apply ω0|apply ω1|apply ω2|refine τ3 rfl ?_|refine τ4 rfl ?_|refine ⟨rfl,?_⟩|apply τa|refine τb rfl ?_|refine ⟨⟨by kernel_rfl,by kernel_rfl⟩,?_⟩|refine ⟨by decide,?_⟩|apply τt|apply τf))
            exact ⟨_, ⟨_, _, _, 0⟩, AVle.refl _, hle_tell _ _ rfl (.cons _ (List.Sublist.refl _)) (List.Sublist.refl _) (BxLe.refl _) (PmEq.refl _), .inr ⟨rfl, some 0, ⟨rfl, sel_yes t1 rfl, hI⟩, rfl, rfl⟩⟩
          · (repeat((conv=>whnf);first|apply ω0|apply ω1|apply ω2|refine τ3 rfl ?_|refine τ4 rfl ?_|refine ⟨rfl,?_⟩|apply τa|refine τb rfl ?_|refine ⟨⟨by kernel_rfl,by kernel_rfl⟩,?_⟩|refine ⟨by decide,?_⟩|apply τt|apply τf))
            exact ⟨_, ⟨_, _, _, 0⟩, AVle.refl _, hle_tell _ _ rfl (.cons _ (List.Sublist.refl _)) (List.Sublist.refl _) (BxLe.refl _) (PmEq.refl _), .inl ⟨rfl, none, ⟨rfl, sel_more hI (sel_no t1 rfl)⟩, rfl, rfl⟩⟩
      · refine AW.le (ele_drop (nn := 9) (List.Sublist.refl _) (List.Sublist.refl _)) ?_
        (repeat((conv=>whnf);first|apply ω0|apply ω1|apply ω2|refine τ3 rfl ?_|refine τ4 rfl ?_|refine ⟨rfl,?_⟩|apply τa|refine τb rfl ?_|refine ⟨⟨by kernel_rfl,by kernel_rfl⟩,?_⟩|refine ⟨by decide,?_⟩|apply τt|apply τf))
        intro c t1; cases c
        · (repeat((conv=>whnf);first|apply ω0|apply ω1|apply ω2|refine τ3 rfl ?_|refine τ4 rfl ?_|refine ⟨rfl,?_⟩|apply τa|refine τb rfl ?_|refine ⟨⟨by kernel_rfl,by kernel_rfl⟩,?_⟩|refine ⟨by decide,?_⟩|apply τt|apply τf))
          exact ⟨_, ⟨_, _, _, 0⟩, AVle.refl _, hle_tell _ _ rfl (.cons _ (List.Sublist.refl _)) (List.Sublist.refl _) (BxLe.refl _) (PmEq.refl _), .inl ⟨rfl, none, ⟨rfl, sel_more hI (sel_tok t1)⟩, rfl, rfl⟩⟩
        · cases w
          · (repeat((conv=>whnf);first|apply ω0|apply ω1|apply ω2|refine τ3 rfl ?_|refine τ4 rfl ?_|refine ⟨rfl,?_⟩|apply τa|refine τb rfl ?_|refine ⟨⟨by kernel_rfl,by kernel_rfl⟩,?_⟩|refine ⟨by decide,?_⟩|apply τt|apply τf))
            exact ⟨_, ⟨_, _, _, 0⟩, AVle.refl _, hle_tell _ _ rfl (.cons _ (List.Sublist.refl _)) (List.Sublist.refl _) (BxLe.refl _) (PmEq.refl _), .inl ⟨rfl, none, ⟨rfl, sel_more hI (sel_no t1 rfl)⟩, rfl, rfl⟩⟩
          · (repeat((conv=>whnf);first|apply ω0|apply ω1|apply ω2|refine τ3 rfl ?_|refine τ4 rfl ?_|refine ⟨rfl,?_⟩|apply τa|refine τb rfl ?_|refine ⟨⟨by kernel_rfl,by kernel_rfl⟩,?_⟩|refine ⟨by decide,?_⟩|apply τt|apply τf))
            exact ⟨_, ⟨_, _, _, 0⟩, AVle.refl _, hle_tell _ _ rfl (.cons _ (List.Sublist.refl _)) (List.Sublist.refl _) (BxLe.refl _) (PmEq.refl _), .inr ⟨rfl, some 1, ⟨rfl, sel_yes t1 rfl, hI⟩, rfl, rfl⟩⟩
      · refine AW.le (ele_drop (nn := 9) (List.Sublist.refl _) (List.Sublist.refl _)) ?_
        (repeat((conv=>whnf);first|apply ω0|apply ω1|apply ω2|refine τ3 rfl ?_|refine τ4 rfl ?_|refine ⟨rfl,?_⟩|apply τa|refine τb rfl ?_|refine ⟨⟨by kernel_rfl,by kernel_rfl⟩,?_⟩|refine ⟨by decide,?_⟩|apply τt|apply τf))
        intro c t1; cases c
        · (repeat((conv=>whnf);first|apply ω0|apply ω1|apply ω2|refine τ3 rfl ?_|refine τ4 rfl ?_|refine ⟨rfl,?_⟩|apply τa|refine τb rfl ?_|refine ⟨⟨by kernel_rfl,by kernel_rfl⟩,?_⟩|refine ⟨by decide,?_⟩|apply τt|apply τf))
          exact ⟨_, ⟨_, _, _, 0⟩, AVle.refl _, hle_tell _ _ rfl (.cons _ (List.Sublist.refl _)) (List.Sublist.refl _) (BxLe.refl _) (PmEq.refl _), .inl ⟨rfl, none, ⟨rfl, sel_more hI (sel_tok t1)⟩, rfl, rfl⟩⟩
        · cases w
          · (repeat((conv=>whnf);first|apply ω0|apply ω1|apply ω2|refine τ3 rfl ?_|refine τ4 rfl ?_|refine ⟨rfl,?_⟩|apply τa|refine τb rfl ?_|refine ⟨⟨by kernel_rfl,by kernel_rfl⟩,?_⟩|refine ⟨by decide,?_⟩|apply τt|apply τf))
            exact ⟨_, ⟨_, _, _, 0⟩, AVle.refl _, hle_tell _ _ rfl (.cons _ (List.Sublist.refl _)) (List.Sublist.refl _) (BxLe.refl _) (PmEq.refl _), .inr ⟨rfl, some 2, ⟨rfl, sel_yes t1 rfl, hI⟩, rfl, rfl⟩⟩
          · (repeat((conv=>whnf);first|apply ω0|apply ω1|apply ω2|refine τ3 rfl ?_|refine τ4 rfl ?_|refine ⟨rfl,?_⟩|apply τa|refine τb rfl ?_|refine ⟨⟨by kernel_rfl,by kernel_rfl⟩,?_⟩|refine ⟨by decide,?_⟩|apply τt|apply τf))
            exact ⟨_, ⟨_, _, _, 0⟩, AVle.refl _, hle_tell _ _ rfl (.cons _ (List.Sublist.refl _)) (List.Sublist.refl _) (BxLe.refl _) (PmEq.refl _), .inr ⟨rfl, some 2, ⟨rfl, sel_yes t1 rfl, hI⟩, rfl, rfl⟩⟩
      · refine AW.le (ele_drop (nn := 9) (List.Sublist.refl _) (List.Sublist.refl _)) ?_
        (repeat((conv=>whnf);first|apply ω0|apply ω1|apply ω2|refine τ3 rfl ?_|refine τ4 rfl ?_|refine ⟨rfl,?_⟩|apply τa|refine τb rfl ?_|refine ⟨⟨by kernel_rfl,by kernel_rfl⟩,?_⟩|refine ⟨by decide,?_⟩|apply τt|apply τf))
        intro c t1; cases c
        · (repeat((conv=>whnf);first|apply ω0|apply ω1|apply ω2|refine τ3 rfl ?_|refine τ4 rfl ?_|refine ⟨rfl,?_⟩|apply τa|refine τb rfl ?_|refine ⟨⟨by kernel_rfl,by kernel_rfl⟩,?_⟩|refine ⟨by decide,?_⟩|apply τt|apply τf))
          exact ⟨_, ⟨_, _, _, 0⟩, AVle.refl _, hle_tell _ _ rfl (.cons _ (List.Sublist.refl _)) (List.Sublist.refl _) (BxLe.refl _) (PmEq.refl _), .inl ⟨rfl, none, ⟨rfl, sel_more hI (sel_tok t1)⟩, rfl, rfl⟩⟩
        · cases w
          · (repeat((conv=>whnf);first|apply ω0|apply ω1|apply ω2|refine τ3 rfl ?_|refine τ4 rfl ?_|refine ⟨rfl,?_⟩|apply τa|refine τb rfl ?_|refine ⟨⟨by kernel_rfl,by kernel_rfl⟩,?_⟩|refine ⟨by decide,?_⟩|apply τt|apply τf))
            exact ⟨_, ⟨_, _, _, 0⟩, AVle.refl _, hle_tell _ _ rfl (.cons _ (List.Sublist.refl _)) (List.Sublist.refl _) (BxLe.refl _) (PmEq.refl _), .inr ⟨rfl, some 3, ⟨rfl, sel_yes t1 rfl, hI⟩, rfl, rfl⟩⟩
          · (repeat((conv=>whnf);first|apply ω0|apply ω1|apply ω2|refine τ3 rfl ?_|refine τ4 rfl ?_|refine ⟨rfl,?_⟩|apply τa|refine τb rfl ?_|refine ⟨⟨by kernel_rfl,by kernel_rfl⟩,?_⟩|refine ⟨by decide,?_⟩|apply τt|apply τf))
            exact ⟨_, ⟨_, _, _, 0⟩, AVle.refl _, hle_tell _ _ rfl (.cons _ (List.Sublist.refl _)) (List.Sublist.refl _) (BxLe.refl _) (PmEq.refl _), .inr ⟨rfl, some 3, ⟨rfl, sel_yes t1 rfl, hI⟩, rfl, rfl⟩⟩
      · refine AW.le (ele_drop (nn := 9) (List.Sublist.refl _) (List.Sublist.refl _)) ?_
        (repeat((conv=>whnf);first|apply ω0|apply ω1|apply ω2|refine τ3 rfl ?_|refine τ4 rfl ?_|refine ⟨rfl,?_⟩|apply τa|refine τb rfl ?_|refine ⟨⟨by kernel_rfl,by kernel_rfl⟩,?_⟩|refine ⟨by decide,?_⟩|apply τt|apply τf))
        intro c t1; cases c
        · (repeat((conv=>whnf);first|apply ω0|apply ω1|apply ω2|refine τ3 rfl ?_|refine τ4 rfl ?_|refine ⟨rfl,?_⟩|apply τa|refine τb rfl ?_|refine ⟨⟨by kernel_rfl,by kernel_rfl⟩,?_⟩|refine ⟨by decide,?_⟩|apply τt|apply τf))
          exact ⟨_, ⟨_, _, _, 0⟩, AVle.refl _, hle_tell _ _ rfl (.cons _ (List.Sublist.refl _)) (List.Sublist.refl _) (BxLe.refl _) (PmEq.refl _), .inl ⟨rfl, none, ⟨rfl, sel_more hI (sel_tok t1)⟩, rfl, rfl⟩⟩
        · cases w
          · (repeat((conv=>whnf);first|apply ω0|apply ω1|apply ω2|refine τ3 rfl ?_|refine τ4 rfl ?_|refine ⟨rfl,?_⟩|apply τa|refine τb rfl ?_|refine ⟨⟨by kernel_rfl,by kernel_rfl⟩,?_⟩|refine ⟨by decide,?_⟩|apply τt|apply τf))
            exact ⟨_, ⟨_, _, _, 0⟩, AVle.refl _, hle_tell _ _ rfl (.cons _ (List.Sublist.refl _)) (List.Sublist.refl _) (BxLe.refl _) (PmEq.refl _), .inr ⟨rfl, some 4, ⟨rfl, sel_yes t1 rfl, hI⟩, rfl, rfl⟩⟩
          · (repeat((conv=>whnf);first|apply ω0|apply ω1|apply ω2|refine τ3 rfl ?_|refine τ4 rfl ?_|refine ⟨rfl,?_⟩|apply τa|refine τb rfl ?_|refine ⟨⟨by kernel_rfl,by kernel_rfl⟩,?_⟩|refine ⟨by decide,?_⟩|apply τt|apply τf))
            exact ⟨_, ⟨_, _, _, 0⟩, AVle.refl _, hle_tell _ _ rfl (.cons _ (List.Sublist.refl _)) (List.Sublist.refl _) (BxLe.refl _) (PmEq.refl _), .inr ⟨rfl, some 4, ⟨rfl, sel_yes t1 rfl, hI⟩, rfl, rfl⟩⟩
    · rintro s' nx4 nn4 ⟨rfl, hI⟩
      rw [sel_none (by rw [hw]; exact hI)]
      (repeat((conv=>whnf);first|apply ω0|apply ω1|apply ω2|refine τ3 rfl ?_|refine τ4 rfl ?_|refine ⟨rfl,?_⟩|apply τa|refine τb rfl ?_|refine ⟨⟨by kernel_rfl,by kernel_rfl⟩,?_⟩|refine ⟨by decide,?_⟩|apply τt|apply τf))
      exact ret_tells_all rfl ⟨⟨rfl, Nat.le_of_ble_eq_true rfl⟩, ⟨rfl, Nat.le_of_ble_eq_true rfl⟩, trivial⟩ (AVle.refl _)
    · rintro pre x post s' nx4 nn4 hx ⟨rfl, h1, h2⟩
      rw [sel_some hx (by rw [hw]; exact h2) (by rw [hw]; exact h1)]
      (repeat((conv=>whnf);first|apply ω0|apply ω1|apply ω2|refine τ3 rfl ?_|refine τ4 rfl ?_|refine ⟨rfl,?_⟩|apply τa|refine τb rfl ?_|refine ⟨⟨by kernel_rfl,by kernel_rfl⟩,?_⟩|refine ⟨by decide,?_⟩|apply τt|apply τf))
      exact ret_tells_all rfl ⟨⟨rfl, Nat.le_of_ble_eq_true rfl⟩, ⟨rfl, Nat.le_of_ble_eq_true rfl⟩, trivial⟩ (AVle.refl _)
end Go.Proofs.W

namespace Go.Proofs.W
open Go.Vl
set_option maxRecDepth 100000

/-- A record. -/
structure Rec where
  num : Nat
  arch : Nat
  ptr : Nat
  a0 : Nat
  a1 : Nat
  a2 : Nat
  a3 : Nat
  a4 : Nat
  a5 : Nat
def Rec.ok (r : Rec) : Prop := r.num < 4294967296 ∧ r.arch < 4294967296 ∧ r.ptr < 18446744073709551616 ∧ r.a0 < 18446744073709551616 ∧ r.a1 < 18446744073709551616 ∧ r.a2 < 18446744073709551616 ∧ r.a3 < 18446744073709551616 ∧ r.a4 < 18446744073709551616 ∧ r.a5 < 18446744073709551616
def Rec.arg (r : Rec) : Nat → Nat
  | 0 => r.a0
  | 1 => r.a1
  | 2 => r.a2
  | 3 => r.a3
  | 4 => r.a4
  | _ => r.a5
def recC (r : Rec) : List AV := [u32 r.num, u32 r.arch, u64 r.ptr, u64 r.a0, u64 r.a1, u64 r.a2, u64 r.a3, u64 r.a4, u64 r.a5]
def recA (r : Rec) : AV := .ag (recC r)
theorem find_of {a : Nat} (h : a < 5) (hn : ∀ z ∈ infN, z.1 ≠ a) : False := by
  rcases (by omega : a = 0 ∨ a = 1 ∨ a = 2 ∨ a = 3 ∨ a = 4) with rfl | rfl | rfl | rfl | rfl
  · exact hn (0, infL.getD 0 inf0) (by simp [infN]) rfl
  · exact hn (1, infL.getD 1 inf0) (by simp [infN]) rfl
  · exact hn (2, infL.getD 2 inf0) (by simp [infN]) rfl
  · exact hn (3, infL.getD 3 inf0) (by simp [infN]) rfl
  · exact hn (4, infL.getD 4 inf0) (by simp [infN]) rfl
theorem of_no {k a : Nat} {pre : List (Nat × Inf)} {i : Inf} (h : ∀ z ∈ pre, z.1 ≠ a) (t : false = ((k : Int) == (a : Int))) : ∀ z ∈ pre ++ [(k, i)], z.1 ≠ a := fun z hz => by
  rcases List.mem_append.1 hz with q | q
  · exact h z q
  · rw [List.mem_singleton.1 q]
    intro e
    dsimp only at e
    subst e; simp at t
theorem of_yes {k a : Nat} (t : true = ((k : Int) == (a : Int))) : k = a := by
  have : (k : Int) = (a : Int) := by simpa using t.symm
  omega
set_option maxHeartbeats 4000000 in
theorem abiof_spec (a : Nat) (ha : a < 5) : Tells Tryz.prog 76 [int a] (.tup [infA (infL.getD a inf0), int 0]) := by
  refine tells_of_aw Tryz.func76 rfl rfl fun nx => ?_
  (repeat((conv=>whnf);first|apply ω0|apply ω1|apply ω2|refine τ3 rfl ?_|refine τ4 rfl ?_|refine ⟨rfl,?_⟩|apply τa|refine τb rfl ?_|refine ⟨⟨by kernel_rfl,by kernel_rfl⟩,?_⟩|refine ⟨by decide,?_⟩|apply τt|apply τf))
  refine aop_tells rfl rfl abirows_spec trivial fun nx3 => ?_
  (repeat((conv=>whnf);first|apply ω0|apply ω1|apply ω2|refine τ3 rfl ?_|refine τ4 rfl ?_|refine ⟨rfl,?_⟩|apply τa|refine τb rfl ?_|refine ⟨⟨by kernel_rfl,by kernel_rfl⟩,?_⟩|refine ⟨by decide,?_⟩|apply τt|apply τf))
  refine AW.le (E' := mk 14 [(1, .bp (0, nx) 0), (2, .bp (1, nx + 1) 0), (3, .bp (2, nx + 2) 0), (6, .fn (.func 157) [] [])] ⟨[((2, nx + 2), .c [int 0]), ((1, nx + 1), .c (infC inf0)), ((0, nx), .c [int a])], [], nx3, 3⟩) (ele_tell (pm := []) _ [] rfl rfl (List.Sublist.refl _) (List.Sublist.refl _) (BxLe.refl _) trivial ⟨AVle.refl _, AVle.refl _, AVle.refl _, AVle.refl _, trivial⟩) ?_
  refine aw_forX (σ := Option Nat) (α := Nat × Inf) (e := infE) (xs := infN) (first' := []) (caps' := []) (fun y => [((2, nx + 2), .c [int 0]), ((1, nx + 1), .c (infC (y.elim inf0 fun k => infL.getD k inf0))), ((0, nx), .c [int a])]) (fun _ => []) (fun pre y => y = none ∧ ∀ z ∈ pre, z.1 ≠ a) (fun pre x y => y = some a) none rfl rfl rows_iter trivial trivial rfl rfl ⟨rfl, fun z hz => by cases hz⟩ (fun _ => rfl) ?_ ?_ ?_
  · rintro pre x post s nx4 nn4 hx ⟨rfl, hI⟩
    rcases inf_cases hx with ⟨rfl, rfl⟩ | ⟨rfl, rfl⟩ | ⟨rfl, rfl⟩ | ⟨rfl, rfl⟩ | ⟨rfl, rfl⟩
    all_goals
      refine AW.le (ele_drop (nn := 9) (List.Sublist.refl _) (List.Sublist.refl _)) ?_
      (repeat((conv=>whnf);first|apply ω0|apply ω1|apply ω2|refine τ3 rfl ?_|refine τ4 rfl ?_|refine ⟨rfl,?_⟩|apply τa|refine τb rfl ?_|refine ⟨⟨by kernel_rfl,by kernel_rfl⟩,?_⟩|refine ⟨by decide,?_⟩|apply τt|apply τf))
      intro c t1; cases c
      · (repeat((conv=>whnf);first|apply ω0|apply ω1|apply ω2|refine τ3 rfl ?_|refine τ4 rfl ?_|refine ⟨rfl,?_⟩|apply τa|refine τb rfl ?_|refine ⟨⟨by kernel_rfl,by kernel_rfl⟩,?_⟩|refine ⟨by decide,?_⟩|apply τt|apply τf))
        exact ⟨_, ⟨_, _, _, 0⟩, AVle.refl _, hle_tell _ _ rfl (.cons _ (List.Sublist.refl _)) (List.Sublist.refl _) (BxLe.refl _) (PmEq.refl _), .inl ⟨rfl, none, ⟨rfl, of_no hI t1⟩, rfl, rfl⟩⟩
      · have e := of_yes t1
        clear t1
        subst e
        (repeat((conv=>whnf);first|apply ω0|apply ω1|apply ω2|refine τ3 rfl ?_|refine τ4 rfl ?_|refine ⟨rfl,?_⟩|apply τa|refine τb rfl ?_|refine ⟨⟨by kernel_rfl,by kernel_rfl⟩,?_⟩|refine ⟨by decide,?_⟩|apply τt|apply τf))
        exact ⟨_, ⟨_, _, _, 0⟩, AVle.refl _, hle_tell _ _ rfl (.cons _ (List.Sublist.refl _)) (List.Sublist.refl _) (BxLe.refl _) (PmEq.refl _), .inr ⟨rfl, some _, rfl, rfl, rfl⟩⟩
  · rintro s' nx4 nn4 ⟨rfl, hI⟩
    exact (find_of ha hI).elim
  · rintro pre x post s' nx4 nn4 hx rfl
    (repeat((conv=>whnf);first|apply ω0|apply ω1|apply ω2|refine τ3 rfl ?_|refine τ4 rfl ?_|refine ⟨rfl,?_⟩|apply τa|refine τb rfl ?_|refine ⟨⟨by kernel_rfl,by kernel_rfl⟩,?_⟩|refine ⟨by decide,?_⟩|apply τt|apply τf))
    exact ret_tells_all rfl ⟨rfl, ⟨rfl, Nat.le_of_ble_eq_true rfl⟩, trivial⟩ (AVle.refl _)
def arrA (f : Nat → Nat) : AV := .ag [u64 (f 0 : Nat), u64 (f 1 : Nat), u64 (f 2 : Nat), u64 (f 3 : Nat), u64 (f 4 : Nat), u64 (f 5 : Nat)]
/-- A record's arguments, as a way of calling sees them. -/
def argI (a : Nat) (r : Rec) (k : Nat) : Nat := if a = 2 then r.arg k % 4294967296 else r.arg k
theorem low32 {n : Nat} (h : n < 18446744073709551616) : IntKind.u64.wrap (IntKind.u32.wrap (n : Int)) = ((n % 4294967296 : Nat) : Int) := by
  simp [IntKind.wrap, IntKind.signed, IntKind.bits]; omega
theorem inf_bits {a : Nat} (h : a < 5) : ((infL.getD a inf0).bits == 32) = decide (a = 2) := by
  rcases (by omega : a = 0 ∨ a = 1 ∨ a = 2 ∨ a = 3 ∨ a = 4) with rfl | rfl | rfl | rfl | rfl <;> rfl
theorem c_u64 : Tryz.prog.cellsOf 27 = 1 := by kernel_rfl
def arrC (f : Nat → Nat) : List AV := [u64 (f 0 : Nat), u64 (f 1 : Nat), u64 (f 2 : Nat), u64 (f 3 : Nat), u64 (f 4 : Nat), u64 (f 5 : Nat)]
def lowK (k : Nat) (r : Rec) (j : Nat) : Nat := bif Nat.blt j k then r.arg j % 4294967296 else r.arg j
theorem le_arg {a : Nat} {r : Rec} (e : a = 2) (k : Nat) : AVle (u64 (r.arg k % 4294967296 : Nat)) (u64 (argI a r k : Nat)) := by
  unfold argI; rw [if_pos e]; exact AVle.refl _
set_option maxHeartbeats 4000000 in
theorem abiargs_spec (a : Nat) (ha : a < 5) (r : Rec) (hr : r.ok) : Tells Tryz.prog 66 [int a, recA r] (arrA (argI a r)) := by
  have hof := abiof_spec a ha
  have hbits := inf_bits ha
  obtain ⟨-, -, -, r0, r1, r2, r3, r4, r5⟩ := hr
  refine tells_of_aw Tryz.func66 rfl rfl fun nx => ?_
  (repeat((conv=>whnf);first|apply ω0|apply ω1|apply ω2|refine τ3 rfl ?_|refine τ4 rfl ?_|refine ⟨rfl,?_⟩|apply τa|refine τb rfl ?_|refine ⟨⟨by kernel_rfl,by kernel_rfl⟩,?_⟩|refine ⟨by decide,?_⟩|apply τt|apply τf))
  refine aop_tells rfl rfl hof ⟨AVle.refl _, trivial⟩ fun nx2 => ?_
  (repeat((conv=>whnf);first|apply ω0|apply ω1|apply ω2|refine τ3 rfl ?_|refine τ4 rfl ?_|refine ⟨rfl,?_⟩|apply τa|refine τb rfl ?_|refine ⟨⟨by kernel_rfl,by kernel_rfl⟩,?_⟩|refine ⟨by decide,?_⟩|apply τt|apply τf))
  intro c hc
  have hc2 : c = decide (a = 2) := hc.trans hbits
  clear hc
  cases c
  · have e : ¬ a = 2 := of_decide_eq_false hc2.symm
    have eA : argI a r = r.arg := by funext k; unfold argI; rw [if_neg e]
    rw [eA]
    (repeat((conv=>whnf);first|apply ω0|apply ω1|apply ω2|refine τ3 rfl ?_|refine τ4 rfl ?_|refine ⟨rfl,?_⟩|apply τa|refine τb rfl ?_|refine ⟨⟨by kernel_rfl,by kernel_rfl⟩,?_⟩|refine ⟨by decide,?_⟩|apply τt|apply τf))
    exact ret_tells_all rfl ⟨rfl, trivial⟩ (AVle.refl _)
  · have e : a = 2 := of_decide_eq_true hc2.symm
    (repeat((conv=>whnf);first|apply ω0|apply ω1|apply ω2|refine τ3 rfl ?_|refine τ4 rfl ?_|refine ⟨rfl,?_⟩|apply τa|refine τb rfl ?_|refine ⟨⟨by kernel_rfl,by kernel_rfl⟩,?_⟩|refine ⟨by decide,?_⟩|apply τt|apply τf))
    refine aw_loop (fun y : Nat × Nat => mk 35 [(3, .bp (0, nx) 0), (4, .bp (1, nx + 1) 0), (5, .bp (2, nx + 2) 0), (23, int y.1)] ⟨[((3, nx2), .c (infC (infL.getD a inf0))), ((2, nx + 2), .c (arrC (lowK y.1 r))), ((1, nx + 1), .c (arrC fun _ => 0)), ((0, nx), .c (recC r))], [], y.2, 4⟩) (fun y => y.1 ≤ 6) (fun y => 6 - y.1) ?_ ?_
    · exact ⟨(0, nx2 + 1), Nat.zero_le _, ele_tell (pm := []) _ [] rfl rfl (List.Sublist.refl _) (List.Sublist.refl _) ⟨rfl, OwnLe.refl _, rfl, ⟨AVle.refl _, AVle.refl _, AVle.refl _, AVle.refl _, AVle.refl _, AVle.refl _, trivial⟩, rfl, ⟨AVle.refl _, AVle.refl _, AVle.refl _, AVle.refl _, AVle.refl _, AVle.refl _, trivial⟩, BxLe.refl _⟩ trivial ⟨AVle.refl _, AVle.refl _, AVle.refl _, AVle.refl _, trivial⟩⟩
    · rintro ⟨k, nx3⟩ hk
      dsimp only at hk
      rcases k with _ | _ | _ | _ | _ | _ | _ | k
      · (repeat((conv=>whnf);first|apply ω0|apply ω1|apply ω2|refine τ3 rfl ?_|refine τ4 rfl ?_|refine ⟨rfl,?_⟩|apply τa|refine τb rfl ?_|refine ⟨⟨by kernel_rfl,by kernel_rfl⟩,?_⟩|refine ⟨by decide,?_⟩|apply τt|apply τf))
        refine ⟨⟨Int.natCast_nonneg _, show ((0 : Nat) : Int) < 6 by decide⟩, splitO_eq (b := .bp (2, nx + 2) 0) (congrArg (AV.bp (2, nx + 2)) (by rw [c_u64]; rfl)) ?_⟩
        (repeat((conv=>whnf);first|apply ω0|apply ω1|apply ω2|refine τ3 rfl ?_|refine τ4 rfl ?_|refine ⟨rfl,?_⟩|apply τa|refine τb rfl ?_|refine ⟨⟨by kernel_rfl,by kernel_rfl⟩,?_⟩|refine ⟨by decide,?_⟩|apply τt|apply τf))
        refine ⟨⟨Int.natCast_nonneg _, show ((0 : Nat) : Int) < 6 by decide⟩, splitO_eq (b := .bp (2, nx + 2) 0) (congrArg (AV.bp (2, nx + 2)) (by rw [c_u64]; rfl)) ?_⟩
        (repeat((conv=>whnf);first|apply ω0|apply ω1|apply ω2|refine τ3 rfl ?_|refine τ4 rfl ?_|refine ⟨rfl,?_⟩|apply τa|refine τb rfl ?_|refine ⟨⟨by kernel_rfl,by kernel_rfl⟩,?_⟩|refine ⟨by decide,?_⟩|apply τt|apply τf))
        exact back (0 + 1, nx3) (show 0 + 1 ≤ 6 by decide) (by dsimp only; omega) (ele_tell (bx := [((3, nx2), .c (infC (infL.getD a inf0))), ((2, nx + 2), .c (arrC (lowK (0 + 1) r))), ((1, nx + 1), .c (arrC fun _ => 0)), ((0, nx), .c (recC r))]) (pm := []) _ [] rfl rfl (List.Sublist.refl _) (List.Sublist.refl _) ⟨rfl, OwnLe.refl _, rfl, ⟨le_u64 (low32 r0), AVle.refl _, AVle.refl _, AVle.refl _, AVle.refl _, AVle.refl _, trivial⟩, BxLe.refl _⟩ trivial ⟨AVle.refl _, AVle.refl _, AVle.refl _, AVle.refl _, trivial⟩)
      · (repeat((conv=>whnf);first|apply ω0|apply ω1|apply ω2|refine τ3 rfl ?_|refine τ4 rfl ?_|refine ⟨rfl,?_⟩|apply τa|refine τb rfl ?_|refine ⟨⟨by kernel_rfl,by kernel_rfl⟩,?_⟩|refine ⟨by decide,?_⟩|apply τt|apply τf))
        refine ⟨⟨Int.natCast_nonneg _, show ((1 : Nat) : Int) < 6 by decide⟩, splitO_eq (b := .bp (2, nx + 2) 1) (congrArg (AV.bp (2, nx + 2)) (by rw [c_u64]; rfl)) ?_⟩
        (repeat((conv=>whnf);first|apply ω0|apply ω1|apply ω2|refine τ3 rfl ?_|refine τ4 rfl ?_|refine ⟨rfl,?_⟩|apply τa|refine τb rfl ?_|refine ⟨⟨by kernel_rfl,by kernel_rfl⟩,?_⟩|refine ⟨by decide,?_⟩|apply τt|apply τf))
        refine ⟨⟨Int.natCast_nonneg _, show ((1 : Nat) : Int) < 6 by decide⟩, splitO_eq (b := .bp (2, nx + 2) 1) (congrArg (AV.bp (2, nx + 2)) (by rw [c_u64]; rfl)) ?_⟩
        (repeat((conv=>whnf);first|apply ω0|apply ω1|apply ω2|refine τ3 rfl ?_|refine τ4 rfl ?_|refine ⟨rfl,?_⟩|apply τa|refine τb rfl ?_|refine ⟨⟨by kernel_rfl,by kernel_rfl⟩,?_⟩|refine ⟨by decide,?_⟩|apply τt|apply τf))
        exact back (1 + 1, nx3) (show 1 + 1 ≤ 6 by decide) (by dsimp only; omega) (ele_tell (bx := [((3, nx2), .c (infC (infL.getD a inf0))), ((2, nx + 2), .c (arrC (lowK (1 + 1) r))), ((1, nx + 1), .c (arrC fun _ => 0)), ((0, nx), .c (recC r))]) (pm := []) _ [] rfl rfl (List.Sublist.refl _) (List.Sublist.refl _) ⟨rfl, OwnLe.refl _, rfl, ⟨AVle.refl _, le_u64 (low32 r1), AVle.refl _, AVle.refl _, AVle.refl _, AVle.refl _, trivial⟩, BxLe.refl _⟩ trivial ⟨AVle.refl _, AVle.refl _, AVle.refl _, AVle.refl _, trivial⟩)
      · (repeat((conv=>whnf);first|apply ω0|apply ω1|apply ω2|refine τ3 rfl ?_|refine τ4 rfl ?_|refine ⟨rfl,?_⟩|apply τa|refine τb rfl ?_|refine ⟨⟨by kernel_rfl,by kernel_rfl⟩,?_⟩|refine ⟨by decide,?_⟩|apply τt|apply τf))
        refine ⟨⟨Int.natCast_nonneg _, show ((2 : Nat) : Int) < 6 by decide⟩, splitO_eq (b := .bp (2, nx + 2) 2) (congrArg (AV.bp (2, nx + 2)) (by rw [c_u64]; rfl)) ?_⟩
        (repeat((conv=>whnf);first|apply ω0|apply ω1|apply ω2|refine τ3 rfl ?_|refine τ4 rfl ?_|refine ⟨rfl,?_⟩|apply τa|refine τb rfl ?_|refine ⟨⟨by kernel_rfl,by kernel_rfl⟩,?_⟩|refine ⟨by decide,?_⟩|apply τt|apply τf))
        refine ⟨⟨Int.natCast_nonneg _, show ((2 : Nat) : Int) < 6 by decide⟩, splitO_eq (b := .bp (2, nx + 2) 2) (congrArg (AV.bp (2, nx + 2)) (by rw [c_u64]; rfl)) ?_⟩
        (repeat((conv=>whnf);first|apply ω0|apply ω1|apply ω2|refine τ3 rfl ?_|refine τ4 rfl ?_|refine ⟨rfl,?_⟩|apply τa|refine τb rfl ?_|refine ⟨⟨by kernel_rfl,by kernel_rfl⟩,?_⟩|refine ⟨by decide,?_⟩|apply τt|apply τf))
        exact back (2 + 1, nx3) (show 2 + 1 ≤ 6 by decide) (by dsimp only; omega) (ele_tell (bx := [((3, nx2), .c (infC (infL.getD a inf0))), ((2, nx + 2), .c (arrC (lowK (2 + 1) r))), ((1, nx + 1), .c (arrC fun _ => 0)), ((0, nx), .c (recC r))]) (pm := []) _ [] rfl rfl (List.Sublist.refl _) (List.Sublist.refl _) ⟨rfl, OwnLe.refl _, rfl, ⟨AVle.refl _, AVle.refl _, le_u64 (low32 r2), AVle.refl _, AVle.refl _, AVle.refl _, trivial⟩, BxLe.refl _⟩ trivial ⟨AVle.refl _, AVle.refl _, AVle.refl _, AVle.refl _, trivial⟩)
      · (repeat((conv=>whnf);first|apply ω0|apply ω1|apply ω2|refine τ3 rfl ?_|refine τ4 rfl ?_|refine ⟨rfl,?_⟩|apply τa|refine τb rfl ?_|refine ⟨⟨by kernel_rfl,by kernel_rfl⟩,?_⟩|refine ⟨by decide,?_⟩|apply τt|apply τf))
        refine ⟨⟨Int.natCast_nonneg _, show ((3 : Nat) : Int) < 6 by decide⟩, splitO_eq (b := .bp (2, nx + 2) 3) (congrArg (AV.bp (2, nx + 2)) (by rw [c_u64]; rfl)) ?_⟩
        (repeat((conv=>whnf);first|apply ω0|apply ω1|apply ω2|refine τ3 rfl ?_|refine τ4 rfl ?_|refine ⟨rfl,?_⟩|apply τa|refine τb rfl ?_|refine ⟨⟨by kernel_rfl,by kernel_rfl⟩,?_⟩|refine ⟨by decide,?_⟩|apply τt|apply τf))
        refine ⟨⟨Int.natCast_nonneg _, show ((3 : Nat) : Int) < 6 by decide⟩, splitO_eq (b := .bp (2, nx + 2) 3) (congrArg (AV.bp (2, nx + 2)) (by rw [c_u64]; rfl)) ?_⟩
        (repeat((conv=>whnf);first|apply ω0|apply ω1|apply ω2|refine τ3 rfl ?_|refine τ4 rfl ?_|refine ⟨rfl,?_⟩|apply τa|refine τb rfl ?_|refine ⟨⟨by kernel_rfl,by kernel_rfl⟩,?_⟩|refine ⟨by decide,?_⟩|apply τt|apply τf))
        exact back (3 + 1, nx3) (show 3 + 1 ≤ 6 by decide) (by dsimp only; omega) (ele_tell (bx := [((3, nx2), .c (infC (infL.getD a inf0))), ((2, nx + 2), .c (arrC (lowK (3 + 1) r))), ((1, nx + 1), .c (arrC fun _ => 0)), ((0, nx), .c (recC r))]) (pm := []) _ [] rfl rfl (List.Sublist.refl _) (List.Sublist.refl _) ⟨rfl, OwnLe.refl _, rfl, ⟨AVle.refl _, AVle.refl _, AVle.refl _, le_u64 (low32 r3), AVle.refl _, AVle.refl _, trivial⟩, BxLe.refl _⟩ trivial ⟨AVle.refl _, AVle.refl _, AVle.refl _, AVle.refl _, trivial⟩)
      · (repeat((conv=>whnf);first|apply ω0|apply ω1|apply ω2|refine τ3 rfl ?_|refine τ4 rfl ?_|refine ⟨rfl,?_⟩|apply τa|refine τb rfl ?_|refine ⟨⟨by kernel_rfl,by kernel_rfl⟩,?_⟩|refine ⟨by decide,?_⟩|apply τt|apply τf))
        refine ⟨⟨Int.natCast_nonneg _, show ((4 : Nat) : Int) < 6 by decide⟩, splitO_eq (b := .bp (2, nx + 2) 4) (congrArg (AV.bp (2, nx + 2)) (by rw [c_u64]; rfl)) ?_⟩
        (repeat((conv=>whnf);first|apply ω0|apply ω1|apply ω2|refine τ3 rfl ?_|refine τ4 rfl ?_|refine ⟨rfl,?_⟩|apply τa|refine τb rfl ?_|refine ⟨⟨by kernel_rfl,by kernel_rfl⟩,?_⟩|refine ⟨by decide,?_⟩|apply τt|apply τf))
        refine ⟨⟨Int.natCast_nonneg _, show ((4 : Nat) : Int) < 6 by decide⟩, splitO_eq (b := .bp (2, nx + 2) 4) (congrArg (AV.bp (2, nx + 2)) (by rw [c_u64]; rfl)) ?_⟩
        (repeat((conv=>whnf);first|apply ω0|apply ω1|apply ω2|refine τ3 rfl ?_|refine τ4 rfl ?_|refine ⟨rfl,?_⟩|apply τa|refine τb rfl ?_|refine ⟨⟨by kernel_rfl,by kernel_rfl⟩,?_⟩|refine ⟨by decide,?_⟩|apply τt|apply τf))
        exact back (4 + 1, nx3) (show 4 + 1 ≤ 6 by decide) (by dsimp only; omega) (ele_tell (bx := [((3, nx2), .c (infC (infL.getD a inf0))), ((2, nx + 2), .c (arrC (lowK (4 + 1) r))), ((1, nx + 1), .c (arrC fun _ => 0)), ((0, nx), .c (recC r))]) (pm := []) _ [] rfl rfl (List.Sublist.refl _) (List.Sublist.refl _) ⟨rfl, OwnLe.refl _, rfl, ⟨AVle.refl _, AVle.refl _, AVle.refl _, AVle.refl _, le_u64 (low32 r4), AVle.refl _, trivial⟩, BxLe.refl _⟩ trivial ⟨AVle.refl _, AVle.refl _, AVle.refl _, AVle.refl _, trivial⟩)
      · (repeat((conv=>whnf);first|apply ω0|apply ω1|apply ω2|refine τ3 rfl ?_|refine τ4 rfl ?_|refine ⟨rfl,?_⟩|apply τa|refine τb rfl ?_|refine ⟨⟨by kernel_rfl,by kernel_rfl⟩,?_⟩|refine ⟨by decide,?_⟩|apply τt|apply τf))
        refine ⟨⟨Int.natCast_nonneg _, show ((5 : Nat) : Int) < 6 by decide⟩, splitO_eq (b := .bp (2, nx + 2) 5) (congrArg (AV.bp (2, nx + 2)) (by rw [c_u64]; rfl)) ?_⟩
        (repeat((conv=>whnf);first|apply ω0|apply ω1|apply ω2|refine τ3 rfl ?_|refine τ4 rfl ?_|refine ⟨rfl,?_⟩|apply τa|refine τb rfl ?_|refine ⟨⟨by kernel_rfl,by kernel_rfl⟩,?_⟩|refine ⟨by decide,?_⟩|apply τt|apply τf))
        refine ⟨⟨Int.natCast_nonneg _, show ((5 : Nat) : Int) < 6 by decide⟩, splitO_eq (b := .bp (2, nx + 2) 5) (congrArg (AV.bp (2, nx + 2)) (by rw [c_u64]; rfl)) ?_⟩
        (repeat((conv=>whnf);first|apply ω0|apply ω1|apply ω2|refine τ3 rfl ?_|refine τ4 rfl ?_|refine ⟨rfl,?_⟩|apply τa|refine τb rfl ?_|refine ⟨⟨by kernel_rfl,by kernel_rfl⟩,?_⟩|refine ⟨by decide,?_⟩|apply τt|apply τf))
        exact back (5 + 1, nx3) (show 5 + 1 ≤ 6 by decide) (by dsimp only; omega) (ele_tell (bx := [((3, nx2), .c (infC (infL.getD a inf0))), ((2, nx + 2), .c (arrC (lowK (5 + 1) r))), ((1, nx + 1), .c (arrC fun _ => 0)), ((0, nx), .c (recC r))]) (pm := []) _ [] rfl rfl (List.Sublist.refl _) (List.Sublist.refl _) ⟨rfl, OwnLe.refl _, rfl, ⟨AVle.refl _, AVle.refl _, AVle.refl _, AVle.refl _, AVle.refl _, le_u64 (low32 r5), trivial⟩, BxLe.refl _⟩ trivial ⟨AVle.refl _, AVle.refl _, AVle.refl _, AVle.refl _, trivial⟩)
      · (repeat((conv=>whnf);first|apply ω0|apply ω1|apply ω2|refine τ3 rfl ?_|refine τ4 rfl ?_|refine ⟨rfl,?_⟩|apply τa|refine τb rfl ?_|refine ⟨⟨by kernel_rfl,by kernel_rfl⟩,?_⟩|refine ⟨by decide,?_⟩|apply τt|apply τf))
        refine ret_tells_all rfl ⟨rfl, trivial⟩ (AVle.ags ⟨le_arg e 0, le_arg e 1, le_arg e 2, le_arg e 3, le_arg e 4, le_arg e 5, trivial⟩)
      · omega
end Go.Proofs.W

namespace Go.Proofs.W
open Go.Vl
section
variable {α : Type} [Inhabited α] {lt : α → α → Bool}
theorem lit_eq {K : Bool → Prop} {b b' : Bool} (h : b = b') (hk : ∀ c, c = b' → K c) : ∀ c, c = b → K c := by subst h; exact hk
end
end Go.Proofs.W

namespace Go.Proofs.W
open Go.Vl
set_option maxRecDepth 100000

theorem idxf_trow (l : List TRow) (p : TRow → Bool) (f : Nat) (x y : List AV) (hl : l.length ≤ 1000000000) (hp : ∀ i, i < l.length → Tells Tryz.prog f [trowA (l.getD i trow0), .rp x, .rp y] (boolA (p (l.getD i trow0)))) :
    Tells Tryz.prog 109 [slOf 8 trowA trow0 l, (.fn (.func f) [] [.rp x, .rp y])] (int (optI (l.findIdx? p))) := by
  refine tells_of_aw Tryz.func109 rfl rfl fun nx => ?_
  (repeat((conv=>whnf);first|apply ω0|apply ω1|apply ω2|refine τ3 rfl ?_|refine τ4 rfl ?_|refine ⟨rfl,?_⟩|apply τa|refine τb rfl ?_|refine ⟨⟨by kernel_rfl,by kernel_rfl⟩,?_⟩|refine ⟨by decide,?_⟩|apply τt|apply τf))
  refine aw_loop (fun s : Nat × Nat => mk 19 [(0, slOf 8 trowA trow0 l), (1, (.fn (.func f) [] [.rp x, .rp y])), (7, int l.length), (8, int s.1)] ⟨[], [], s.2, 0⟩) (fun s => s.1 ≤ l.length ∧ ∀ j, j < s.1 → p (l.getD j trow0) = false) (fun s => l.length - s.1) ?_ ?_
  · exact ⟨(0, nx), ⟨by simp, by intro j hj; simp at hj⟩, ele_mk rfl rfl ⟨AVle.refl _, AVle.refl _, AVle.refl _, AVle.refl _, trivial⟩⟩
  · rintro ⟨i, nx⟩ ⟨h1, h2⟩
    dsimp only at h1 h2
    (repeat((conv=>whnf);first|apply ω0|apply ω1|apply ω2|refine τ3 rfl ?_|refine τ4 rfl ?_|refine ⟨rfl,?_⟩|apply τa|refine τb rfl ?_|refine ⟨⟨by kernel_rfl,by kernel_rfl⟩,?_⟩|refine ⟨by decide,?_⟩|apply τt|apply τf))
    intro c h3; cases c
    · have h3 := not_of h3
      dsimp only at h3
      (repeat((conv=>whnf);first|apply ω0|apply ω1|apply ω2|refine τ3 rfl ?_|refine τ4 rfl ?_|refine ⟨rfl,?_⟩|apply τa|refine τb rfl ?_|refine ⟨⟨by kernel_rfl,by kernel_rfl⟩,?_⟩|refine ⟨by decide,?_⟩|apply τt|apply τf))
      refine ret_tells rfl (le_int ?_)
      rw [idx_none trow0 (fun j hj => h2 j (by omega))]; rfl
    · have h3 := yes_of h3
      dsimp only at h3
      have hi : i < l.length := by omega
      (repeat((conv=>whnf);first|apply ω0|apply ω1|apply ω2|refine τ3 rfl ?_|refine τ4 rfl ?_|refine ⟨rfl,?_⟩|apply τa|refine τb rfl ?_|refine ⟨⟨by kernel_rfl,by kernel_rfl⟩,?_⟩|refine ⟨by decide,?_⟩|apply τt|apply τf))
      refine ⟨⟨by dsimp only; omega, by dsimp only; omega⟩, ?_⟩
      (repeat((conv=>whnf);first|apply ω0|apply ω1|apply ω2|refine τ3 rfl ?_|refine τ4 rfl ?_|refine ⟨rfl,?_⟩|apply τa|refine τb rfl ?_|refine ⟨⟨by kernel_rfl,by kernel_rfl⟩,?_⟩|refine ⟨by decide,?_⟩|apply τt|apply τf))
      refine aop_tells rfl rfl (hp i hi) ⟨AVle.refl _, AVle.refl _, AVle.refl _, trivial⟩ fun nx' => ?_
      intro c h4; cases c
      · (repeat((conv=>whnf);first|apply ω0|apply ω1|apply ω2|refine τ3 rfl ?_|refine τ4 rfl ?_|refine ⟨rfl,?_⟩|apply τa|refine τb rfl ?_|refine ⟨⟨by kernel_rfl,by kernel_rfl⟩,?_⟩|refine ⟨by decide,?_⟩|apply τt|apply τf))
        refine back (i + 1, nx') ⟨by dsimp only; omega, fun j hj => ?_⟩ (by dsimp only; omega) (ele_mk rfl rfl ⟨AVle.refl _, AVle.refl _, AVle.refl _, le_int (wrap_succ (by dsimp only; omega)), trivial⟩)
        dsimp only at hj
        rcases Nat.lt_or_ge j i with h | h
        · exact h2 j h
        · obtain rfl : j = i := by omega
          exact h4.symm
      · (repeat((conv=>whnf);first|apply ω0|apply ω1|apply ω2|refine τ3 rfl ?_|refine τ4 rfl ?_|refine ⟨rfl,?_⟩|apply τa|refine τb rfl ?_|refine ⟨⟨by kernel_rfl,by kernel_rfl⟩,?_⟩|refine ⟨by decide,?_⟩|apply τt|apply τf))
        refine ret_tells rfl (le_int ?_)
        rw [idx_at trow0 hi h2 h4.symm]; rfl
def subB (mux sub : Int) (r : TRow) : Bool := decide (r.mux = mux) && (decide (r.sub = sub) && decide (mux ≠ 0))
theorem sub1_spec (r : TRow) (mux sub : Int) : Tells Tryz.prog 110 [trowA r, .rp [int mux], .rp [int sub]] (boolA (subB mux sub r)) := by
  refine tells_of_aw Tryz.func110 rfl rfl fun nx => ?_
  (repeat((conv=>whnf);first|apply ω0|apply ω1|apply ω2|refine τ3 rfl ?_|refine τ4 rfl ?_|refine ⟨rfl,?_⟩|apply τa|refine τb rfl ?_|refine ⟨⟨by kernel_rfl,by kernel_rfl⟩,?_⟩|refine ⟨by decide,?_⟩|apply τt|apply τf))
  intro c t1; cases c
  · have e : subB mux sub r = false := by unfold subB; rw [decide_eq_false (by simpa using t1.symm)]; rfl
    rw [e]
    (repeat((conv=>whnf);first|apply ω0|apply ω1|apply ω2|refine τ3 rfl ?_|refine τ4 rfl ?_|refine ⟨rfl,?_⟩|apply τa|refine τb rfl ?_|refine ⟨⟨by kernel_rfl,by kernel_rfl⟩,?_⟩|refine ⟨by decide,?_⟩|apply τt|apply τf))
    exact ret_tells rfl (AVle.refl _)
  · have t1 : r.mux = mux := by simpa using t1.symm
    have e : subB mux sub r = (decide (r.sub = sub) && decide (mux ≠ 0)) := by unfold subB; rw [decide_eq_true t1]; rfl
    rw [e]
    (repeat((conv=>whnf);first|apply ω0|apply ω1|apply ω2|refine τ3 rfl ?_|refine τ4 rfl ?_|refine ⟨rfl,?_⟩|apply τa|refine τb rfl ?_|refine ⟨⟨by kernel_rfl,by kernel_rfl⟩,?_⟩|refine ⟨by decide,?_⟩|apply τt|apply τf))
    intro c t2; cases c
    · rw [decide_eq_false (show ¬ r.sub = sub by simpa using t2.symm)]
      (repeat((conv=>whnf);first|apply ω0|apply ω1|apply ω2|refine τ3 rfl ?_|refine τ4 rfl ?_|refine ⟨rfl,?_⟩|apply τa|refine τb rfl ?_|refine ⟨⟨by kernel_rfl,by kernel_rfl⟩,?_⟩|refine ⟨by decide,?_⟩|apply τt|apply τf))
      exact ret_tells rfl (AVle.refl _)
    · rw [decide_eq_true (show r.sub = sub by simpa using t2.symm)]
      (repeat((conv=>whnf);first|apply ω0|apply ω1|apply ω2|refine τ3 rfl ?_|refine τ4 rfl ?_|refine ⟨rfl,?_⟩|apply τa|refine τb rfl ?_|refine ⟨⟨by kernel_rfl,by kernel_rfl⟩,?_⟩|refine ⟨by decide,?_⟩|apply τt|apply τf))
      intro c t3; cases c
      all_goals
        (repeat((conv=>whnf);first|apply ω0|apply ω1|apply ω2|refine τ3 rfl ?_|refine τ4 rfl ?_|refine ⟨rfl,?_⟩|apply τa|refine τb rfl ?_|refine ⟨⟨by kernel_rfl,by kernel_rfl⟩,?_⟩|refine ⟨by decide,?_⟩|apply τt|apply τf))
        exact ret_tells rfl (le_bool (t3.trans (by rw [Bool.true_and, Bool.eq_iff_iff]; simp)))
def subRes (l : List TRow) : Option Nat → AV
  | some i => .tup [strA (l.getD i trow0).name, boolA true]
  | none => .tup [strA ⟨#[]⟩, boolA false]
theorem idx_lt {l : List TRow} {p : TRow → Bool} {i : Nat} (h : l.findIdx? p = some i) : i < l.length := (List.findIdx?_eq_some_iff_getElem.1 h).1
theorem tabsub_spec (l : List TRow) (mux sub : Int) (hl : l.length ≤ 1000000000) : Tells Tryz.prog 62 [trows l, int mux, int sub] (subRes l (l.findIdx? (subB mux sub))) := by
  have hi := idxf_trow l (subB mux sub) 110 [int mux] [int sub] hl (fun i _ => sub1_spec _ mux sub)
  have hlt := fun i => idx_lt (l := l) (p := subB mux sub) (i := i)
  generalize l.findIdx? (subB mux sub) = o at hi hlt ⊢
  refine tells_of_aw Tryz.func62 rfl rfl fun nx => ?_
  ((repeat((conv=>whnf);first|apply ω0|apply ω2|refine τ3 rfl ?_|refine τ4 rfl ?_|refine ⟨rfl,?_⟩|apply τa|refine τb rfl ?_|refine ⟨⟨by kernel_rfl,by kernel_rfl⟩,?_⟩|refine ⟨by decide,?_⟩|apply τt|apply τf)); refine aw_region ?_; (repeat((conv=>whnf);first|apply ω0|apply ω2|refine τ3 rfl ?_|refine τ4 rfl ?_|refine ⟨rfl,?_⟩|apply τa|refine τb rfl ?_|refine ⟨⟨by kernel_rfl,by kernel_rfl⟩,?_⟩|refine ⟨by decide,?_⟩|apply τt|apply τf)))
  refine aw_freeze (n := 19) (nx := nx + 2) (nn := 2) (pm := []) (bx := []) (L := [(0, trows l), (4, .rp [int mux]), (5, .rp [int sub])]) (df := some []) [((1, nx + 1), .c [int sub]), ((0, nx), .c [int mux])] rfl rfl rfl (List.Perm.refl _) (List.Sublist.refl _) ⟨Frz.refl _, Frz.bp (.tail _ (.head _)) rfl, Frz.bp (.head _) rfl, trivial⟩ ?_
  (repeat((conv=>whnf);first|apply ω0|apply ω1|apply ω2|refine τ3 rfl ?_|refine τ4 rfl ?_|refine ⟨rfl,?_⟩|apply τa|refine τb rfl ?_|refine ⟨⟨by kernel_rfl,by kernel_rfl⟩,?_⟩|refine ⟨by decide,?_⟩|apply τt|apply τf))
  refine aop_tells rfl rfl hi ⟨AVle.refl _, AVle.refl _, trivial⟩ fun nx2 => ?_
  rcases o with _ | i
  · (repeat((conv=>whnf);first|apply ω0|apply ω1|apply ω2|refine τ3 rfl ?_|refine τ4 rfl ?_|refine ⟨rfl,?_⟩|apply τa|refine τb rfl ?_|refine ⟨⟨by kernel_rfl,by kernel_rfl⟩,?_⟩|refine ⟨by decide,?_⟩|apply τt|apply τf))
    exact ret_tells rfl (AVle.refl _)
  · have hi := hlt i rfl
    (repeat((conv=>whnf);first|apply ω0|apply ω1|apply ω2|refine τ3 rfl ?_|refine τ4 rfl ?_|refine ⟨rfl,?_⟩|apply τa|refine τb rfl ?_|refine ⟨⟨by kernel_rfl,by kernel_rfl⟩,?_⟩|refine ⟨by decide,?_⟩|apply τt|apply τf))
    refine ⟨⟨Int.natCast_nonneg i, show (i : Int) < (l.length : Int) by omega⟩, ?_⟩
    (repeat((conv=>whnf);first|apply ω0|apply ω1|apply ω2|refine τ3 rfl ?_|refine τ4 rfl ?_|refine ⟨rfl,?_⟩|apply τa|refine τb rfl ?_|refine ⟨⟨by kernel_rfl,by kernel_rfl⟩,?_⟩|refine ⟨by decide,?_⟩|apply τt|apply τf))
    exact ret_tells rfl (AVle.refl _)
def nameB5 (a : Nat) (n : Int) (r : TRow) : Bool := decide (r.num a = n)
theorem name1_spec (r : TRow) (a : Nat) (ha : a < 5) (n : Int) (hn : 0 ≤ n) : Tells Tryz.prog 111 [trowA r, .rp [int a], .rp [int n]] (boolA (nameB5 a n r)) := by
  have hne : decide (n ≠ -1) = true := decide_eq_true (by omega)
  have hne2 : (n != -1) = true := by simp; omega
  unfold nameB5
  refine tells_of_aw Tryz.func111 rfl rfl fun nx => ?_
  rcases (by omega : a = 0 ∨ a = 1 ∨ a = 2 ∨ a = 3 ∨ a = 4) with rfl | rfl | rfl | rfl | rfl
  all_goals
    (repeat((conv=>whnf);first|apply ω0|apply ω1|apply ω2|refine τ3 rfl ?_|refine τ4 rfl ?_|refine ⟨rfl,?_⟩|apply τa|refine τb rfl ?_|refine ⟨⟨by kernel_rfl,by kernel_rfl⟩,?_⟩|refine ⟨by decide,?_⟩|apply τt|apply τf))
    (refine aw_draw 11 ?_ ?_ ?_ ?_; (· kernel_rfl); (· kernel_rfl); (· kernel_rfl))
    (repeat((conv=>whnf);first|apply ω0|apply ω1|apply ω2|refine τ3 rfl ?_|refine τ4 rfl ?_|refine ⟨rfl,?_⟩|apply τa|refine τb rfl ?_|refine ⟨⟨by kernel_rfl,by kernel_rfl⟩,?_⟩|refine ⟨by decide,?_⟩|apply τt|apply τf))
    intro c t1; cases c
    · (repeat((conv=>whnf);first|apply ω0|apply ω1|apply ω2|refine τ3 rfl ?_|refine τ4 rfl ?_|refine ⟨rfl,?_⟩|apply τa|refine τb rfl ?_|refine ⟨⟨by kernel_rfl,by kernel_rfl⟩,?_⟩|refine ⟨by decide,?_⟩|apply τt|apply τf))
      exact ret_tells rfl (le_bool (decide_eq_false (beq_eq_false_iff_ne.1 t1.symm)).symm)
    · (repeat((conv=>whnf);first|apply ω0|apply ω1|apply ω2|refine τ3 rfl ?_|refine τ4 rfl ?_|refine ⟨rfl,?_⟩|apply τa|refine τb rfl ?_|refine ⟨⟨by kernel_rfl,by kernel_rfl⟩,?_⟩|refine ⟨by decide,?_⟩|apply τt|apply τf))
      (conv => whnf)
      refine lit_eq hne2 ?_
      (repeat((conv=>whnf);first|apply ω0|apply ω1|apply ω2|refine τ3 rfl ?_|refine τ4 rfl ?_|refine ⟨rfl,?_⟩|apply τa|refine τb rfl ?_|refine ⟨⟨by kernel_rfl,by kernel_rfl⟩,?_⟩|refine ⟨by decide,?_⟩|apply τt|apply τf))
      exact ret_tells rfl (le_bool (decide_eq_true (beq_iff_eq.1 t1.symm)).symm)
def nameRes (l : List TRow) : Option Nat → AV
  | some i => .tup [strA (l.getD i trow0).name, int 0]
  | none => .tup [strA ⟨#[]⟩, int 14]
theorem tabname_spec (l : List TRow) (a : Nat) (ha : a < 5) (n : Int) (hn : 0 ≤ n) (hl : l.length ≤ 1000000000) : Tells Tryz.prog 64 [trows l, int a, int n] (nameRes l (l.findIdx? (nameB5 a n))) := by
  have hi := idxf_trow l (nameB5 a n) 111 [int a] [int n] hl (fun i _ => name1_spec _ a ha n hn)
  have hlt := fun i => idx_lt (l := l) (p := nameB5 a n) (i := i)
  generalize l.findIdx? (nameB5 a n) = o at hi hlt ⊢
  have hd1 : decide ((a : Int) < 0) = false := decide_eq_false (by omega)
  have hd2 : decide ((a : Int) ≥ 5) = false := decide_eq_false (by omega)
  have hd3 : decide (n < 0) = false := decide_eq_false (by omega)
  refine tells_of_aw Tryz.func64 rfl rfl fun nx => ?_
  ((repeat((conv=>whnf);first|apply ω0|apply ω2|refine τ3 rfl ?_|refine τ4 rfl ?_|refine ⟨rfl,?_⟩|apply τa|refine τb rfl ?_|refine ⟨⟨by kernel_rfl,by kernel_rfl⟩,?_⟩|refine ⟨by decide,?_⟩|apply τt|apply τf)); refine aw_region ?_; (repeat((conv=>whnf);first|apply ω0|apply ω2|refine τ3 rfl ?_|refine τ4 rfl ?_|refine ⟨rfl,?_⟩|apply τa|refine τb rfl ?_|refine ⟨⟨by kernel_rfl,by kernel_rfl⟩,?_⟩|refine ⟨by decide,?_⟩|apply τt|apply τf)))
  refine aw_freeze (n := 47) (nx := nx + 2) (nn := 2) (pm := []) (bx := []) (L := [(0, trows l), (4, .rp [int a]), (5, .rp [int n])]) (df := some []) [((1, nx + 1), .c [int n]), ((0, nx), .c [int a])] rfl rfl rfl (List.Perm.refl _) (List.Sublist.refl _) ⟨Frz.refl _, Frz.bp (.tail _ (.head _)) rfl, Frz.bp (.head _) rfl, trivial⟩ ?_
  (repeat((conv=>whnf);first|apply ω0|apply ω1|apply ω2|refine τ3 rfl ?_|refine τ4 rfl ?_|refine ⟨rfl,?_⟩|apply τa|refine τb rfl ?_|refine ⟨⟨by kernel_rfl,by kernel_rfl⟩,?_⟩|refine ⟨by decide,?_⟩|apply τt|apply τf))
  (conv => whnf)
  refine lit_eq hd2 ?_
  (repeat((conv=>whnf);first|apply ω0|apply ω1|apply ω2|refine τ3 rfl ?_|refine τ4 rfl ?_|refine ⟨rfl,?_⟩|apply τa|refine τb rfl ?_|refine ⟨⟨by kernel_rfl,by kernel_rfl⟩,?_⟩|refine ⟨by decide,?_⟩|apply τt|apply τf))
  refine aop_tells rfl rfl hi ⟨AVle.refl _, AVle.refl _, trivial⟩ fun nx2 => ?_
  rcases o with _ | i
  · (repeat((conv=>whnf);first|apply ω0|apply ω1|apply ω2|refine τ3 rfl ?_|refine τ4 rfl ?_|refine ⟨rfl,?_⟩|apply τa|refine τb rfl ?_|refine ⟨⟨by kernel_rfl,by kernel_rfl⟩,?_⟩|refine ⟨by decide,?_⟩|apply τt|apply τf))
    (refine aw_draw 20 ?_ ?_ ?_ ?_; (· kernel_rfl); (· kernel_rfl); (· kernel_rfl))
    (repeat((conv=>whnf);first|apply ω0|apply ω1|apply ω2|refine τ3 rfl ?_|refine τ4 rfl ?_|refine ⟨rfl,?_⟩|apply τa|refine τb rfl ?_|refine ⟨⟨by kernel_rfl,by kernel_rfl⟩,?_⟩|refine ⟨by decide,?_⟩|apply τt|apply τf))
    (conv => whnf)
    refine lit_eq hd3 ?_
    (repeat((conv=>whnf);first|apply ω0|apply ω1|apply ω2|refine τ3 rfl ?_|refine τ4 rfl ?_|refine ⟨rfl,?_⟩|apply τa|refine τb rfl ?_|refine ⟨⟨by kernel_rfl,by kernel_rfl⟩,?_⟩|refine ⟨by decide,?_⟩|apply τt|apply τf))
    exact ret_tells rfl (AVle.refl _)
  · have hi := hlt i rfl
    (repeat((conv=>whnf);first|apply ω0|apply ω1|apply ω2|refine τ3 rfl ?_|refine τ4 rfl ?_|refine ⟨rfl,?_⟩|apply τa|refine τb rfl ?_|refine ⟨⟨by kernel_rfl,by kernel_rfl⟩,?_⟩|refine ⟨by decide,?_⟩|apply τt|apply τf))
    (refine aw_draw 20 ?_ ?_ ?_ ?_; (· kernel_rfl); (· kernel_rfl); (· kernel_rfl))
    (repeat((conv=>whnf);first|apply ω0|apply ω1|apply ω2|refine τ3 rfl ?_|refine τ4 rfl ?_|refine ⟨rfl,?_⟩|apply τa|refine τb rfl ?_|refine ⟨⟨by kernel_rfl,by kernel_rfl⟩,?_⟩|refine ⟨by decide,?_⟩|apply τt|apply τf))
    (conv => whnf)
    refine lit_eq hd3 ?_
    (repeat((conv=>whnf);first|apply ω0|apply ω1|apply ω2|refine τ3 rfl ?_|refine τ4 rfl ?_|refine ⟨rfl,?_⟩|apply τa|refine τb rfl ?_|refine ⟨⟨by kernel_rfl,by kernel_rfl⟩,?_⟩|refine ⟨by decide,?_⟩|apply τt|apply τf))
    refine ⟨⟨Int.natCast_nonneg i, show (i : Int) < (l.length : Int) by omega⟩, ?_⟩
    (repeat((conv=>whnf);first|apply ω0|apply ω1|apply ω2|refine τ3 rfl ?_|refine τ4 rfl ?_|refine ⟨rfl,?_⟩|apply τa|refine τb rfl ?_|refine ⟨⟨by kernel_rfl,by kernel_rfl⟩,?_⟩|refine ⟨by decide,?_⟩|apply τt|apply τf))
    exact ret_tells rfl (AVle.refl _)
end Go.Proofs.W

namespace Go.Proofs.W
open Go.Vl
set_option maxRecDepth 100000

def ownI (a num : Nat) : Nat := if a = 1 ∧ num / 1073741824 % 2 = 1 then num - 1073741824 else num
theorem and_split {c lo d m i : Nat} (h : lo < 2 ^ i) (hm : m < 2 ^ i) : (2 ^ i * c + lo) &&& (2 ^ i * d + m) = 2 ^ i * (c &&& d) + (lo &&& m) := by
  apply Nat.eq_of_testBit_eq
  intro j
  have hlm : lo &&& m < 2 ^ i := Nat.lt_of_le_of_lt Nat.and_le_left h
  rw [Nat.testBit_and, Nat.testBit_two_pow_mul_add _ h, Nat.testBit_two_pow_mul_add _ hm, Nat.testBit_two_pow_mul_add _ hlm]
  split <;> rw [Nat.testBit_and]
theorem own_and {num : Nat} (h : num < 4294967296) : num &&& 3221225471 = ownI 1 num := by
  have hlo : num % 1073741824 < 2 ^ 30 := Nat.mod_lt _ (by decide)
  have e1 : num = 2 ^ 30 * (num / 1073741824) + num % 1073741824 := by have := Nat.div_add_mod num 1073741824; show num = 1073741824 * _ + _; omega
  have hc : num / 1073741824 < 4 := by omega
  have hs := and_split (c := num / 1073741824) (lo := num % 1073741824) (d := 2) (m := 1073741823) (i := 30) hlo (by decide)
  rw [← e1] at hs
  have e2 : (2 ^ 30 * 2 + 1073741823 : Nat) = 3221225471 := by decide
  rw [e2] at hs
  have e3 : num % 1073741824 &&& 1073741823 = num % 1073741824 := by
    have := Nat.and_two_pow_sub_one_eq_mod (num % 1073741824) 30
    rw [show (2 ^ 30 - 1 : Nat) = 1073741823 by decide] at this
    rw [this]; exact Nat.mod_eq_of_lt hlo
  rw [hs, e3]
  unfold ownI
  generalize hq : num / 1073741824 = c at hc
  generalize num % 1073741824 = lo at e1
  rw [hq] at e1
  have e4 : (2 ^ 30 : Nat) = 1073741824 := by decide
  rw [e4] at e1 ⊢
  rcases (by omega : c = 0 ∨ c = 1 ∨ c = 2 ∨ c = 3) with rfl | rfl | rfl | rfl
  · rw [if_neg (by decide), show (0 &&& 2 : Nat) = 0 by decide]; omega
  · rw [if_pos (by decide), show (1 &&& 2 : Nat) = 0 by decide]; omega
  · rw [if_neg (by decide), show (2 &&& 2 : Nat) = 2 by decide]; omega
  · rw [if_pos (by decide), show (3 &&& 2 : Nat) = 2 by decide]; omega
theorem own32 {num : Nat} (h : num < 4294967296) : bitsI .andNot .u32 (num : Int) 1073741824 = ((ownI 1 num : Nat) : Int) := by
  rw [← own_and h]
  exact bits_andNot (k := .u32) (b := 1073741824) h (by decide) (by
    have : num &&& (2 ^ IntKind.u32.bits - 1 - 1073741824) ≤ num := Nat.and_le_left
    have : num &&& (2 ^ IntKind.u32.bits - 1 - 1073741824) < 4294967296 := by omega
    simp [IntKind.wrap, IntKind.signed, IntKind.bits] at this ⊢
    omega)
theorem abiown_spec (a num : Nat) (h : num < 4294967296) : Tells Tryz.prog 65 [int a, u32 num] (u32 (ownI a num)) := by
  refine tells_of_aw Tryz.func65 rfl rfl fun nx => ?_
  (repeat((conv=>whnf);first|apply ω0|apply ω1|apply ω2|refine τ3 rfl ?_|refine τ4 rfl ?_|refine ⟨rfl,?_⟩|apply τa|refine τb rfl ?_|refine ⟨⟨by kernel_rfl,by kernel_rfl⟩,?_⟩|refine ⟨by decide,?_⟩|apply τt|apply τf))
  intro c t; cases c
  · have e : ¬ a = 1 := fun e => by subst e; simp at t
    have e2 : ownI a num = num := if_neg (fun q => e q.1)
    rw [e2]
    (repeat((conv=>whnf);first|apply ω0|apply ω1|apply ω2|refine τ3 rfl ?_|refine τ4 rfl ?_|refine ⟨rfl,?_⟩|apply τa|refine τb rfl ?_|refine ⟨⟨by kernel_rfl,by kernel_rfl⟩,?_⟩|refine ⟨by decide,?_⟩|apply τt|apply τf))
    exact ret_tells rfl (AVle.refl _)
  · have e : a = 1 := by have : (a : Int) = 1 := by simpa using t.symm
                         omega
    subst e
    (repeat((conv=>whnf);first|apply ω0|apply ω1|apply ω2|refine τ3 rfl ?_|refine τ4 rfl ?_|refine ⟨rfl,?_⟩|apply τa|refine τb rfl ?_|refine ⟨⟨by kernel_rfl,by kernel_rfl⟩,?_⟩|refine ⟨by decide,?_⟩|apply τt|apply τf))
    exact ret_tells rfl (AVle.of_eq (congrArg u32 (own32 h)))
def kindI (num : Nat) : Nat := if num = 102 then 1 else if num = 117 then 2 else 0
theorem muxkind_spec (num : Nat) : Tells Tryz.prog 60 [u32 num] (int (kindI num)) := by
  refine tells_of_aw Tryz.func60 rfl rfl fun nx => ?_
  (repeat((conv=>whnf);first|apply ω0|apply ω1|apply ω2|refine τ3 rfl ?_|refine τ4 rfl ?_|refine ⟨rfl,?_⟩|apply τa|refine τb rfl ?_|refine ⟨⟨by kernel_rfl,by kernel_rfl⟩,?_⟩|refine ⟨by decide,?_⟩|apply τt|apply τf))
  intro c t; cases c
  · have e : ¬ num = 102 := fun e => by subst e; simp at t
    (repeat((conv=>whnf);first|apply ω0|apply ω1|apply ω2|refine τ3 rfl ?_|refine τ4 rfl ?_|refine ⟨rfl,?_⟩|apply τa|refine τb rfl ?_|refine ⟨⟨by kernel_rfl,by kernel_rfl⟩,?_⟩|refine ⟨by decide,?_⟩|apply τt|apply τf))
    intro c t2; cases c
    · have e2 : ¬ num = 117 := fun e => by subst e; simp at t2
      have e3 : kindI num = 0 := by unfold kindI; rw [if_neg e, if_neg e2]
      rw [e3]
      (repeat((conv=>whnf);first|apply ω0|apply ω1|apply ω2|refine τ3 rfl ?_|refine τ4 rfl ?_|refine ⟨rfl,?_⟩|apply τa|refine τb rfl ?_|refine ⟨⟨by kernel_rfl,by kernel_rfl⟩,?_⟩|refine ⟨by decide,?_⟩|apply τt|apply τf))
      exact ret_tells rfl (AVle.refl _)
    · have e2 : num = 117 := by have : (num : Int) = 117 := by simpa using t2.symm
                                omega
      subst e2
      (repeat((conv=>whnf);first|apply ω0|apply ω1|apply ω2|refine τ3 rfl ?_|refine τ4 rfl ?_|refine ⟨rfl,?_⟩|apply τa|refine τb rfl ?_|refine ⟨⟨by kernel_rfl,by kernel_rfl⟩,?_⟩|refine ⟨by decide,?_⟩|apply τt|apply τf))
      exact ret_tells rfl (AVle.refl _)
  · have e2 : num = 102 := by have : (num : Int) = 102 := by simpa using t.symm
                              omega
    subst e2
    (repeat((conv=>whnf);first|apply ω0|apply ω1|apply ω2|refine τ3 rfl ?_|refine τ4 rfl ?_|refine ⟨rfl,?_⟩|apply τa|refine τb rfl ?_|refine ⟨⟨by kernel_rfl,by kernel_rfl⟩,?_⟩|refine ⟨by decide,?_⟩|apply τt|apply τf))
    exact ret_tells rfl (AVle.refl _)
def nameO (l : List TRow) : Option Nat → ByteArray
  | some i => (l.getD i trow0).name
  | none => ⟨#[]⟩
theorem low32i {n : Nat} : IntKind.i64.wrap (IntKind.u32.wrap (n : Int)) = ((n % 4294967296 : Nat) : Int) := by
  simp [IntKind.wrap, IntKind.signed, IntKind.bits]; omega
theorem muxed_spec (l : List TRow) (kind : Int) (r : Rec) (hl : l.length ≤ 1000000000) : Tells Tryz.prog 61 [.rp [trows l], .rp [int kind], .rp (recC r)] (strA (nameO l (l.findIdx? (subB kind ((r.a0 % 4294967296 : Nat) : Int))))) := by
  have hs := tabsub_spec l kind ((r.a0 % 4294967296 : Nat) : Int) hl
  generalize l.findIdx? (subB kind ((r.a0 % 4294967296 : Nat) : Int)) = o at hs ⊢
  refine tells_of_aw Tryz.func61 rfl rfl fun nx => ?_
  (repeat((conv=>whnf);first|apply ω0|apply ω1|apply ω2|refine τ3 rfl ?_|refine τ4 rfl ?_|refine ⟨rfl,?_⟩|apply τa|refine τb rfl ?_|refine ⟨⟨by kernel_rfl,by kernel_rfl⟩,?_⟩|refine ⟨by decide,?_⟩|apply τt|apply τf))
  refine ⟨⟨by decide, by decide, by rw [show Int.toNat 0 = 0 from rfl, Nat.zero_mul]; exact Nat.zero_le _⟩, splitO_eq (b := .rp [u64 r.a0, u64 r.a1, u64 r.a2, u64 r.a3, u64 r.a4, u64 r.a5]) (by rw [c_u64]; rfl) ?_⟩
  (repeat((conv=>whnf);first|apply ω0|apply ω1|apply ω2|refine τ3 rfl ?_|refine τ4 rfl ?_|refine ⟨rfl,?_⟩|apply τa|refine τb rfl ?_|refine ⟨⟨by kernel_rfl,by kernel_rfl⟩,?_⟩|refine ⟨by decide,?_⟩|apply τt|apply τf))
  refine aop_tells rfl rfl hs ⟨AVle.refl _, AVle.refl _, le_int low32i, trivial⟩ fun nx2 => ?_
  rcases o with _ | i
  all_goals
    (repeat((conv=>whnf);first|apply ω0|apply ω1|apply ω2|refine τ3 rfl ?_|refine τ4 rfl ?_|refine ⟨rfl,?_⟩|apply τa|refine τb rfl ?_|refine ⟨⟨by kernel_rfl,by kernel_rfl⟩,?_⟩|refine ⟨by decide,?_⟩|apply τt|apply τf))
    exact ret_tells rfl (AVle.refl _)
theorem direct_spec (l : List TRow) (a : Nat) (ha : a < 5) (r : Rec) (hr : r.ok) (hl : l.length ≤ 1000000000) : Tells Tryz.prog 63 [.rp [trows l], .rp [int a], .rp (recC r)] (strA (nameO l (l.findIdx? (nameB5 a ((ownI a r.num : Nat) : Int))))) := by
  have hs := tabname_spec l a ha ((ownI a r.num : Nat) : Int) (Int.natCast_nonneg _) hl
  have ho := abiown_spec a r.num hr.1
  generalize l.findIdx? (nameB5 a ((ownI a r.num : Nat) : Int)) = o at hs ⊢
  have hid : NoId (nameRes l o) := by
    cases o <;> exact NoId.tup (by intro y hy; simp only [List.mem_cons, List.not_mem_nil, or_false] at hy; rcases hy with rfl | rfl <;> exact NoId.v _)
  have hw : IntKind.i64.wrap ((ownI a r.num : Nat) : Int) = ((ownI a r.num : Nat) : Int) := by
    have h2 : ownI a r.num ≤ r.num := by unfold ownI; split <;> omega
    have := hr.1
    exact wrap_id (by omega) (by omega)
  refine tells_of_aw Tryz.func63 rfl rfl fun nx => ?_
  (repeat((conv=>whnf);first|apply ω0|apply ω1|apply ω2|refine τ3 rfl ?_|refine τ4 rfl ?_|refine ⟨rfl,?_⟩|apply τa|refine τb rfl ?_|refine ⟨⟨by kernel_rfl,by kernel_rfl⟩,?_⟩|refine ⟨by decide,?_⟩|apply τt|apply τf))
  refine aw_mixN 12 _ (fun _ => false) (fun i => match i with | 5 => true | 7 => true | _ => false) [0, 1, 2, 3, 4, 5, 6, 7, 8, 9, 10, 11] (by kernel_rfl) (by kernel_rfl) (HB.refl _) ?_
  (repeat((conv=>whnf);first|apply ω0|apply ω1|apply ω2|refine τ3 rfl ?_|refine τ4 rfl ?_|refine ⟨rfl,?_⟩|apply τa|refine τb rfl ?_|refine ⟨⟨by kernel_rfl,by kernel_rfl⟩,?_⟩|refine ⟨by decide,?_⟩|apply τt|apply τf))
  refine ⟨_, pure_tells rfl rfl rfl ho ⟨AVle.refl _, AVle.refl _, trivial⟩ (NoId.v _), ?_⟩
  (repeat((conv=>whnf);first|apply ω0|apply ω1|apply ω2|refine τ3 rfl ?_|refine τ4 rfl ?_|refine ⟨rfl,?_⟩|apply τa|refine τb rfl ?_|refine ⟨⟨by kernel_rfl,by kernel_rfl⟩,?_⟩|refine ⟨by decide,?_⟩|apply τt|apply τf))
  refine ⟨_, pure_tells rfl rfl rfl hs ⟨AVle.refl _, AVle.refl _, le_int hw, trivial⟩ hid, ?_⟩
  rcases o with _ | i
  all_goals
    (repeat((conv=>whnf);first|apply ω0|apply ω1|apply ω2|refine τ3 rfl ?_|refine τ4 rfl ?_|refine ⟨rfl,?_⟩|apply τa|refine τb rfl ?_|refine ⟨⟨by kernel_rfl,by kernel_rfl⟩,?_⟩|refine ⟨by decide,?_⟩|apply τt|apply τf))
    exact ret_tells rfl (AVle.refl _)
end Go.Proofs.W

namespace Go.Proofs.W
open Go.Vl
set_option maxRecDepth 100000

structure CallR where
  some : Bool
  abi : Int
  name : ByteArray
  muxed : Bool
def callC (c : CallR) : List AV := [boolA c.some, int c.abi, strA c.name, boolA c.muxed]
def callA (c : CallR) : AV := .ag (callC c)
def call0 : CallR := ⟨false, 0, ⟨#[]⟩, false⟩
def selO (arch num : Nat) : Option Nat := (infN.find? (selB arch (withB num))).map (·.1)
theorem selA_eq (arch num : Nat) : selA arch num = match selO arch num with
    | some a => .tup [int a, boolA true]
    | none => .tup [int 0, boolA false] := by
  unfold selA selO
  cases infN.find? (selB arch (withB num)) <;> rfl
theorem selO_lt {arch num a : Nat} (h : selO arch num = some a) : a < 5 := by
  unfold selO at h
  obtain ⟨x, hx, rfl⟩ := Option.map_eq_some_iff.1 h
  have := List.mem_of_find?_eq_some hx
  simp only [infN, List.mem_cons, List.not_mem_nil, or_false] at this
  rcases this with rfl | rfl | rfl | rfl | rfl <;> decide
def kindO (a num : Nat) : Nat := if a = 2 then kindI num else 0
/-- Which call a record is. -/
def ofI (l : List TRow) (r : Rec) : CallR := match selO r.arch r.num with
  | none => call0
  | some a => if 0 < kindO a r.num then ⟨true, a, nameO l (l.findIdx? (subB (kindO a r.num) ((r.a0 % 4294967296 : Nat) : Int))), true⟩
    else ⟨true, a, nameO l (l.findIdx? (nameB5 a ((ownI a r.num : Nat) : Int))), false⟩
theorem int2 {a : Nat} : ((a : Int) == 2) = decide (a = 2) := by
  rw [Bool.eq_iff_iff]; simp; omega
set_option maxHeartbeats 4000000 in
theorem muxof_spec (l : List TRow) (r : Rec) (hr : r.ok) (hl : l.length ≤ 1000000000) : Tells Tryz.prog 24 [trows l, recA r] (callA (ofI l r)) := by
  have hs := select_spec r.arch r.num hr.2.1 hr.1
  rw [selA_eq] at hs
  unfold ofI
  cases hso : selO r.arch r.num with
  | none =>
    rw [hso] at hs
    refine tells_of_aw Tryz.func24 rfl rfl fun nx => ?_
    (repeat((conv=>whnf);first|apply ω0|apply ω1|apply ω2|refine τ3 rfl ?_|refine τ4 rfl ?_|refine ⟨rfl,?_⟩|apply τa|refine τb rfl ?_|refine ⟨⟨by kernel_rfl,by kernel_rfl⟩,?_⟩|refine ⟨by decide,?_⟩|apply τt|apply τf))
    refine aop_tells rfl rfl hs ⟨AVle.refl _, AVle.refl _, trivial⟩ fun nx2 => ?_
    (repeat((conv=>whnf);first|apply ω0|apply ω1|apply ω2|refine τ3 rfl ?_|refine τ4 rfl ?_|refine ⟨rfl,?_⟩|apply τa|refine τb rfl ?_|refine ⟨⟨by kernel_rfl,by kernel_rfl⟩,?_⟩|refine ⟨by decide,?_⟩|apply τt|apply τf))
    exact ret_tells_all rfl ⟨rfl, trivial⟩ (AVle.refl _)
  | some a =>
    rw [hso] at hs
    dsimp only at hs ⊢
    have ha := selO_lt hso
    have hk := muxkind_spec r.num
    have hm := fun k => muxed_spec l k r hl
    have hd := direct_spec l a ha r hr hl
    by_cases e : a = 2
    · have ek : kindO a r.num = kindI r.num := if_pos e
      rw [ek]
      have hm := hm (kindI r.num)
      generalize kindI r.num = k at hk hm ⊢
      by_cases hk0 : 0 < k
      · rw [if_pos hk0]
        have hd0 : decide ((k : Int) > 0) = true := decide_eq_true (by omega)
        refine tells_of_aw Tryz.func24 rfl rfl fun nx => ?_
        (repeat((conv=>whnf);first|apply ω0|apply ω1|apply ω2|refine τ3 rfl ?_|refine τ4 rfl ?_|refine ⟨rfl,?_⟩|apply τa|refine τb rfl ?_|refine ⟨⟨by kernel_rfl,by kernel_rfl⟩,?_⟩|refine ⟨by decide,?_⟩|apply τt|apply τf))
        refine aop_tells rfl rfl hs ⟨AVle.refl _, AVle.refl _, trivial⟩ fun nx2 => ?_
        (repeat((conv=>whnf);first|apply ω0|apply ω1|apply ω2|refine τ3 rfl ?_|refine τ4 rfl ?_|refine ⟨rfl,?_⟩|apply τa|refine τb rfl ?_|refine ⟨⟨by kernel_rfl,by kernel_rfl⟩,?_⟩|refine ⟨by decide,?_⟩|apply τt|apply τf))
        intro c hc
        have hc2 : c = decide (a = 2) := hc.trans int2
        clear hc
        have hc3 : c = true := hc2.trans (decide_eq_true e)
        clear hc2; subst hc3
        (repeat((conv=>whnf);first|apply ω0|apply ω2|refine τ3 rfl ?_|refine τ4 rfl ?_|refine ⟨rfl,?_⟩|apply τa|refine τb rfl ?_|refine ⟨⟨by kernel_rfl,by kernel_rfl⟩,?_⟩|refine ⟨by decide,?_⟩|apply τt|apply τf))
        refine aw_region ?_
        (repeat((conv=>whnf);first|apply ω0|apply ω2|refine τ3 rfl ?_|refine τ4 rfl ?_|refine ⟨rfl,?_⟩|apply τa|refine τb rfl ?_|refine ⟨⟨by kernel_rfl,by kernel_rfl⟩,?_⟩|refine ⟨by decide,?_⟩|apply τt|apply τf))
        refine aop_tells rfl rfl hk ⟨AVle.refl _, trivial⟩ fun nx3 => ?_
        (repeat((conv=>whnf);first|apply ω0|apply ω2|refine τ3 rfl ?_|refine τ4 rfl ?_|refine ⟨rfl,?_⟩|apply τa|refine τb rfl ?_|refine ⟨⟨by kernel_rfl,by kernel_rfl⟩,?_⟩|refine ⟨by decide,?_⟩|apply τt|apply τf))
        refine aw_freeze (n := 41) (nx := nx3) (nn := 6) (pm := []) (bx := [((4, nx2 + 1), .c (callC ⟨true, a, ⟨#[]⟩, false⟩)), ((2, nx + 2), .c (callC call0))]) (L := [(2, .rp [trows l]), (3, .rp (recC r)), (4, .bp (2, nx + 2) 0), (5, .rp [int a]), (7, .bp (4, nx2 + 1) 0), (8, .rp [int k])]) (df := some []) [((5, nx2 + 2), .c [int k]), ((3, nx2), .c [int a]), ((1, nx + 1), .c (recC r)), ((0, nx), .c [trows l])] rfl rfl rfl (.cons _ ((List.Perm.swap _ _ _).trans (.cons _ (List.perm_append_comm (l₁ := [_, _]) (l₂ := [_, _]))))) (List.Sublist.refl _) ⟨Frz.bp (.tail _ (.tail _ (.tail _ (.head _)))) rfl, Frz.bp (.tail _ (.tail _ (.head _))) rfl, Frz.refl _, Frz.bp (.tail _ (.head _)) rfl, Frz.refl _, Frz.bp (.head _) rfl, trivial⟩ ?_
        (repeat((conv=>whnf);first|apply ω0|apply ω1|apply ω2|refine τ3 rfl ?_|refine τ4 rfl ?_|refine ⟨rfl,?_⟩|apply τa|refine τb rfl ?_|refine ⟨⟨by kernel_rfl,by kernel_rfl⟩,?_⟩|refine ⟨by decide,?_⟩|apply τt|apply τf))
        (conv => whnf)
        refine lit_eq hd0 ?_
        (repeat((conv=>whnf);first|apply ω0|apply ω1|apply ω2|refine τ3 rfl ?_|refine τ4 rfl ?_|refine ⟨rfl,?_⟩|apply τa|refine τb rfl ?_|refine ⟨⟨by kernel_rfl,by kernel_rfl⟩,?_⟩|refine ⟨by decide,?_⟩|apply τt|apply τf))
        refine aop_tells rfl rfl hm ⟨AVle.refl _, AVle.refl _, AVle.refl _, trivial⟩ fun nx4 => ?_
        (repeat((conv=>whnf);first|apply ω0|apply ω1|apply ω2|refine τ3 rfl ?_|refine τ4 rfl ?_|refine ⟨rfl,?_⟩|apply τa|refine τb rfl ?_|refine ⟨⟨by kernel_rfl,by kernel_rfl⟩,?_⟩|refine ⟨by decide,?_⟩|apply τt|apply τf))
        exact ret_tells_all rfl ⟨rfl, trivial⟩ (AVle.refl _)
      · obtain rfl : k = 0 := by omega
        rw [if_neg hk0]
        refine tells_of_aw Tryz.func24 rfl rfl fun nx => ?_
        (repeat((conv=>whnf);first|apply ω0|apply ω1|apply ω2|refine τ3 rfl ?_|refine τ4 rfl ?_|refine ⟨rfl,?_⟩|apply τa|refine τb rfl ?_|refine ⟨⟨by kernel_rfl,by kernel_rfl⟩,?_⟩|refine ⟨by decide,?_⟩|apply τt|apply τf))
        refine aop_tells rfl rfl hs ⟨AVle.refl _, AVle.refl _, trivial⟩ fun nx2 => ?_
        (repeat((conv=>whnf);first|apply ω0|apply ω1|apply ω2|refine τ3 rfl ?_|refine τ4 rfl ?_|refine ⟨rfl,?_⟩|apply τa|refine τb rfl ?_|refine ⟨⟨by kernel_rfl,by kernel_rfl⟩,?_⟩|refine ⟨by decide,?_⟩|apply τt|apply τf))
        intro c hc
        have hc2 : c = decide (a = 2) := hc.trans int2
        clear hc
        have hc3 : c = true := hc2.trans (decide_eq_true e)
        clear hc2; subst hc3
        (repeat((conv=>whnf);first|apply ω0|apply ω2|refine τ3 rfl ?_|refine τ4 rfl ?_|refine ⟨rfl,?_⟩|apply τa|refine τb rfl ?_|refine ⟨⟨by kernel_rfl,by kernel_rfl⟩,?_⟩|refine ⟨by decide,?_⟩|apply τt|apply τf))
        refine aw_region ?_
        (repeat((conv=>whnf);first|apply ω0|apply ω2|refine τ3 rfl ?_|refine τ4 rfl ?_|refine ⟨rfl,?_⟩|apply τa|refine τb rfl ?_|refine ⟨⟨by kernel_rfl,by kernel_rfl⟩,?_⟩|refine ⟨by decide,?_⟩|apply τt|apply τf))
        refine aop_tells rfl rfl hk ⟨AVle.refl _, trivial⟩ fun nx3 => ?_
        (repeat((conv=>whnf);first|apply ω0|apply ω2|refine τ3 rfl ?_|refine τ4 rfl ?_|refine ⟨rfl,?_⟩|apply τa|refine τb rfl ?_|refine ⟨⟨by kernel_rfl,by kernel_rfl⟩,?_⟩|refine ⟨by decide,?_⟩|apply τt|apply τf))
        refine aw_freeze (n := 41) (nx := nx3) (nn := 6) (pm := []) (bx := [((4, nx2 + 1), .c (callC ⟨true, a, ⟨#[]⟩, false⟩)), ((2, nx + 2), .c (callC call0))]) (L := [(2, .rp [trows l]), (3, .rp (recC r)), (4, .bp (2, nx + 2) 0), (5, .rp [int a]), (7, .bp (4, nx2 + 1) 0), (8, .rp [int ((0 : Nat) : Int)])]) (df := some []) [((5, nx2 + 2), .c [int ((0 : Nat) : Int)]), ((3, nx2), .c [int a]), ((1, nx + 1), .c (recC r)), ((0, nx), .c [trows l])] rfl rfl rfl (.cons _ ((List.Perm.swap _ _ _).trans (.cons _ (List.perm_append_comm (l₁ := [_, _]) (l₂ := [_, _]))))) (List.Sublist.refl _) ⟨Frz.bp (.tail _ (.tail _ (.tail _ (.head _)))) rfl, Frz.bp (.tail _ (.tail _ (.head _))) rfl, Frz.refl _, Frz.bp (.tail _ (.head _)) rfl, Frz.refl _, Frz.bp (.head _) rfl, trivial⟩ ?_
        (repeat((conv=>whnf);first|apply ω0|apply ω1|apply ω2|refine τ3 rfl ?_|refine τ4 rfl ?_|refine ⟨rfl,?_⟩|apply τa|refine τb rfl ?_|refine ⟨⟨by kernel_rfl,by kernel_rfl⟩,?_⟩|refine ⟨by decide,?_⟩|apply τt|apply τf))
        refine aop_tells rfl rfl hd ⟨AVle.refl _, AVle.refl _, AVle.refl _, trivial⟩ fun nx4 => ?_
        (repeat((conv=>whnf);first|apply ω0|apply ω1|apply ω2|refine τ3 rfl ?_|refine τ4 rfl ?_|refine ⟨rfl,?_⟩|apply τa|refine τb rfl ?_|refine ⟨⟨by kernel_rfl,by kernel_rfl⟩,?_⟩|refine ⟨by decide,?_⟩|apply τt|apply τf))
        exact ret_tells_all rfl ⟨rfl, trivial⟩ (AVle.refl _)
    · have ek : kindO a r.num = 0 := if_neg e
      rw [ek, if_neg (by decide)]
      refine tells_of_aw Tryz.func24 rfl rfl fun nx => ?_
      (repeat((conv=>whnf);first|apply ω0|apply ω1|apply ω2|refine τ3 rfl ?_|refine τ4 rfl ?_|refine ⟨rfl,?_⟩|apply τa|refine τb rfl ?_|refine ⟨⟨by kernel_rfl,by kernel_rfl⟩,?_⟩|refine ⟨by decide,?_⟩|apply τt|apply τf))
      refine aop_tells rfl rfl hs ⟨AVle.refl _, AVle.refl _, trivial⟩ fun nx2 => ?_
      (repeat((conv=>whnf);first|apply ω0|apply ω1|apply ω2|refine τ3 rfl ?_|refine τ4 rfl ?_|refine ⟨rfl,?_⟩|apply τa|refine τb rfl ?_|refine ⟨⟨by kernel_rfl,by kernel_rfl⟩,?_⟩|refine ⟨by decide,?_⟩|apply τt|apply τf))
      intro c hc
      have hc2 : c = decide (a = 2) := hc.trans int2
      clear hc
      have hc3 : c = false := hc2.trans (decide_eq_false e)
      clear hc2; subst hc3
      (repeat((conv=>whnf);first|apply ω0|apply ω2|refine τ3 rfl ?_|refine τ4 rfl ?_|refine ⟨rfl,?_⟩|apply τa|refine τb rfl ?_|refine ⟨⟨by kernel_rfl,by kernel_rfl⟩,?_⟩|refine ⟨by decide,?_⟩|apply τt|apply τf))
      refine aw_freeze (n := 41) (nx := nx2 + 3) (nn := 6) (pm := []) (bx := [((4, nx2 + 1), .c (callC ⟨true, a, ⟨#[]⟩, false⟩)), ((2, nx + 2), .c (callC call0))]) (L := [(2, .rp [trows l]), (3, .rp (recC r)), (4, .bp (2, nx + 2) 0), (5, .rp [int a]), (7, .bp (4, nx2 + 1) 0), (8, .rp [int 0])]) (df := some []) [((5, nx2 + 2), .c [int 0]), ((3, nx2), .c [int a]), ((1, nx + 1), .c (recC r)), ((0, nx), .c [trows l])] rfl rfl rfl (.cons _ ((List.Perm.swap _ _ _).trans (.cons _ (List.perm_append_comm (l₁ := [_, _]) (l₂ := [_, _]))))) (List.Sublist.refl _) ⟨Frz.bp (.tail _ (.tail _ (.tail _ (.head _)))) rfl, Frz.bp (.tail _ (.tail _ (.head _))) rfl, Frz.refl _, Frz.bp (.tail _ (.head _)) rfl, Frz.refl _, Frz.bp (.head _) rfl, trivial⟩ ?_
      (repeat((conv=>whnf);first|apply ω0|apply ω1|apply ω2|refine τ3 rfl ?_|refine τ4 rfl ?_|refine ⟨rfl,?_⟩|apply τa|refine τb rfl ?_|refine ⟨⟨by kernel_rfl,by kernel_rfl⟩,?_⟩|refine ⟨by decide,?_⟩|apply τt|apply τf))
      refine aop_tells rfl rfl hd ⟨AVle.refl _, AVle.refl _, AVle.refl _, trivial⟩ fun nx4 => ?_
      (repeat((conv=>whnf);first|apply ω0|apply ω1|apply ω2|refine τ3 rfl ?_|refine τ4 rfl ?_|refine ⟨rfl,?_⟩|apply τa|refine τb rfl ?_|refine ⟨⟨by kernel_rfl,by kernel_rfl⟩,?_⟩|refine ⟨by decide,?_⟩|apply τt|apply τf))
      exact ret_tells_all rfl ⟨rfl, trivial⟩ (AVle.refl _)
end Go.Proofs.W

namespace Go.Proofs.W
open Go.Vl
set_option maxRecDepth 100000

theorem splitV_to {a b : AV} {K : AV → Prop} (h : a = b) (hk : splitV b K) : splitV a K := h ▸ hk
end Go.Proofs.W

namespace Go.Proofs.W
open Go.Vl
set_option maxRecDepth 100000

/- Maps by names, of anything: how they are looked up, how they grow; frozen with what they point to. -/
def kS (s t : ByteArray) : Bool := s.toList == t.toList
section
variable {α : Type} {nm : α → ByteArray} {val : α → AV}
end
end Go.Proofs.W

namespace Go.Proofs.W
open Go.Vl
set_option maxRecDepth 100000

/-- What is gathered of a name, and where it stands. -/
structure Ent where
  name : ByteArray
  m : Nat
  a : Nat → Nat
  b : Nat → Bool
  st : Nat
/-- What is gathered, without places. -/
structure Gat where
  name : ByteArray
  m : Nat
  a : Nat → Nat
  b : Nat → Bool
end Go.Proofs.W

namespace Go.Proofs.W
open Go.Vl
set_option maxRecDepth 100000

theorem size0 {s : ByteArray} : (s.toList == (⟨#[]⟩ : ByteArray).toList) = decide (s.size = 0) := by
  rw [Lib.toList_data, Lib.toList_data, Bool.eq_iff_iff, beq_iff_eq, decide_eq_true_iff]
  obtain ⟨⟨a⟩⟩ := s
  show a = [] ↔ a.length = 0
  exact List.length_eq_zero_iff.symm
theorem ofI_abi {l : List TRow} {r : Rec} (h : ¬ (ofI l r).name.size = 0) : (ofI l r).abi.toNat < 5 ∧ (ofI l r).abi = ((ofI l r).abi.toNat : Int) := by
  unfold ofI at h ⊢
  cases hs : selO r.arch r.num with
  | none => rw [hs] at h; exact absurd rfl h
  | some a =>
    have ha := selO_lt hs
    dsimp only
    split
    · exact ⟨by simpa using ha, by simp⟩
    · exact ⟨by simpa using ha, by simp⟩
theorem noid_arr {x : Nat → Nat} : NoId (arrA x) := by unfold arrA; exact NoId.ag (by intro y hy; simp at hy; rcases hy with rfl | rfl | rfl | rfl | rfl | rfl <;> exact NoId.v _)
end Go.Proofs.W

namespace Go.Proofs.W
open Go.Vl
set_option maxRecDepth 100000

end Go.Proofs.W

namespace Go.Proofs
open Go.Shelf
shelf_lay_g SlLaysM.n6 Slgm 6 at Tryz 127 as Tryz.laysM6
end Go.Proofs
namespace Go.Proofs.W
open Go.Vl Go.Shelf
set_option maxRecDepth 100000

end Go.Proofs.W
