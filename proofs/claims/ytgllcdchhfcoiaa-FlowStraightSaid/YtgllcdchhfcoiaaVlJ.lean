/- Calls whose result is told. -/
import Derived.Test.YtgllcdchhfcoiaaVlI
namespace Go.Vl
open Go.RowKit
variable {P : Program}

/-- The function gives what s tells. -/
def Tells (P : Program) (f : FuncId) (as : List AV) (s : AV) : Prop := PCall P f as fun r => AVle r s
theorem Tells.args {f : FuncId} {as bs : List AV} {s : AV} (hl : LeL as bs) (h : Tells P f bs s) : Tells P f as s := PCall.args hl h
theorem Tells.le {f : FuncId} {as : List AV} {s s' : AV} (hl : AVle s s') (h : Tells P f as s) : Tells P f as s' := PCall.mono h fun _ hr => hr.trans hl
theorem Tells.of_eq {f : FuncId} {as : List AV} {s s' : AV} (hl : s = s') (h : Tells P f as s) : Tells P f as s' := hl ▸ h

theorem tells_of_aw {f : FuncId} {fn : Func} {c : Code} {args : List AV} {s : AV} (hf : P.funcs[f]? = some fn) (hb : fn.body = some c) (hn : (fn.name == "runtime.NumGoroutine") = false)
    (hw : ∀ nx, AW P c (entry fn args ⟨[], [], nx, 0⟩) (retQ P fn fun r _ => AVle r s)) : Tells P f args s := pcall_of_aw hf hb hn hw
theorem tells_bool {f : FuncId} {as : List AV} {b : Bool} (h : Tells P f as (.v (.bool b))) : Tells P f as (.v (.bool b)) := h

theorem aop_tells {o : Oper} {E : Env} {K : Env → Prop} {fo : Operand} {args : Array Operand} {tys : Array TypeId} {f : FuncId} {first caps as : List AV} {s : AV} {Kp : AV → Env → Prop}
    (ho : o.op = .call { callee := .value fo, args := args, argTypes := tys }) (hf : E.ev fo = .fn (.func f) first caps)
    (hc : Tells P f as s) (hl : LeL (first ++ args.toList.map E.ev ++ caps) as)
    (hk : ∀ nx, splitB s fun s => K (({ E with h := { E.h with nx := nx } } : Env).set o.dst s)) : AOp P o E K Kp :=
  aop_call ho hf ((PCall.over hc E.h).args hl) fun r h' ⟨h1, h2, h3⟩ =>
    ⟨s, { E.h with nx := h'.nx }, h1, ⟨by rw [h2], by rw [h3], rfl⟩, splitB_use (hk h'.nx)⟩

theorem yields_tells {o : Oper} {E : Env} {fo : Operand} {args : Array Operand} {tys : Array TypeId} {f : FuncId} {first caps as : List AV} {s : AV}
    (ho : o.op = .call { callee := .value fo, args := args, argTypes := tys }) (hf : E.ev fo = .fn (.func f) first caps)
    (hc : Tells P f as s) (hl : LeL (first ++ args.toList.map E.ev ++ caps) as) (hid : NoId s) : Yields P o E s :=
  yields_pcall ho hf hc hl (fun _ h => h) hid

theorem ex_yields {o : Oper} {E : Env} {s : AV} {K : AV → Prop} (h : Yields P o E s) (hk : splitO o.op s K) : ∃ r, Yields P o E r ∧ splitO o.op r K := ⟨s, h, hk⟩

theorem ret_tells {fn : Func} {E : Env} {r s : AV} (h : ares P fn E = some ([], r)) (hq : AVle r s) : resQ P fn (fun r _ => AVle r s) E := ret_is h hq
theorem ret_tells_all {fn : Func} {E : Env} {cs : List Prop} {r s : AV} (h : ares P fn E = some (cs, r)) (hc : allP cs) (hq : AVle r s) : resQ P fn (fun r _ => AVle r s) E := ret_all h hc hq
theorem NoId.fn {f : Fn} {a b : List AV} (h : ∀ c ∈ a, NoId c) (h' : ∀ c ∈ b, NoId c) : NoId (.fn f a b) := fun w X g g' u hr => by
  cases hr with
  | fn _ _ _ v1 v2 n1 n2 r1 r2 => exact .fn _ _ _ v1 v2 n1 n2 (fun k c u hc hu => h c (List.mem_of_getElem? hc) w X g g' u (r1 k c u hc hu)) (fun k c u hc hu => h' c (List.mem_of_getElem? hc) w X g g' u (r2 k c u hc hu))
theorem NoId.rp {cs : List AV} (h : ∀ c ∈ cs, NoId c) : NoId (.rp cs) := fun w X g g' u hr => by
  cases hr with
  | rp _ b off vs hn hcell hr => exact .rp _ b off vs hn hcell fun k c u hc hu => h c (List.mem_of_getElem? hc) w X g g' u (hr k c u hc hu)
theorem ele_keep {E : Env} {n : Nat} {bx : List (Id × Own)} {pm : List (Id × Nat)} {nx nn : Nat} {L : List (Nat × AV)} (hn : E.n = n) (hx : E.h.nx = nx) (hb : bx.Sublist E.h.bx) (hp : pm.Sublist E.h.pm)
    (hL : LeT E.t L) : ELe E (mk n L ⟨bx, pm, nx, nn⟩ E.df) := by
  subst hn; subst hx
  exact ELe.trans (ele_drop hb hp) (ele_mk (E := { E with h := ⟨bx, pm, E.h.nx, nn⟩ }) rfl rfl hL)
theorem take_getD {α : Type} {l : List α} {i : Nat} (d : α) (h : i < l.length) : l.take (i + 1) = l.take i ++ [l.getD i d] := by
  rw [List.take_add_one, List.getElem?_eq_getElem h]
  simp [List.getD, h]
theorem not_of {p : Prop} [Decidable p] (h : false = decide p) : ¬ p := of_decide_eq_false h.symm
theorem yes_of {p : Prop} [Decidable p] (h : true = decide p) : p := of_decide_eq_true h.symm
def pmOf : Option Id → Nat → List (Id × Nat)
  | none, _ => []
  | some i, n => [(i, n)]
theorem AVle.os_nm {sz n : Nat} {f : Nat → AV} {i j : Id} (h : i.2 = j.2) : AVle (.os sz n f (some i)) (.os sz n f (some j)) := fun w X g u hr => by
  cases hr with
  | oss _ _ _ _ b cap vs hg hlen hcap hcell hroom hc hr => exact .oss _ _ _ _ b cap vs (h ▸ hg) hlen hcap hcell hroom hc hr
theorem AVle.bp_nm {i j : Id} {off : Nat} (h : i.2 = j.2) : AVle (.bp i off) (.bp j off) := fun w X g u hr => by
  cases hr with
  | bp _ _ b hg => exact .bp _ _ b (h ▸ hg)
theorem AVle.hs_nm {i j : Id} {off n cap : Nat} (h : i.2 = j.2) : AVle (.hs i off n cap) (.hs j off n cap) := fun w X g u hr => by
  cases hr with
  | hs _ _ _ _ b hg => exact .hs _ _ _ _ b (h ▸ hg)
theorem appF_one {n : Nat} {f f' h : Nat → AV} (h1 : ∀ k, k < n → f k = h k) (h2 : f' 0 = h n) : ∀ k, k < n + 1 → appF n f f' k = h k := fun k hk => by
  unfold appF
  cases hb : Nat.blt k n with
  | true => simp only [cond_true]; exact h1 k (blt_true hb)
  | false =>
    have : k = n := by
      rcases Nat.lt_or_ge k n with h' | h'
      · rw [blt_iff.2 h'] at hb; cases hb
      · omega
    subst this
    simp only [cond_false, Nat.sub_self]; exact h2
/-- Memory told anew, under other names. -/
theorem ele_nm {E : Env} {n : Nat} {bx : List (Id × Own)} {pm : List (Id × Nat)} {nx nn : Nat} {L : List (Nat × AV)} (bx' : List (Id × Own)) (pm' : List (Id × Nat)) (hn : E.n = n) (hx : E.h.nx = nx) (hb : bx'.Sublist E.h.bx) (hp : pm'.Sublist E.h.pm)
    (eb : bx.map (fun p => (p.1.2, p.2)) = bx'.map (fun p => (p.1.2, p.2))) (ep : pm.map (fun p => (p.1.2, p.2)) = pm'.map (fun p => (p.1.2, p.2))) (hL : LeT E.t L) : ELe E (mk n L ⟨bx, pm, nx, nn⟩ E.df) := by
  subst hn; subst hx
  exact ELe.trans (ele_drop (nn := nn) hb hp) (ELe.trans (ele_like (E := { E with h := ⟨bx', pm', E.h.nx, nn⟩ }) (h' := ⟨bx, pm, E.h.nx, nn⟩) ⟨.of_eq eb, .of_eq ep, rfl⟩) (ele_mk (E := { E with h := ⟨bx, pm, E.h.nx, nn⟩ }) rfl rfl hL))
/-- A row under the name 0 (or none yet). -/
def nmd : Option Nat → Option Id
  | none => none
  | some k => some (0, k)
theorem read_all {ts : List TypeId} (h : (ts.all fun t => P.readableRec t && decide (t < P.types.size)) = true) : ∀ t ∈ ts, P.readableRec t = true ∧ t < P.types.size := fun t ht => by
  have := List.all_eq_true.1 h t ht
  simp only [Bool.and_eq_true, decide_eq_true_eq] at this
  exact this
theorem slOf_map {α β : Type} {sz : Nat} {e : α → AV} {e' : β → AV} {d : α} (f : α → β) (he : ∀ x, e x = e' (f x)) (l : List α) : slOf sz e d l = slOf sz e' (f d) (l.map f) := by
  unfold slOf
  rw [List.length_map]
  congr 1
  funext k
  rw [he]
  simp only [List.getD_eq_getElem?_getD, List.getElem?_map]
  cases l[k]? <;> rfl
theorem lit_true {K : Bool → Prop} (h : K true) : ∀ c, c = true → K c := fun c hc => hc ▸ h
theorem lit_false {K : Bool → Prop} (h : K false) : ∀ c, c = false → K c := fun c hc => hc ▸ h
/-- Each number below n. -/
def allK : Nat → (Nat → Prop) → Prop
  | 0, _ => True
  | n + 1, p => allK n p ∧ p n
theorem allK_use {p : Nat → Prop} : ∀ {n : Nat}, allK n p → ∀ k, k < n → p k
  | 0, _, k, hk => absurd hk (by omega)
  | n + 1, h, k, hk => by
    rcases Nat.lt_or_ge k n with h' | h'
    · exact allK_use h.1 k h'
    · obtain rfl : k = n := by omega
      exact h.2
def rowF (l : List AV) (k : Nat) : AV := l.getD k .any
theorem le_rowF {sz n : Nat} {f : Nat → AV} {oi : Option Id} {l : List AV} (h : allK n fun k => f k = rowF l k) : AVle (.os sz n f oi) (.sl sz n (rowF l)) := AVle.os_sl.trans (AVle.sl_fun (allK_use h))
end Go.Vl
