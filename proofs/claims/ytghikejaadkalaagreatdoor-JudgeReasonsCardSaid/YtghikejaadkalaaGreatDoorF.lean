/- Why a record gets what it gets, by the program. -/
import Derived.Test.YtghikejaadkalaaGreatDoorE
import Derived.Test.YtghikejaadkalaaGreatDoorC
import Derived.Test.YtghikejaadkalaaGreatDoorD
import Derived.Shelf.Strconv.Itoa3
import Derived.Shelf.Lay
import Derived.Ground.NamesProg
import Derived.Test.YtghikejaadkalaaGreatDoorProg
set_option linter.unusedVariables false
set_option linter.unusedSimpArgs false
namespace Go.Proofs.W
open Go.Vl
set_option maxRecDepth 100000

structure Rsn where
  some : Bool
  abi : Int
  name : ByteArray
  mux : Int
  out : Bool
  rule : Int
  code : Nat
def rsnC (x : Rsn) : List AV := [boolA x.some, int x.abi, strA x.name, int x.mux, boolA x.out, int x.rule, u32 (x.code : Nat)]
def rsnA (x : Rsn) : AV := .ag (rsnC x)
def rsn0 : Rsn := ⟨false, 0, ⟨#[]⟩, 0, false, 0, 0⟩
theorem idxf_rulC (x y : List AV) (l : List Rul) (p : Rul → Bool) (f : Nat) (hl : l.length ≤ 1000000000) (hp : ∀ i, i < l.length → Tells Tryz.prog f (rulA (l.getD i rul0) :: [.rp x, .rp y]) (boolA (p (l.getD i rul0)))) :
    Tells Tryz.prog 67 [ruls l, (.fn (.func f) [] [.rp x, .rp y])] (int (optI (l.findIdx? p))) := by
  refine tells_of_aw Tryz.func67 rfl rfl fun nx => ?_
  refine stp ?_
  refine aw_loop (fun s : Nat × Nat => mk 19 [(0, slOf 4 rulA rul0 l), (1, (.fn (.func f) [] [.rp x, .rp y])), (7, int l.length), (8, int s.1)] ⟨[], [], s.2, 0⟩) (fun s => s.1 ≤ l.length ∧ ∀ j, j < s.1 → p (l.getD j rul0) = false) (fun s => l.length - s.1) ?_ ?_
  · exact ⟨(0, nx), ⟨by simp, by intro j hj; simp at hj⟩, ele_mk rfl rfl ⟨AVle.refl _, AVle.refl _, AVle.refl _, AVle.refl _, trivial⟩⟩
  · rintro ⟨i, nx⟩ ⟨h1, h2⟩
    dsimp only at h1 h2
    refine stp ?_
    intro c h3; cases c
    · have h3 := not_of h3
      dsimp only at h3
      refine stp ?_
      refine ret_tells rfl (le_int ?_)
      rw [idx_none rul0 (fun j hj => h2 j (by omega))]; rfl
    · have h3 := yes_of h3
      dsimp only at h3
      have hi : i < l.length := by omega
      refine stp ?_
      refine ⟨⟨by dsimp only; omega, by dsimp only; omega⟩, ?_⟩
      refine stp ?_
      refine aop_tells rfl rfl (hp i hi) ⟨AVle.refl _, AVle.refl _, AVle.refl _, trivial⟩ fun nx' => ?_
      intro c h4; cases c
      · refine stp ?_
        refine back (i + 1, nx') ⟨by dsimp only; omega, fun j hj => ?_⟩ (by dsimp only; omega) (ele_mk rfl rfl ⟨AVle.refl _, AVle.refl _, AVle.refl _, le_int (wrap_succ (by dsimp only; omega)), trivial⟩)
        dsimp only at hj
        rcases Nat.lt_or_ge j i with h | h
        · exact h2 j h
        · obtain rfl : j = i := by omega
          exact h4.symm
      · refine stp ?_
        refine ret_tells rfl (le_int ?_)
        rw [idx_at rul0 hi h2 h4.symm]; rfl
def whyB (c : CallR) (x : Nat → Nat) (r : Rul) : Bool := kS r.name c.name && (c.muxed || letB x r)
def arrB (x : Nat → Nat) : List AV := [u64 (x 0 : Nat), u64 (x 1 : Nat), u64 (x 2 : Nat), u64 (x 3 : Nat), u64 (x 4 : Nat), u64 (x 5 : Nat)]
theorem why1_spec (c : CallR) (x : Nat → Nat) (hx : ∀ i, x i < 18446744073709551616) (r : Rul) (hl : r.conds.length ≤ 1000000000) (hc : ∀ c ∈ r.conds, c.ok) : Tells Tryz.prog 68 [rulA r, .rp (callC c), .rp (arrB x)] (boolA (whyB c x r)) := by
  have ha := all_spec x hx r.conds hl hc
  obtain ⟨so, ab, nm, mx⟩ := c
  unfold whyB
  dsimp only
  cases hk : kS r.name nm with
  | false =>
    refine tells_of_aw Tryz.func68 rfl rfl fun nx => ?_
    refine stp ?_
    intro c hc
    obtain rfl : c = false := hc.trans hk
    refine stp ?_
    exact ret_tells rfl (AVle.refl _)
  | true =>
    cases mx with
    | true =>
      refine tells_of_aw Tryz.func68 rfl rfl fun nx => ?_
      refine stp ?_
      intro c hc
      obtain rfl : c = true := hc.trans hk
      refine stp ?_
      exact ret_tells rfl (AVle.refl _)
    | false =>
      refine tells_of_aw Tryz.func68 rfl rfl fun nx => ?_
      refine stp ?_
      intro c hc
      obtain rfl : c = true := hc.trans hk
      refine stp ?_
      refine aop_tells rfl rfl ha ⟨AVle.refl _, AVle.refl _, trivial⟩ fun nx2 => ?_
      intro c hc
      refine stp ?_
      exact ret_tells rfl (le_bool (by rw [hc]; rfl))
def whyC (c : CallR) (p : Pol) (r : Rec) (v : Nat) : Rsn :=
  let out := c.some && (decide (c.abi = 1) && !p.x32)
  let mux : Int := if c.muxed then kindI r.num else 0
  if (!c.some || out || decide (c.name.size = 0)) = true then ⟨c.some, c.abi, c.name, mux, out, -1, v⟩ else
    let i := p.rules.findIdx? (whyB c (argI c.abi.toNat r))
    ⟨c.some, c.abi, c.name, mux, out, if (c.muxed && match i with | some j => decide ((p.rules.getD j rul0).conds.length > 0) | none => false) = true then -1 else optI i, v⟩
def whyR (p : Pol) (l : List TRow) (r : Rec) : Rsn × Int := if (judgeR p l r).2 ≠ 0 then (rsn0, (judgeR p l r).2) else (whyC (ofI l r) p r (judgeR p l r).1, 0)
theorem z_rsn : zcells Tryz.prog 68 = some (rsnC rsn0) := by kernel_rfl
theorem le_why {x y : Rsn} (h : y = x) : AVle (.tup [rsnA x, int 0]) (.tup [rsnA y, int 0]) := h ▸ AVle.refl _
theorem idx_lt' {α : Type} {l : List α} {p : α → Bool} {i : Nat} (h : l.findIdx? p = some i) : i < l.length := (List.findIdx?_eq_some_iff_getElem.1 h).1
theorem of_eq1 {a : Int} (h : false = (a == 1)) : ¬ a = 1 := fun e => by rw [e] at h; cases h
theorem of_eq1' {a : Int} (h : true = (a == 1)) : a = 1 := by simpa using h.symm
theorem size0_of {s : ByteArray} (h : (s.toList == ByteArray.toList { data := #[] }) = true) : s.size = 0 := by
  have := kS_eq.1 (show kS s { data := #[] } = true from h)
  rw [this]; rfl
theorem size0_no {s : ByteArray} (h : (s.toList == ByteArray.toList { data := #[] }) = false) : s.size ≠ 0 := fun e => by
  have h0 : s = { data := #[] } := ByteArray.ext (Array.eq_empty_of_size_eq_zero e)
  rw [h0, beq_self_eq_true] at h
  cases h
def muxW (mx : Bool) (r : Rec) : Int := if mx then kindI r.num else 0
theorem whyC_none {ab : Int} {nm : ByteArray} {mx : Bool} {p : Pol} {r : Rec} {v : Nat} : whyC ⟨false, ab, nm, mx⟩ p r v = ⟨false, ab, nm, muxW mx r, false, -1, v⟩ := rfl
theorem whyC_out {ab : Int} {nm : ByteArray} {mx : Bool} {p : Pol} {r : Rec} {v : Nat} (h : (decide (ab = 1) && !p.x32) = true) : whyC ⟨true, ab, nm, mx⟩ p r v = ⟨true, ab, nm, muxW mx r, true, -1, v⟩ := by
  unfold whyC
  dsimp only
  rw [h]
  rfl
theorem whyC_emp {ab : Int} {nm : ByteArray} {mx : Bool} {p : Pol} {r : Rec} {v : Nat} (h : (decide (ab = 1) && !p.x32) = false) (hn : nm.size = 0) : whyC ⟨true, ab, nm, mx⟩ p r v = ⟨true, ab, nm, muxW mx r, false, -1, v⟩ := by
  unfold whyC
  dsimp only
  rw [h, hn]
  rfl
def ruleW (mx : Bool) (rs : List Rul) (i : Option Nat) : Int := if (mx && match i with | some j => decide ((rs.getD j rul0).conds.length > 0) | none => false) = true then -1 else optI i
theorem whyC_deep {ab : Int} {nm : ByteArray} {mx : Bool} {p : Pol} {r : Rec} {v : Nat} {i : Option Nat} (h : (decide (ab = 1) && !p.x32) = false) (hn : nm.size ≠ 0) (hi : p.rules.findIdx? (whyB ⟨true, ab, nm, mx⟩ (argI ab.toNat r)) = i) : whyC ⟨true, ab, nm, mx⟩ p r v = ⟨true, ab, nm, muxW mx r, false, ruleW mx p.rules i, v⟩ := by
  unfold whyC
  dsimp only
  rw [h, decide_eq_false hn, hi]
  rfl
theorem not1 {ab : Int} {x : Bool} (h : ¬ ab = 1) : (decide (ab = 1) && !x) = false := by rw [decide_eq_false h]; rfl
theorem yes1 {ab : Int} (h : ab = 1) : (decide (ab = 1) && !false) = true := by rw [decide_eq_true h]; rfl
theorem but1 {ab : Int} : (decide (ab = 1) && !true) = false := by rw [Bool.not_true, Bool.and_false]
theorem rule_yes {rs : List Rul} {j : Nat} (h : (((rs.getD j rul0).conds.length : Nat) : Int) > 0) : ruleW true rs (some j) = -1 := by
  unfold ruleW
  refine if_pos ?_
  dsimp only
  rw [Bool.true_and, decide_eq_true_iff]
  omega
theorem rule_no {rs : List Rul} {j : Nat} (h : ¬ (((rs.getD j rul0).conds.length : Nat) : Int) > 0) : ruleW true rs (some j) = optI (some j) := by
  unfold ruleW
  refine if_neg ?_
  dsimp only
  rw [Bool.true_and, decide_eq_true_iff]
  omega
theorem le_why2 {so ou : Bool} {ab mu a b : Int} {nm : ByteArray} {v : Nat} {y : Rsn} (h : y = ⟨so, ab, nm, mu, ou, b, v⟩) (e : b = a) : AVle (.tup [rsnA ⟨so, ab, nm, mu, ou, a, v⟩, int 0]) (.tup [rsnA y, int 0]) := by subst h; subst e; exact AVle.refl _
set_option maxHeartbeats 8000000 in
theorem why_none0 (k n : Int) (x32 : Bool) (rs : List Rul) (l : List TRow) (r : Rec) (v : Nat) (ab : Int) (nm : ByteArray) (hj : Tells Tryz.prog 18 [polA ⟨(k, n), x32, rs⟩, trows l, recA r] (.tup [u32 (v : Nat), int 0])) (hmx : Tells Tryz.prog 24 [trows l, recA r] (callA ⟨false, ab, nm, false⟩)) :
    Tells Tryz.prog 28 [polA ⟨(k, n), x32, rs⟩, trows l, recA r] (.tup [rsnA (whyC ⟨false, ab, nm, false⟩ ⟨(k, n), x32, rs⟩ r v), int 0]) := by
  refine tells_of_aw Tryz.func28 rfl rfl fun nx => ?_
  refine stp ?_
  refine aop_tells rfl rfl hj ⟨AVle.refl _, AVle.refl _, AVle.refl _, trivial⟩ fun nx2 => ?_
  refine stp ?_
  refine aop_tells rfl rfl hmx ⟨AVle.refl _, AVle.refl _, trivial⟩ fun nx3 => ?_
  refine stp ?_
  (refine ret_tells_all rfl ?_ ?_; (· exact ⟨rfl, trivial⟩)); exact le_why (whyC_none (mx := false) (r := r))
set_option maxHeartbeats 8000000 in
theorem why_some00 (k n : Int) (rs : List Rul) (l : List TRow) (r : Rec) (v : Nat) (ab : Int) (nm : ByteArray) (i : Option Nat) (hj : Tells Tryz.prog 18 [polA ⟨(k, n), false, rs⟩, trows l, recA r] (.tup [u32 (v : Nat), int 0])) (hmx : Tells Tryz.prog 24 [trows l, recA r] (callA ⟨true, ab, nm, false⟩))
    (hag : Tells Tryz.prog 66 [int ab, recA r] (arrA (argI ab.toNat r))) (hi : rs.findIdx? (whyB ⟨true, ab, nm, false⟩ (argI ab.toNat r)) = i) (hix : Tells Tryz.prog 67 [ruls rs, (.fn (.func 68) [] [.rp (callC ⟨true, ab, nm, false⟩), .rp (arrB (argI ab.toNat r))])] (int (optI i))) :
    Tells Tryz.prog 28 [polA ⟨(k, n), false, rs⟩, trows l, recA r] (.tup [rsnA (whyC ⟨true, ab, nm, false⟩ ⟨(k, n), false, rs⟩ r v), int 0]) := by
  refine tells_of_aw Tryz.func28 rfl rfl fun nx => ?_
  refine stp ?_
  refine aop_tells rfl rfl hj ⟨AVle.refl _, AVle.refl _, AVle.refl _, trivial⟩ fun nx2 => ?_
  refine stp ?_
  refine aop_tells rfl rfl hmx ⟨AVle.refl _, AVle.refl _, trivial⟩ fun nx3 => ?_
  refine stp ?_
  intro c t1; cases c
  · have hX : (decide (ab = 1) && !false) = false := not1 (of_eq1 t1)
    refine stp ?_
    intro c hc
    cases c
    rotate_left
    · refine stp ?_
      (refine ret_tells_all rfl ?_ ?_; (· exact ⟨rfl, trivial⟩)); exact le_why (whyC_emp (p := ⟨(k, n), false, rs⟩) (mx := false) (r := r) hX (size0_of hc.symm))
    · have hnm : nm.size ≠ 0 := size0_no hc.symm
      refine stp ?_
      refine aop_tells rfl rfl hag ⟨AVle.refl _, AVle.refl _, trivial⟩ fun nx5 => ?_
      refine stpR ?_
      refine aw_freeze (n := 95) (nx := nx5 + 1) (nn := 6) (pm := []) (bx := [((4, nx3 + 1), .c (rsnC ⟨true, ab, nm, muxW false r, false, -1, v⟩)), ((2, nx + 2), .c (rsnC rsn0)), ((1, nx + 1), .c (recC r)), ((0, nx), .c [int k, int n, boolA false, ruls rs])]) (L := [(1, trows l), (3, .bp (0, nx) 0), (5, .bp (1, nx + 1) 0), (6, .bp (2, nx + 2) 0), (7, int 0), (8, u32 (v : Nat)), (9, int 0), (10, .rp (callC ⟨true, ab, nm, false⟩)), (11, .bp (4, nx3 + 1) 0), (12, .rp (arrB (argI ab.toNat r)))]) (df := some []) [((5, nx5), .c (arrB (argI ab.toNat r))), ((3, nx3), .c (callC ⟨true, ab, nm, false⟩))] rfl rfl rfl (.cons _ (.swap _ _ _)) (List.Sublist.refl _) ⟨Frz.refl _, Frz.refl _, Frz.refl _, Frz.refl _, Frz.refl _, Frz.refl _, Frz.refl _, Frz.bp (.tail _ (.head _)) rfl, Frz.refl _, Frz.bp (.head _) rfl, trivial⟩ ?_
      refine stp ?_
      refine aop_tells rfl rfl hix ⟨AVle.refl _, AVle.refl _, trivial⟩ fun nx6 => ?_
      refine stp ?_
      (refine ret_tells_all rfl ?_ ?_; (· exact ⟨rfl, trivial⟩)); exact le_why2 (whyC_deep (p := ⟨(k, n), false, rs⟩) hX hnm hi) rfl
  · refine stp ?_

    (refine ret_tells_all rfl ?_ ?_; (· exact ⟨rfl, trivial⟩)); exact le_why (whyC_out (p := ⟨(k, n), false, rs⟩) (mx := false) (r := r) (yes1 (ab := ab) (of_eq1' t1)))
set_option maxHeartbeats 8000000 in
theorem why_some01 (k n : Int) (rs : List Rul) (l : List TRow) (r : Rec) (v : Nat) (ab : Int) (nm : ByteArray) (i : Option Nat) (hj : Tells Tryz.prog 18 [polA ⟨(k, n), true, rs⟩, trows l, recA r] (.tup [u32 (v : Nat), int 0])) (hmx : Tells Tryz.prog 24 [trows l, recA r] (callA ⟨true, ab, nm, false⟩))
    (hag : Tells Tryz.prog 66 [int ab, recA r] (arrA (argI ab.toNat r))) (hi : rs.findIdx? (whyB ⟨true, ab, nm, false⟩ (argI ab.toNat r)) = i) (hix : Tells Tryz.prog 67 [ruls rs, (.fn (.func 68) [] [.rp (callC ⟨true, ab, nm, false⟩), .rp (arrB (argI ab.toNat r))])] (int (optI i))) :
    Tells Tryz.prog 28 [polA ⟨(k, n), true, rs⟩, trows l, recA r] (.tup [rsnA (whyC ⟨true, ab, nm, false⟩ ⟨(k, n), true, rs⟩ r v), int 0]) := by
  refine tells_of_aw Tryz.func28 rfl rfl fun nx => ?_
  refine stp ?_
  refine aop_tells rfl rfl hj ⟨AVle.refl _, AVle.refl _, AVle.refl _, trivial⟩ fun nx2 => ?_
  refine stp ?_
  refine aop_tells rfl rfl hmx ⟨AVle.refl _, AVle.refl _, trivial⟩ fun nx3 => ?_
  refine stp ?_
  intro c t1; cases c
  · have hX : (decide (ab = 1) && !true) = false := not1 (of_eq1 t1)
    refine stp ?_
    intro c hc
    cases c
    rotate_left
    · refine stp ?_
      (refine ret_tells_all rfl ?_ ?_; (· exact ⟨rfl, trivial⟩)); exact le_why (whyC_emp (p := ⟨(k, n), true, rs⟩) (mx := false) (r := r) hX (size0_of hc.symm))
    · have hnm : nm.size ≠ 0 := size0_no hc.symm
      refine stp ?_
      refine aop_tells rfl rfl hag ⟨AVle.refl _, AVle.refl _, trivial⟩ fun nx5 => ?_
      refine stpR ?_
      refine aw_freeze (n := 95) (nx := nx5 + 1) (nn := 6) (pm := []) (bx := [((4, nx3 + 1), .c (rsnC ⟨true, ab, nm, muxW false r, false, -1, v⟩)), ((2, nx + 2), .c (rsnC rsn0)), ((1, nx + 1), .c (recC r)), ((0, nx), .c [int k, int n, boolA true, ruls rs])]) (L := [(1, trows l), (3, .bp (0, nx) 0), (5, .bp (1, nx + 1) 0), (6, .bp (2, nx + 2) 0), (7, int 0), (8, u32 (v : Nat)), (9, int 0), (10, .rp (callC ⟨true, ab, nm, false⟩)), (11, .bp (4, nx3 + 1) 0), (12, .rp (arrB (argI ab.toNat r)))]) (df := some []) [((5, nx5), .c (arrB (argI ab.toNat r))), ((3, nx3), .c (callC ⟨true, ab, nm, false⟩))] rfl rfl rfl (.cons _ (.swap _ _ _)) (List.Sublist.refl _) ⟨Frz.refl _, Frz.refl _, Frz.refl _, Frz.refl _, Frz.refl _, Frz.refl _, Frz.refl _, Frz.bp (.tail _ (.head _)) rfl, Frz.refl _, Frz.bp (.head _) rfl, trivial⟩ ?_
      refine stp ?_
      refine aop_tells rfl rfl hix ⟨AVle.refl _, AVle.refl _, trivial⟩ fun nx6 => ?_
      refine stp ?_
      (refine ret_tells_all rfl ?_ ?_; (· exact ⟨rfl, trivial⟩)); exact le_why2 (whyC_deep (p := ⟨(k, n), true, rs⟩) hX hnm hi) rfl
  · have hX := but1 (ab := ab)
    refine stp ?_
    intro c hc
    cases c
    rotate_left
    · refine stp ?_
      (refine ret_tells_all rfl ?_ ?_; (· exact ⟨rfl, trivial⟩)); exact le_why (whyC_emp (p := ⟨(k, n), true, rs⟩) (mx := false) (r := r) hX (size0_of hc.symm))
    · have hnm : nm.size ≠ 0 := size0_no hc.symm
      refine stp ?_
      refine aop_tells rfl rfl hag ⟨AVle.refl _, AVle.refl _, trivial⟩ fun nx5 => ?_
      refine stpR ?_
      refine aw_freeze (n := 95) (nx := nx5 + 1) (nn := 6) (pm := []) (bx := [((4, nx3 + 1), .c (rsnC ⟨true, ab, nm, muxW false r, false, -1, v⟩)), ((2, nx + 2), .c (rsnC rsn0)), ((1, nx + 1), .c (recC r)), ((0, nx), .c [int k, int n, boolA true, ruls rs])]) (L := [(1, trows l), (3, .bp (0, nx) 0), (5, .bp (1, nx + 1) 0), (6, .bp (2, nx + 2) 0), (7, int 0), (8, u32 (v : Nat)), (9, int 0), (10, .rp (callC ⟨true, ab, nm, false⟩)), (11, .bp (4, nx3 + 1) 0), (12, .rp (arrB (argI ab.toNat r)))]) (df := some []) [((5, nx5), .c (arrB (argI ab.toNat r))), ((3, nx3), .c (callC ⟨true, ab, nm, false⟩))] rfl rfl rfl (.cons _ (.swap _ _ _)) (List.Sublist.refl _) ⟨Frz.refl _, Frz.refl _, Frz.refl _, Frz.refl _, Frz.refl _, Frz.refl _, Frz.refl _, Frz.bp (.tail _ (.head _)) rfl, Frz.refl _, Frz.bp (.head _) rfl, trivial⟩ ?_
      refine stp ?_
      refine aop_tells rfl rfl hix ⟨AVle.refl _, AVle.refl _, trivial⟩ fun nx6 => ?_
      refine stp ?_
      (refine ret_tells_all rfl ?_ ?_; (· exact ⟨rfl, trivial⟩)); exact le_why2 (whyC_deep (p := ⟨(k, n), true, rs⟩) hX hnm hi) rfl
set_option maxHeartbeats 8000000 in
theorem why_none1 (k n : Int) (x32 : Bool) (rs : List Rul) (l : List TRow) (r : Rec) (v : Nat) (ab : Int) (nm : ByteArray) (hj : Tells Tryz.prog 18 [polA ⟨(k, n), x32, rs⟩, trows l, recA r] (.tup [u32 (v : Nat), int 0])) (hmx : Tells Tryz.prog 24 [trows l, recA r] (callA ⟨false, ab, nm, true⟩)) :
    Tells Tryz.prog 28 [polA ⟨(k, n), x32, rs⟩, trows l, recA r] (.tup [rsnA (whyC ⟨false, ab, nm, true⟩ ⟨(k, n), x32, rs⟩ r v), int 0]) := by
  refine tells_of_aw Tryz.func28 rfl rfl fun nx => ?_
  refine stp ?_
  refine aop_tells rfl rfl hj ⟨AVle.refl _, AVle.refl _, AVle.refl _, trivial⟩ fun nx2 => ?_
  refine stp ?_
  refine aop_tells rfl rfl hmx ⟨AVle.refl _, AVle.refl _, trivial⟩ fun nx3 => ?_
  refine stp ?_
  refine aop_tells rfl rfl (muxkind_spec r.num) ⟨AVle.refl _, trivial⟩ fun nx4 => ?_
  refine stp ?_
  (refine ret_tells_all rfl ?_ ?_; (· exact ⟨rfl, trivial⟩)); exact le_why (whyC_none (mx := true) (r := r))
set_option maxHeartbeats 8000000 in
theorem why_some10 (k n : Int) (rs : List Rul) (l : List TRow) (r : Rec) (v : Nat) (ab : Int) (nm : ByteArray) (i : Option Nat) (hj : Tells Tryz.prog 18 [polA ⟨(k, n), false, rs⟩, trows l, recA r] (.tup [u32 (v : Nat), int 0])) (hmx : Tells Tryz.prog 24 [trows l, recA r] (callA ⟨true, ab, nm, true⟩))
    (hag : Tells Tryz.prog 66 [int ab, recA r] (arrA (argI ab.toNat r))) (hi : rs.findIdx? (whyB ⟨true, ab, nm, true⟩ (argI ab.toNat r)) = i) (hix : Tells Tryz.prog 67 [ruls rs, (.fn (.func 68) [] [.rp (callC ⟨true, ab, nm, true⟩), .rp (arrB (argI ab.toNat r))])] (int (optI i))) :
    Tells Tryz.prog 28 [polA ⟨(k, n), false, rs⟩, trows l, recA r] (.tup [rsnA (whyC ⟨true, ab, nm, true⟩ ⟨(k, n), false, rs⟩ r v), int 0]) := by
  refine tells_of_aw Tryz.func28 rfl rfl fun nx => ?_
  refine stp ?_
  refine aop_tells rfl rfl hj ⟨AVle.refl _, AVle.refl _, AVle.refl _, trivial⟩ fun nx2 => ?_
  refine stp ?_
  refine aop_tells rfl rfl hmx ⟨AVle.refl _, AVle.refl _, trivial⟩ fun nx3 => ?_
  refine stp ?_
  intro c t1; cases c
  · have hX : (decide (ab = 1) && !false) = false := not1 (of_eq1 t1)
    refine stp ?_
    refine aop_tells rfl rfl (muxkind_spec r.num) ⟨AVle.refl _, trivial⟩ fun nx4 => ?_
    refine stp ?_
    intro c hc
    cases c
    rotate_left
    · refine stp ?_
      (refine ret_tells_all rfl ?_ ?_; (· exact ⟨rfl, trivial⟩)); exact le_why (whyC_emp (p := ⟨(k, n), false, rs⟩) (mx := true) (r := r) hX (size0_of hc.symm))
    · have hnm : nm.size ≠ 0 := size0_no hc.symm
      refine stp ?_
      refine aop_tells rfl rfl hag ⟨AVle.refl _, AVle.refl _, trivial⟩ fun nx5 => ?_
      refine stpR ?_
      refine aw_freeze (n := 95) (nx := nx5 + 1) (nn := 6) (pm := []) (bx := [((4, nx3 + 1), .c (rsnC ⟨true, ab, nm, muxW true r, false, -1, v⟩)), ((2, nx + 2), .c (rsnC rsn0)), ((1, nx + 1), .c (recC r)), ((0, nx), .c [int k, int n, boolA false, ruls rs])]) (L := [(1, trows l), (3, .bp (0, nx) 0), (5, .bp (1, nx + 1) 0), (6, .bp (2, nx + 2) 0), (7, int 0), (8, u32 (v : Nat)), (9, int 0), (10, .rp (callC ⟨true, ab, nm, true⟩)), (11, .bp (4, nx3 + 1) 0), (12, .rp (arrB (argI ab.toNat r)))]) (df := some []) [((5, nx5), .c (arrB (argI ab.toNat r))), ((3, nx3), .c (callC ⟨true, ab, nm, true⟩))] rfl rfl rfl (.cons _ (.swap _ _ _)) (List.Sublist.refl _) ⟨Frz.refl _, Frz.refl _, Frz.refl _, Frz.refl _, Frz.refl _, Frz.refl _, Frz.refl _, Frz.bp (.tail _ (.head _)) rfl, Frz.refl _, Frz.bp (.head _) rfl, trivial⟩ ?_
      refine stp ?_
      refine aop_tells rfl rfl hix ⟨AVle.refl _, AVle.refl _, trivial⟩ fun nx6 => ?_
      cases i with
      | none =>
        refine stp ?_
        (refine ret_tells_all rfl ?_ ?_; (· exact ⟨rfl, trivial⟩)); exact le_why2 (whyC_deep (p := ⟨(k, n), false, rs⟩) hX hnm hi) rfl
      | some j =>
        have hj := idx_lt' hi
        refine stp ?_
        refine splitO_eq (b := int j) rfl ?_
        refine stp ?_
        refine ⟨⟨by omega, by omega⟩, ?_⟩
        refine stp ?_
        intro c t3; cases c
        · refine stp ?_
          (refine ret_tells_all rfl ?_ ?_; (· exact ⟨rfl, trivial⟩)); exact le_why2 (whyC_deep (p := ⟨(k, n), false, rs⟩) hX hnm hi) (rule_no (not_of t3))
        · refine stp ?_
          (refine ret_tells_all rfl ?_ ?_; (· exact ⟨rfl, trivial⟩)); exact le_why2 (whyC_deep (p := ⟨(k, n), false, rs⟩) hX hnm hi) (rule_yes (yes_of t3))
  · refine stp ?_
    refine aop_tells rfl rfl (muxkind_spec r.num) ⟨AVle.refl _, trivial⟩ fun nx4 => ?_
    refine stp ?_
    (refine ret_tells_all rfl ?_ ?_; (· exact ⟨rfl, trivial⟩)); exact le_why (whyC_out (p := ⟨(k, n), false, rs⟩) (mx := true) (r := r) (yes1 (ab := ab) (of_eq1' t1)))
set_option maxHeartbeats 8000000 in
theorem why_some11 (k n : Int) (rs : List Rul) (l : List TRow) (r : Rec) (v : Nat) (ab : Int) (nm : ByteArray) (i : Option Nat) (hj : Tells Tryz.prog 18 [polA ⟨(k, n), true, rs⟩, trows l, recA r] (.tup [u32 (v : Nat), int 0])) (hmx : Tells Tryz.prog 24 [trows l, recA r] (callA ⟨true, ab, nm, true⟩))
    (hag : Tells Tryz.prog 66 [int ab, recA r] (arrA (argI ab.toNat r))) (hi : rs.findIdx? (whyB ⟨true, ab, nm, true⟩ (argI ab.toNat r)) = i) (hix : Tells Tryz.prog 67 [ruls rs, (.fn (.func 68) [] [.rp (callC ⟨true, ab, nm, true⟩), .rp (arrB (argI ab.toNat r))])] (int (optI i))) :
    Tells Tryz.prog 28 [polA ⟨(k, n), true, rs⟩, trows l, recA r] (.tup [rsnA (whyC ⟨true, ab, nm, true⟩ ⟨(k, n), true, rs⟩ r v), int 0]) := by
  refine tells_of_aw Tryz.func28 rfl rfl fun nx => ?_
  refine stp ?_
  refine aop_tells rfl rfl hj ⟨AVle.refl _, AVle.refl _, AVle.refl _, trivial⟩ fun nx2 => ?_
  refine stp ?_
  refine aop_tells rfl rfl hmx ⟨AVle.refl _, AVle.refl _, trivial⟩ fun nx3 => ?_
  refine stp ?_
  intro c t1; cases c
  · have hX : (decide (ab = 1) && !true) = false := not1 (of_eq1 t1)
    refine stp ?_
    refine aop_tells rfl rfl (muxkind_spec r.num) ⟨AVle.refl _, trivial⟩ fun nx4 => ?_
    refine stp ?_
    intro c hc
    cases c
    rotate_left
    · refine stp ?_
      (refine ret_tells_all rfl ?_ ?_; (· exact ⟨rfl, trivial⟩)); exact le_why (whyC_emp (p := ⟨(k, n), true, rs⟩) (mx := true) (r := r) hX (size0_of hc.symm))
    · have hnm : nm.size ≠ 0 := size0_no hc.symm
      refine stp ?_
      refine aop_tells rfl rfl hag ⟨AVle.refl _, AVle.refl _, trivial⟩ fun nx5 => ?_
      refine stpR ?_
      refine aw_freeze (n := 95) (nx := nx5 + 1) (nn := 6) (pm := []) (bx := [((4, nx3 + 1), .c (rsnC ⟨true, ab, nm, muxW true r, false, -1, v⟩)), ((2, nx + 2), .c (rsnC rsn0)), ((1, nx + 1), .c (recC r)), ((0, nx), .c [int k, int n, boolA true, ruls rs])]) (L := [(1, trows l), (3, .bp (0, nx) 0), (5, .bp (1, nx + 1) 0), (6, .bp (2, nx + 2) 0), (7, int 0), (8, u32 (v : Nat)), (9, int 0), (10, .rp (callC ⟨true, ab, nm, true⟩)), (11, .bp (4, nx3 + 1) 0), (12, .rp (arrB (argI ab.toNat r)))]) (df := some []) [((5, nx5), .c (arrB (argI ab.toNat r))), ((3, nx3), .c (callC ⟨true, ab, nm, true⟩))] rfl rfl rfl (.cons _ (.swap _ _ _)) (List.Sublist.refl _) ⟨Frz.refl _, Frz.refl _, Frz.refl _, Frz.refl _, Frz.refl _, Frz.refl _, Frz.refl _, Frz.bp (.tail _ (.head _)) rfl, Frz.refl _, Frz.bp (.head _) rfl, trivial⟩ ?_
      refine stp ?_
      refine aop_tells rfl rfl hix ⟨AVle.refl _, AVle.refl _, trivial⟩ fun nx6 => ?_
      cases i with
      | none =>
        refine stp ?_
        (refine ret_tells_all rfl ?_ ?_; (· exact ⟨rfl, trivial⟩)); exact le_why2 (whyC_deep (p := ⟨(k, n), true, rs⟩) hX hnm hi) rfl
      | some j =>
        have hj := idx_lt' hi
        refine stp ?_
        refine splitO_eq (b := int j) rfl ?_
        refine stp ?_
        refine ⟨⟨by omega, by omega⟩, ?_⟩
        refine stp ?_
        intro c t3; cases c
        · refine stp ?_
          (refine ret_tells_all rfl ?_ ?_; (· exact ⟨rfl, trivial⟩)); exact le_why2 (whyC_deep (p := ⟨(k, n), true, rs⟩) hX hnm hi) (rule_no (not_of t3))
        · refine stp ?_
          (refine ret_tells_all rfl ?_ ?_; (· exact ⟨rfl, trivial⟩)); exact le_why2 (whyC_deep (p := ⟨(k, n), true, rs⟩) hX hnm hi) (rule_yes (yes_of t3))
  · have hX := but1 (ab := ab)
    refine stp ?_
    refine aop_tells rfl rfl (muxkind_spec r.num) ⟨AVle.refl _, trivial⟩ fun nx4 => ?_
    refine stp ?_
    intro c hc
    cases c
    rotate_left
    · refine stp ?_
      (refine ret_tells_all rfl ?_ ?_; (· exact ⟨rfl, trivial⟩)); exact le_why (whyC_emp (p := ⟨(k, n), true, rs⟩) (mx := true) (r := r) hX (size0_of hc.symm))
    · have hnm : nm.size ≠ 0 := size0_no hc.symm
      refine stp ?_
      refine aop_tells rfl rfl hag ⟨AVle.refl _, AVle.refl _, trivial⟩ fun nx5 => ?_
      refine stpR ?_
      refine aw_freeze (n := 95) (nx := nx5 + 1) (nn := 6) (pm := []) (bx := [((4, nx3 + 1), .c (rsnC ⟨true, ab, nm, muxW true r, false, -1, v⟩)), ((2, nx + 2), .c (rsnC rsn0)), ((1, nx + 1), .c (recC r)), ((0, nx), .c [int k, int n, boolA true, ruls rs])]) (L := [(1, trows l), (3, .bp (0, nx) 0), (5, .bp (1, nx + 1) 0), (6, .bp (2, nx + 2) 0), (7, int 0), (8, u32 (v : Nat)), (9, int 0), (10, .rp (callC ⟨true, ab, nm, true⟩)), (11, .bp (4, nx3 + 1) 0), (12, .rp (arrB (argI ab.toNat r)))]) (df := some []) [((5, nx5), .c (arrB (argI ab.toNat r))), ((3, nx3), .c (callC ⟨true, ab, nm, true⟩))] rfl rfl rfl (.cons _ (.swap _ _ _)) (List.Sublist.refl _) ⟨Frz.refl _, Frz.refl _, Frz.refl _, Frz.refl _, Frz.refl _, Frz.refl _, Frz.refl _, Frz.bp (.tail _ (.head _)) rfl, Frz.refl _, Frz.bp (.head _) rfl, trivial⟩ ?_
      refine stp ?_
      refine aop_tells rfl rfl hix ⟨AVle.refl _, AVle.refl _, trivial⟩ fun nx6 => ?_
      cases i with
      | none =>
        refine stp ?_
        (refine ret_tells_all rfl ?_ ?_; (· exact ⟨rfl, trivial⟩)); exact le_why2 (whyC_deep (p := ⟨(k, n), true, rs⟩) hX hnm hi) rfl
      | some j =>
        have hj := idx_lt' hi
        refine stp ?_
        refine splitO_eq (b := int j) rfl ?_
        refine stp ?_
        refine ⟨⟨by omega, by omega⟩, ?_⟩
        refine stp ?_
        intro c t3; cases c
        · refine stp ?_
          (refine ret_tells_all rfl ?_ ?_; (· exact ⟨rfl, trivial⟩)); exact le_why2 (whyC_deep (p := ⟨(k, n), true, rs⟩) hX hnm hi) (rule_no (not_of t3))
        · refine stp ?_
          (refine ret_tells_all rfl ?_ ?_; (· exact ⟨rfl, trivial⟩)); exact le_why2 (whyC_deep (p := ⟨(k, n), true, rs⟩) hX hnm hi) (rule_yes (yes_of t3))
theorem why_spec (p : Pol) (l : List TRow) (r : Rec) (hp : polOk p) (hpk : p.ok) (hl : l.length ≤ 1000000) (hn : ∀ q ∈ l, q.name.size ≤ maxLen) (hr : r.ok) : Tells Tryz.prog 28 [polA p, trows l, recA r] (.tup [rsnA (whyR p l r).1, int (whyR p l r).2]) := by
  have hj := judge_law p l r hp hpk hl hn hr
  have hmx := muxof_spec l r hr (by omega)
  unfold whyR
  generalize judgeR p l r = J at hj
  obtain ⟨v, e⟩ := J
  obtain ⟨⟨k, n⟩, x32, rs⟩ := p
  by_cases he : e = 0
  · subst he
    rw [if_neg (by simp)]
    dsimp only at hj ⊢
    have hab : (ofI l r).some = true → (ofI l r).abi = ((ofI l r).abi.toNat : Int) ∧ (ofI l r).abi.toNat < 5 := by
      unfold ofI
      cases hs : selO r.arch r.num with
      | none => intro h; cases h
      | some a =>
        have := selO_lt hs
        dsimp only
        split <;> intro _ <;> exact ⟨by simp, by simpa using this⟩
    generalize ofI l r = c at hmx hab
    have hw := fun i (hi : i < rs.length) => why1_spec c (argI c.abi.toNat r) (fun i => argI_lt hr _ i) (rs.getD i rul0) (Nat.le_trans (hp.2 (rs.getD i rul0) (by simp [List.getD, hi])).1 (by decide)) (hp.2 (rs.getD i rul0) (by simp [List.getD, hi])).2
    have hix := idxf_rulC (callC c) (arrB (argI c.abi.toNat r)) rs (whyB c (argI c.abi.toNat r)) 68 (Nat.le_trans hp.1 (by decide)) hw
    obtain ⟨so, ab, nm, mx⟩ := c
    dsimp only at hab hix
    cases so with
    | false =>
      cases mx
      · exact why_none0 k n x32 rs l r v ab nm hj hmx
      · exact why_none1 k n x32 rs l r v ab nm hj hmx
    | true =>
      obtain ⟨ha1, ha2⟩ := hab rfl
      have hag := abiargs_spec ab.toNat ha2 r hr
      rw [← ha1] at hag
      cases mx <;> cases x32
      · exact why_some00 k n rs l r v ab nm _ hj hmx hag rfl hix
      · exact why_some01 k n rs l r v ab nm _ hj hmx hag rfl hix
      · exact why_some10 k n rs l r v ab nm _ hj hmx hag rfl hix
      · exact why_some11 k n rs l r v ab nm _ hj hmx hag rfl hix
  · rw [if_pos he]
    refine tells_of_aw Tryz.func28 rfl rfl fun nx => ?_
    refine stp ?_
    refine aop_tells rfl rfl hj ⟨AVle.refl _, AVle.refl _, AVle.refl _, trivial⟩ fun nx2 => ?_
    refine stp ?_
    intro c t1; cases c
    · exact absurd (by simpa using t1.symm) he
    · refine stp ?_
      exact ret_tells_all rfl ⟨rfl, trivial⟩ (AVle.refl _)
end Go.Proofs.W

namespace Go.Proofs.W
open Go.Vl
set_option maxRecDepth 100000

end Go.Proofs.W

namespace Go.Proofs.W
open Go.Vl
set_option maxRecDepth 100000

end Go.Proofs.W

namespace Go.Proofs.W
open Go.Vl
set_option maxRecDepth 100000

theorem ownEq_trow {a b : Own} (h : a = b) : OwnLe a b := h ▸ OwnLe.refl a
theorem gr_trow : growOk Tryz.prog 106 = true := by kernel_rfl
theorem gc_trow : Tryz.prog.cellsOf 106 = 8 := by kernel_rfl
theorem gb_trow : Tryz.prog.bytesOf 106 = 72 := by kernel_rfl
theorem gl_trow (x : TRow) : (trowA x).cells.length = 8 := rfl
theorem g1_trow (x : TRow) : (trowA x).cells.all isOne = true := rfl
/-- slices.Grow of nil: a box with room. -/
theorem grow_trow (n : Nat) (h0 : 0 < n) (hn : n ≤ 100000) (nx : Nat) :
    ECall Tryz.prog 142 [.os 0 0 (fun _ => .any) none, int n] ⟨[], [], nx, 0⟩ (fun r h' => ∃ s cap nx' nn', n ≤ cap ∧ r = .hs (0, s) 0 0 cap ∧ h' = ⟨[((0, s), .c (List.replicate (cap * 8) .any))], [], nx', nn'⟩) := by
  refine ECall.wk (ecall_of_aw Tryz.func142 rfl rfl ?_)
  refine stp ?_
  refine aop_cap0 rfl rfl Tryz.underlying49 ?_
  refine stp ?_
  intro c hc
  replace hc : c = decide (IntKind.i64.wrap ((n : Int) - 0) > 0) := hc
  rw [wrap_id (by omega) (by omega), decide_eq_true (by omega)] at hc
  subst hc
  refine stpR ?_
  refine aw_regionY (fun i => match i with | 7 => true | 6 => true | 4 => true | 1 => true | _ => false) 10 ?_
  refine stp ?_
  refine aop_cap0 rfl rfl Tryz.underlying49 ?_
  refine stp ?_
  refine aop_cut0 rfl rfl rfl Tryz.underlying49 Tryz.underlying106 ?_
  refine stp ?_
  have hw : IntKind.i64.wrap ((n : Int) - 0) = n := by rw [wrap_id (by omega) (by omega)]; omega
  refine aop_appendZB0 (m := n) (kq := .i64) (kn := .i64) (e := 106) rfl rfl (congrArg (fun z => AV.v (.int .i64 z)) hw) (by omega) Tryz.underlying3 Tryz.underlying49 gr_trow (by rw [gb_trow]; omega) (by omega) fun cap hcap => ?_
  refine stp ?_
  refine aop_cutB (l := 0) (k' := .i64) rfl rfl rfl Tryz.underlying49 Tryz.underlying106 (Nat.zero_le _) (by omega) ?_
  refine stp ?_
  exact ret_is rfl ⟨_, _, AVle.refl _, HLe.refl _, nx, cap, _, _, hcap, rfl, by rw [gc_trow]; rfl⟩
theorem grow0_trow : Tells Tryz.prog 142 [.os 0 0 (fun _ => .any) none, int (0 : Nat)] (.os 0 0 (fun _ => .any) none) := by
  refine tells_of_aw Tryz.func142 rfl rfl fun nx => ?_
  refine stp ?_
  refine aop_cap0 rfl rfl Tryz.underlying49 ?_
  refine stp ?_
  exact ret_tells rfl (AVle.refl _)
/-- Rows, one behind the other. -/
def rows2_trow (L : List (List TRow)) (oi : Option Vl.Id) : AV := .os 1 L.length (fun k => slOf 8 trowA trow0 (L.getD k [])) oi
theorem flat_trow (l : List TRow) : rowCells l.length (fun k => trowA (l.getD k trow0)) = l.flatMap fun x => (trowA x).cells := by
  have key : ∀ m, m ≤ l.length → rowCells m (fun k => trowA (l.getD k trow0)) = (l.take m).flatMap fun x => (trowA x).cells := by
    intro m
    induction m with
    | zero => intro _; rfl
    | succ m ih =>
      intro hm
      have hm' : m < l.length := by omega
      have e : rowCells (m + 1) (fun k => trowA (l.getD k trow0)) = rowCells m (fun k => trowA (l.getD k trow0)) ++ (trowA (l.getD m trow0)).cells := by unfold rowCells; rw [List.range_succ, List.flatMap_append]; simp
      rw [e, ih (by omega), List.take_add_one, List.flatMap_append]
      simp [List.getD, hm']
  rw [key _ (Nat.le_refl _), List.take_of_length_le (Nat.le_refl _)]
theorem flen_trow (l : List TRow) : (l.flatMap fun x => (trowA x).cells).length = l.length * 8 := by
  induction l with
  | nil => rfl
  | cons x l ih => rw [List.flatMap_cons, List.length_append, ih, gl_trow, List.length_cons]; omega
theorem fget_trow (l : List TRow) (k j : Nat) (hk : k < l.length) (hj : j < 8) : (l.flatMap fun x => (trowA x).cells)[k * 8 + j]? = (trowA (l.getD k trow0)).cells[j]? := by
  rw [← flat_trow]
  exact (rowCells_get (sz := 8) (fun i hi => gl_trow _)).2 k j hk hj
set_option maxHeartbeats 1000000 in
theorem concat_trow (L : List (List TRow)) (hL : L.length ≤ 1000) (hn : L.flatten.length ≤ 100000) (oi : Option Vl.Id) : Tells Tryz.prog 91 [rows2_trow L none] (slOf 8 trowA trow0 L.flatten) := by
  have hpre : ∀ i, i < L.length → (L.take (i + 1)).flatten.length = (L.take i).flatten.length + (L.getD i []).length := fun i hi => by
    rw [take_getD [] hi, List.flatten_append, List.length_append]; simp
  have hle : ∀ i, (L.take i).flatten.length ≤ L.flatten.length := fun i => by
    conv => rhs; rw [← List.take_append_drop i L, List.flatten_append, List.length_append]
    omega
  refine tells_of_aw Tryz.func91 rfl rfl fun nx => ?_
  refine stp ?_
  refine aw_midB (fun y : Nat => mk 36 [(0, rows2_trow L none), (3, int (L.flatten.length : Nat))] ⟨[], [], y, 0⟩) (fun _ => True) ?_ ?_
  · refine aw_loop (fun y : Nat × Nat => mk 36 [(0, rows2_trow L none), (3, int ((L.take y.1).flatten.length : Nat)), (9, rows2_trow L none), (10, int L.length), (11, int y.1)] ⟨[], [], y.2, 0⟩) (fun y => y.1 ≤ L.length) (fun y => L.length - y.1) ?_ ?_
    · exact ⟨(0, nx), Nat.zero_le _, ele_keep rfl rfl (List.Sublist.refl _) (List.Sublist.refl _) ⟨AVle.refl _, AVle.refl _, AVle.refl _, AVle.refl _, AVle.refl _, trivial⟩⟩
    · rintro ⟨i, nx1⟩ h1
      dsimp only at h1
      refine stp ?_
      intro c g; cases c
      · have g := not_of g
        try dsimp only at g
        obtain rfl : i = L.length := by omega
        refine stp ?_
        refine ⟨nx1, trivial, ele_keep rfl rfl (List.Sublist.refl _) (List.Sublist.refl _) ⟨AVle.refl _, ?_, trivial⟩⟩
        exact AVle.of_eq (congrArg (fun z : List (List TRow) => int (z.flatten.length : Nat)) List.take_length)
      · have g := yes_of g
        try dsimp only at g
        have hi : i < L.length := by omega
        have e1 := hpre i hi
        have e2 := hle (i + 1)
        refine stp ?_
        refine ⟨⟨by first | omega | (dsimp only; omega), by first | omega | (dsimp only; omega)⟩, ?_⟩
        have hw : IntKind.i64.wrap ((((L.take i).flatten.length : Nat) : Int) + ((L.getD i []).length : Int)) = (((L.take (i + 1)).flatten.length : Nat) : Int) := by rw [wrap_id (by omega) (by omega)]; omega
        refine stp ?_
        intro c hc
        replace hc : c = decide (IntKind.i64.wrap ((((L.take i).flatten.length : Nat) : Int) + ((L.getD i []).length : Int)) < 0) := hc
        rw [hw, decide_eq_false (by omega)] at hc
        subst hc
        refine stp ?_
        exact back (i + 1, nx1) hi (by dsimp only; omega) (ele_keep rfl rfl (List.Sublist.refl _) (List.Sublist.refl _) ⟨AVle.refl _, le_int hw, AVle.refl _, AVle.refl _, le_int (wrap_succ (by first | omega | (dsimp only; omega))), trivial⟩)
  · intro nx1 _
    rcases Nat.eq_zero_or_pos L.flatten.length with h0 | h0
    · have hemp : ∀ i, i < L.length → (L.getD i []).length = 0 := fun i hi => by
        have := hpre i hi; have := hle (i + 1); omega
      have hnil : L.flatten = [] := List.eq_nil_of_length_eq_zero h0
      rw [hnil]
      refine stp ?_
      refine aop_tells rfl rfl grow0_trow ⟨AVle.refl _, AVle.refl _, trivial⟩ fun nx2 => ?_
      refine stp ?_
      refine aw_loop (fun y : Nat × Nat => mk 36 [(6, .os 0 0 (fun _ => .any) none), (25, rows2_trow L none), (26, int L.length), (27, int y.1)] ⟨[], [], y.2, 0⟩) (fun y => y.1 ≤ L.length) (fun y => L.length - y.1) ?_ ?_
      · exact ⟨(0, nx2), Nat.zero_le _, ele_keep rfl rfl (List.Sublist.refl _) (List.Sublist.refl _) ⟨AVle.refl _, AVle.refl _, AVle.refl _, AVle.refl _, trivial⟩⟩
      · rintro ⟨i, nx3⟩ h1
        dsimp only at h1
        refine stp ?_
        intro c g; cases c
        · refine stp ?_
          exact ret_tells rfl AVle.os_sl0
        · have g := yes_of g
          try dsimp only at g
          have hi : i < L.length := by omega
          have e1 := hemp i hi
          have e2 : L.getD i [] = [] := List.eq_nil_of_length_eq_zero e1
          refine stp ?_
          refine ⟨⟨by first | omega | (dsimp only; omega), by first | omega | (dsimp only; omega)⟩, ?_⟩
          refine stp ?_
          refine appK_intro (fun _ => ?_) (fun h => absurd e1 h)
          refine stp ?_
          exact back (i + 1, nx3) hi (by dsimp only; omega) (ele_keep rfl rfl (List.Sublist.refl _) (List.Sublist.refl _) ⟨AVle.refl _, AVle.refl _, AVle.refl _, le_int (wrap_succ (by first | omega | (dsimp only; omega))), trivial⟩)
    · refine stp ?_
      refine aop_callF (xs := [.os 0 0 (fun _ => .any) none, int (L.flatten.length : Nat)]) [] [] 1 rfl rfl rfl rfl ⟨AVle.refl _, AVle.refl _, trivial⟩ (grow_trow L.flatten.length h0 hn nx1) (BxLe.refl _) (PmEq.refl _) rfl fun r h' hq => ?_
      obtain ⟨s, cap, nx2, nn2, hcap, rfl, rfl⟩ := hq
      refine stp ?_
      refine aw_loop (fun y : Nat × List AV × Nat => mk 36 [(6, .hs (0, s) 0 ((L.take y.1).flatten.length) cap), (25, rows2_trow L none), (26, int L.length), (27, int y.1)] ⟨[((0, s), .c y.2.1)], [], y.2.2, 1⟩) (fun y => y.1 ≤ L.length ∧ y.2.1.length = cap * 8 ∧ y.2.1.take ((L.take y.1).flatten.length * 8) = (L.take y.1).flatten.flatMap fun x => (trowA x).cells) (fun y => L.length - y.1) ?_ ?_
      · exact ⟨(0, List.replicate (cap * 8) .any, nx2), ⟨Nat.zero_le _, by simp, by simp⟩, ele_tell _ _ rfl rfl (List.Sublist.refl _) .slnil (BxLe.refl _) trivial ⟨AVle.refl _, AVle.refl _, AVle.refl _, AVle.refl _, trivial⟩⟩
      · rintro ⟨i, cs, nx3⟩ ⟨h1, h2, h3⟩
        dsimp only at h1 h2 h3
        refine stp ?_
        intro c g; cases c
        · have g := not_of g
          try dsimp only at g
          obtain rfl : i = L.length := by omega
          rw [List.take_length] at h3
          have hcl : L.flatten.length * 8 ≤ cap * 8 := Nat.mul_le_mul_right _ hcap
          refine stpR ?_
          refine AW.le (ele_freeze (L := [(6, slOf 8 trowA trow0 L.flatten)]) (bx := []) (pm := []) (nn := 1) [((0, s), .c cs)] rfl rfl (List.Sublist.refl _) .slnil ⟨?_, trivial⟩) ?_
          · refine (Frz.of_le (AVle.of_eq (b := .hs (0, s) 0 L.flatten.length cap) ?_)).trans (Frz.hs (cs := cs) (.head _) hcap (.inr (by omega)) (fun k hk => gl_trow _) (fun k hk j c hj => ?_) (by omega))
            · show AV.hs (0, s) 0 ((L.take L.length).flatten.length) cap = _
              rw [List.take_length]
            · have hjl : j < 8 := by have := (List.getElem?_eq_some_iff.1 hj).1; rw [gl_trow] at this; exact this
              refine ⟨c, ?_, AVle.refl _⟩
              have hkk : k * 8 + j < L.flatten.length * 8 := by
                have : (k + 1) * 8 ≤ L.flatten.length * 8 := Nat.mul_le_mul_right _ hk
                omega
              have h4 := fget_trow L.flatten k j hk hjl
              rw [← h3, List.getElem?_take, if_pos hkk, hj] at h4
              rw [Nat.zero_add]; exact h4
          · refine stp ?_
            exact ret_tells rfl (AVle.refl _)
        · have g := yes_of g
          try dsimp only at g
          have hi : i < L.length := by omega
          have e1 := hpre i hi
          have e2 := hle (i + 1)
          have hfl : (L.take (i + 1)).flatten = (L.take i).flatten ++ L.getD i [] := by rw [take_getD [] hi, List.flatten_append]; simp
          have hcl : ((L.take i).flatten.length + (L.getD i []).length) * 8 ≤ cap * 8 := Nat.mul_le_mul_right _ (by omega)
          refine stp ?_
          refine ⟨⟨by first | omega | (dsimp only; omega), by first | omega | (dsimp only; omega)⟩, ?_⟩
          refine stpR ?_
          refine aw_regionY (fun i => match i with | 1 => true | _ => false) 4 ?_
          refine stp ?_
          refine aop_appendB (m := (L.getD i []).length) (f' := fun k => trowA ((L.getD i []).getD k trow0)) (szx := 8) (n := (L.take i).flatten.length) (cap := cap) (cs := cs) (i := (0, s)) rfl rfl (.inl rfl) Tryz.underlying49 gr_trow (.inr gc_trow.symm) (by rfl) (by omega) (by rw [gc_trow]; omega) (fun k hk => g1_trow _) (fun _ => by rw [gb_trow]; omega) (fun _ => by omega) (fun hm => ?_) (fun hm hfit => ?_) (fun hm hnf => absurd (by omega) hnf)
          · have e3 : L.getD i [] = [] := List.eq_nil_of_length_eq_zero hm
            rw [e3, List.append_nil] at hfl
            refine stp ?_
            exact back (i + 1, cs, nx3) ⟨hi, h2, by dsimp only; rw [hfl]; exact h3⟩ (by dsimp only; omega) (ele_tell _ _ rfl rfl (List.Sublist.refl _) .slnil (BxLe.refl _) trivial ⟨AVle.of_eq (congrArg (fun z => AV.hs (0, s) 0 z cap) (by rw [hfl] : (L.take i).flatten.length = (L.take (i + 1)).flatten.length)), AVle.refl _, AVle.refl _, le_int (wrap_succ (by first | omega | (dsimp only; omega))), trivial⟩)
          · refine stp ?_
            refine back (i + 1, splice cs ((L.take i).flatten.length * 8) ((L.getD i []).flatMap fun x => (trowA x).cells), nx3) ⟨hi, ?_, ?_⟩ (by dsimp only; omega) (ele_tell _ _ rfl rfl (List.Sublist.refl _) .slnil ⟨rfl, ownEq_trow (congrArg Own.c ?_), trivial⟩ trivial ⟨AVle.of_eq (congrArg (fun z => AV.hs (0, s) 0 z cap) e1.symm), AVle.refl _, AVle.refl _, le_int (wrap_succ (by first | omega | (dsimp only; omega))), trivial⟩)
            · have hf := flen_trow (L.getD i [])
              simp only [splice_def, List.length_append, List.length_take, List.length_drop, hf]
              omega
            · have hf := flen_trow (L.getD i [])
              dsimp only
              rw [hfl, List.flatMap_append, splice_def, List.length_append, ← List.append_assoc, h3]
              have hpl : (List.flatMap (fun x => (trowA x).cells) (L.take i).flatten ++ List.flatMap (fun x => (trowA x).cells) (L.getD i [])).length = ((L.take i).flatten.length + (L.getD i []).length) * 8 := by
                rw [List.length_append, hf, flen_trow]; omega
              rw [← hpl, List.take_left]
            · rw [gc_trow, flat_trow]
end Go.Proofs.W


namespace Go.Proofs.W
open Go.Vl
set_option maxRecDepth 100000
def earlyL : List TRow := [
  ⟨⟨#[97, 99, 99, 101, 112, 116]⟩, 43, 43, -1, 202, 202, 1, 5⟩,
  ⟨⟨#[97, 99, 99, 101, 112, 116, 52]⟩, 288, 288, 364, 242, 242, 1, 18⟩,
  ⟨⟨#[98, 105, 110, 100]⟩, 49, 49, 361, 200, 200, 1, 2⟩,
  ⟨⟨#[98, 114, 107]⟩, 12, 12, 45, 214, 214, 0, 0⟩,
  ⟨⟨#[99, 108, 111, 110, 101]⟩, 56, 56, 120, 220, 220, 0, 0⟩,
  ⟨⟨#[99, 108, 111, 115, 101]⟩, 3, 3, 6, 57, 57, 0, 0⟩,
  ⟨⟨#[99, 111, 110, 110, 101, 99, 116]⟩, 42, 42, 362, 203, 203, 1, 3⟩,
  ⟨⟨#[100, 117, 112]⟩, 32, 32, 41, 23, 23, 0, 0⟩,
  ⟨⟨#[100, 117, 112, 50]⟩, 33, 33, 63, -1, -1, 0, 0⟩,
  ⟨⟨#[101, 112, 111, 108, 108, 95, 99, 114, 101, 97, 116, 101, 49]⟩, 291, 291, 329, 20, 20, 0, 0⟩,
  ⟨⟨#[101, 112, 111, 108, 108, 95, 99, 116, 108]⟩, 233, 233, 255, 21, 21, 0, 0⟩,
  ⟨⟨#[101, 112, 111, 108, 108, 95, 119, 97, 105, 116]⟩, 232, 232, 256, -1, -1, 0, 0⟩,
  ⟨⟨#[101, 120, 101, 99, 118, 101]⟩, 59, 520, 11, 221, 221, 0, 0⟩,
  ⟨⟨#[101, 120, 105, 116]⟩, 60, 60, 1, 93, 93, 0, 0⟩,
  ⟨⟨#[101, 120, 105, 116, 95, 103, 114, 111, 117, 112]⟩, 231, 231, 252, 94, 94, 0, 0⟩,
  ⟨⟨#[102, 99, 104, 100, 105, 114]⟩, 81, 81, 133, 50, 50, 0, 0⟩,
  ⟨⟨#[102, 99, 110, 116, 108]⟩, 72, 72, 55, 25, 25, 0, 0⟩,
  ⟨⟨#[102, 111, 114, 107]⟩, 57, 57, 2, -1, -1, 0, 0⟩,
  ⟨⟨#[102, 115, 116, 97, 116]⟩, 5, 5, 108, 80, 80, 0, 0⟩,
  ⟨⟨#[102, 117, 116, 101, 120]⟩, 202, 202, 240, 98, 98, 0, 0⟩,
  ⟨⟨#[103, 101, 116, 99, 119, 100]⟩, 79, 79, 183, 17, 17, 0, 0⟩,
  ⟨⟨#[103, 101, 116, 112, 101, 101, 114, 110, 97, 109, 101]⟩, 52, 52, 368, 205, 205, 1, 7⟩,
  ⟨⟨#[103, 101, 116, 112, 105, 100]⟩, 39, 39, 20, 172, 172, 0, 0⟩,
  ⟨⟨#[103, 101, 116, 114, 97, 110, 100, 111, 109]⟩, 318, 318, 355, 278, 278, 0, 0⟩,
  ⟨⟨#[103, 101, 116, 115, 111, 99, 107, 110, 97, 109, 101]⟩, 51, 51, 367, 204, 204, 1, 6⟩,
  ⟨⟨#[103, 101, 116, 115, 111, 99, 107, 111, 112, 116]⟩, 55, 542, 365, 209, 209, 1, 15⟩,
  ⟨⟨#[103, 101, 116, 117, 105, 100]⟩, 102, 102, 24, 174, 174, 0, 0⟩,
  ⟨⟨#[105, 111, 99, 116, 108]⟩, 16, 514, 54, 29, 29, 0, 0⟩,
  ⟨⟨#[107, 105, 108, 108]⟩, 62, 62, 37, 129, 129, 0, 0⟩,
  ⟨⟨#[108, 105, 115, 116, 101, 110]⟩, 50, 50, 363, 201, 201, 1, 4⟩]
theorem build_early : abuildCells Tryz.prog 49 30 [(0, trowA ⟨⟨#[97, 99, 99, 101, 112, 116]⟩, 43, 43, -1, 202, 202, 1, 5⟩), (1, trowA ⟨⟨#[97, 99, 99, 101, 112, 116, 52]⟩, 288, 288, 364, 242, 242, 1, 18⟩), (2, trowA ⟨⟨#[98, 105, 110, 100]⟩, 49, 49, 361, 200, 200, 1, 2⟩), (3, trowA ⟨⟨#[98, 114, 107]⟩, 12, 12, 45, 214, 214, 0, 0⟩), (4, trowA ⟨⟨#[99, 108, 111, 110, 101]⟩, 56, 56, 120, 220, 220, 0, 0⟩), (5, trowA ⟨⟨#[99, 108, 111, 115, 101]⟩, 3, 3, 6, 57, 57, 0, 0⟩), (6, trowA ⟨⟨#[99, 111, 110, 110, 101, 99, 116]⟩, 42, 42, 362, 203, 203, 1, 3⟩), (7, trowA ⟨⟨#[100, 117, 112]⟩, 32, 32, 41, 23, 23, 0, 0⟩), (8, trowA ⟨⟨#[100, 117, 112, 50]⟩, 33, 33, 63, -1, -1, 0, 0⟩), (9, trowA ⟨⟨#[101, 112, 111, 108, 108, 95, 99, 114, 101, 97, 116, 101, 49]⟩, 291, 291, 329, 20, 20, 0, 0⟩), (10, trowA ⟨⟨#[101, 112, 111, 108, 108, 95, 99, 116, 108]⟩, 233, 233, 255, 21, 21, 0, 0⟩), (11, trowA ⟨⟨#[101, 112, 111, 108, 108, 95, 119, 97, 105, 116]⟩, 232, 232, 256, -1, -1, 0, 0⟩), (12, trowA ⟨⟨#[101, 120, 101, 99, 118, 101]⟩, 59, 520, 11, 221, 221, 0, 0⟩), (13, trowA ⟨⟨#[101, 120, 105, 116]⟩, 60, 60, 1, 93, 93, 0, 0⟩), (14, trowA ⟨⟨#[101, 120, 105, 116, 95, 103, 114, 111, 117, 112]⟩, 231, 231, 252, 94, 94, 0, 0⟩), (15, trowA ⟨⟨#[102, 99, 104, 100, 105, 114]⟩, 81, 81, 133, 50, 50, 0, 0⟩), (16, trowA ⟨⟨#[102, 99, 110, 116, 108]⟩, 72, 72, 55, 25, 25, 0, 0⟩), (17, trowA ⟨⟨#[102, 111, 114, 107]⟩, 57, 57, 2, -1, -1, 0, 0⟩), (18, trowA ⟨⟨#[102, 115, 116, 97, 116]⟩, 5, 5, 108, 80, 80, 0, 0⟩), (19, trowA ⟨⟨#[102, 117, 116, 101, 120]⟩, 202, 202, 240, 98, 98, 0, 0⟩), (20, trowA ⟨⟨#[103, 101, 116, 99, 119, 100]⟩, 79, 79, 183, 17, 17, 0, 0⟩), (21, trowA ⟨⟨#[103, 101, 116, 112, 101, 101, 114, 110, 97, 109, 101]⟩, 52, 52, 368, 205, 205, 1, 7⟩), (22, trowA ⟨⟨#[103, 101, 116, 112, 105, 100]⟩, 39, 39, 20, 172, 172, 0, 0⟩), (23, trowA ⟨⟨#[103, 101, 116, 114, 97, 110, 100, 111, 109]⟩, 318, 318, 355, 278, 278, 0, 0⟩), (24, trowA ⟨⟨#[103, 101, 116, 115, 111, 99, 107, 110, 97, 109, 101]⟩, 51, 51, 367, 204, 204, 1, 6⟩), (25, trowA ⟨⟨#[103, 101, 116, 115, 111, 99, 107, 111, 112, 116]⟩, 55, 542, 365, 209, 209, 1, 15⟩), (26, trowA ⟨⟨#[103, 101, 116, 117, 105, 100]⟩, 102, 102, 24, 174, 174, 0, 0⟩), (27, trowA ⟨⟨#[105, 111, 99, 116, 108]⟩, 16, 514, 54, 29, 29, 0, 0⟩), (28, trowA ⟨⟨#[107, 105, 108, 108]⟩, 62, 62, 37, 129, 129, 0, 0⟩), (29, trowA ⟨⟨#[108, 105, 115, 116, 101, 110]⟩, 50, 50, 363, 201, 201, 1, 4⟩)] = some (106, [strA ⟨#[97, 99, 99, 101, 112, 116]⟩, int (43), int (43), int (-1), int (202), int (202), int 1, int 5, strA ⟨#[97, 99, 99, 101, 112, 116, 52]⟩, int (288), int (288), int (364), int (242), int (242), int 1, int 18, strA ⟨#[98, 105, 110, 100]⟩, int (49), int (49), int (361), int (200), int (200), int 1, int 2, strA ⟨#[98, 114, 107]⟩, int (12), int (12), int (45), int (214), int (214), int 0, int 0, strA ⟨#[99, 108, 111, 110, 101]⟩, int (56), int (56), int (120), int (220), int (220), int 0, int 0, strA ⟨#[99, 108, 111, 115, 101]⟩, int (3), int (3), int (6), int (57), int (57), int 0, int 0, strA ⟨#[99, 111, 110, 110, 101, 99, 116]⟩, int (42), int (42), int (362), int (203), int (203), int 1, int 3, strA ⟨#[100, 117, 112]⟩, int (32), int (32), int (41), int (23), int (23), int 0, int 0, strA ⟨#[100, 117, 112, 50]⟩, int (33), int (33), int (63), int (-1), int (-1), int 0, int 0, strA ⟨#[101, 112, 111, 108, 108, 95, 99, 114, 101, 97, 116, 101, 49]⟩, int (291), int (291), int (329), int (20), int (20), int 0, int 0, strA ⟨#[101, 112, 111, 108, 108, 95, 99, 116, 108]⟩, int (233), int (233), int (255), int (21), int (21), int 0, int 0, strA ⟨#[101, 112, 111, 108, 108, 95, 119, 97, 105, 116]⟩, int (232), int (232), int (256), int (-1), int (-1), int 0, int 0, strA ⟨#[101, 120, 101, 99, 118, 101]⟩, int (59), int (520), int (11), int (221), int (221), int 0, int 0, strA ⟨#[101, 120, 105, 116]⟩, int (60), int (60), int (1), int (93), int (93), int 0, int 0, strA ⟨#[101, 120, 105, 116, 95, 103, 114, 111, 117, 112]⟩, int (231), int (231), int (252), int (94), int (94), int 0, int 0, strA ⟨#[102, 99, 104, 100, 105, 114]⟩, int (81), int (81), int (133), int (50), int (50), int 0, int 0, strA ⟨#[102, 99, 110, 116, 108]⟩, int (72), int (72), int (55), int (25), int (25), int 0, int 0, strA ⟨#[102, 111, 114, 107]⟩, int (57), int (57), int (2), int (-1), int (-1), int 0, int 0, strA ⟨#[102, 115, 116, 97, 116]⟩, int (5), int (5), int (108), int (80), int (80), int 0, int 0, strA ⟨#[102, 117, 116, 101, 120]⟩, int (202), int (202), int (240), int (98), int (98), int 0, int 0, strA ⟨#[103, 101, 116, 99, 119, 100]⟩, int (79), int (79), int (183), int (17), int (17), int 0, int 0, strA ⟨#[103, 101, 116, 112, 101, 101, 114, 110, 97, 109, 101]⟩, int (52), int (52), int (368), int (205), int (205), int 1, int 7, strA ⟨#[103, 101, 116, 112, 105, 100]⟩, int (39), int (39), int (20), int (172), int (172), int 0, int 0, strA ⟨#[103, 101, 116, 114, 97, 110, 100, 111, 109]⟩, int (318), int (318), int (355), int (278), int (278), int 0, int 0, strA ⟨#[103, 101, 116, 115, 111, 99, 107, 110, 97, 109, 101]⟩, int (51), int (51), int (367), int (204), int (204), int 1, int 6, strA ⟨#[103, 101, 116, 115, 111, 99, 107, 111, 112, 116]⟩, int (55), int (542), int (365), int (209), int (209), int 1, int 15, strA ⟨#[103, 101, 116, 117, 105, 100]⟩, int (102), int (102), int (24), int (174), int (174), int 0, int 0, strA ⟨#[105, 111, 99, 116, 108]⟩, int (16), int (514), int (54), int (29), int (29), int 0, int 0, strA ⟨#[107, 105, 108, 108]⟩, int (62), int (62), int (37), int (129), int (129), int 0, int 0, strA ⟨#[108, 105, 115, 116, 101, 110]⟩, int (50), int (50), int (363), int (201), int (201), int 1, int 4]) := by kernel_rfl
set_option maxHeartbeats 4000000 in
theorem early_spec : Tells Tryz.prog 92 [] (trows earlyL) := by
  refine tells_of_aw Tryz.func92 rfl rfl fun nx => ?_
  (refine stpR ?_; refine aw_region ?_; refine stpR ?_)
  refine aw_regionY (fun n => match n with | 0 => true | _ => false) 61 ?_
  refine stp ?_
  refine aop_build rfl build_early ?_
  refine stp ?_
  refine ret_tells rfl (AVle.os_sl.trans (AVle.sl_fun fun k hk => ?_))
  match k, hk with
  | 0, _ => rfl
  | 1, _ => rfl
  | 2, _ => rfl
  | 3, _ => rfl
  | 4, _ => rfl
  | 5, _ => rfl
  | 6, _ => rfl
  | 7, _ => rfl
  | 8, _ => rfl
  | 9, _ => rfl
  | 10, _ => rfl
  | 11, _ => rfl
  | 12, _ => rfl
  | 13, _ => rfl
  | 14, _ => rfl
  | 15, _ => rfl
  | 16, _ => rfl
  | 17, _ => rfl
  | 18, _ => rfl
  | 19, _ => rfl
  | 20, _ => rfl
  | 21, _ => rfl
  | 22, _ => rfl
  | 23, _ => rfl
  | 24, _ => rfl
  | 25, _ => rfl
  | 26, _ => rfl
  | 27, _ => rfl
  | 28, _ => rfl
  | 29, _ => rfl
  | k + 30, hk => exact absurd hk (by omega)
def lateL : List TRow := [
  ⟨⟨#[108, 115, 101, 101, 107]⟩, 8, 8, 19, 62, 62, 0, 0⟩,
  ⟨⟨#[109, 107, 100, 105, 114]⟩, 83, 83, 39, -1, -1, 0, 0⟩,
  ⟨⟨#[109, 109, 97, 112]⟩, 9, 9, -1, 222, 222, 0, 0⟩,
  ⟨⟨#[109, 109, 97, 112, 50]⟩, -1, -1, 192, -1, -1, 0, 0⟩,
  ⟨⟨#[109, 112, 114, 111, 116, 101, 99, 116]⟩, 10, 10, 125, 226, 226, 0, 0⟩,
  ⟨⟨#[109, 115, 103, 99, 116, 108]⟩, 71, 71, 402, 187, 187, 2, 14⟩,
  ⟨⟨#[109, 115, 103, 103, 101, 116]⟩, 68, 68, 399, 186, 186, 2, 13⟩,
  ⟨⟨#[109, 115, 103, 114, 99, 118]⟩, 70, 70, 401, 188, 188, 2, 12⟩,
  ⟨⟨#[109, 115, 103, 115, 110, 100]⟩, 69, 69, 400, 189, 189, 2, 11⟩,
  ⟨⟨#[109, 117, 110, 109, 97, 112]⟩, 11, 11, 91, 215, 215, 0, 0⟩,
  ⟨⟨#[110, 97, 110, 111, 115, 108, 101, 101, 112]⟩, 35, 35, 162, 101, 101, 0, 0⟩,
  ⟨⟨#[111, 112, 101, 110]⟩, 2, 2, 5, -1, -1, 0, 0⟩,
  ⟨⟨#[111, 112, 101, 110, 97, 116]⟩, 257, 257, 295, 56, 56, 0, 0⟩,
  ⟨⟨#[112, 105, 112, 101]⟩, 22, 22, 42, -1, -1, 0, 0⟩,
  ⟨⟨#[112, 105, 112, 101, 50]⟩, 293, 293, 331, 59, 59, 0, 0⟩,
  ⟨⟨#[112, 111, 108, 108]⟩, 7, 7, 168, -1, -1, 0, 0⟩,
  ⟨⟨#[112, 114, 101, 97, 100, 54, 52]⟩, 17, 17, 180, 67, 67, 0, 0⟩,
  ⟨⟨#[112, 114, 108, 105, 109, 105, 116, 54, 52]⟩, 302, 302, 340, 261, 261, 0, 0⟩,
  ⟨⟨#[112, 116, 114, 97, 99, 101]⟩, 101, 521, 26, 117, 117, 0, 0⟩,
  ⟨⟨#[112, 119, 114, 105, 116, 101, 54, 52]⟩, 18, 18, 181, 68, 68, 0, 0⟩,
  ⟨⟨#[114, 101, 97, 100]⟩, 0, 0, 3, 63, 63, 0, 0⟩,
  ⟨⟨#[114, 101, 97, 100, 118]⟩, 19, 515, 145, 65, 65, 0, 0⟩,
  ⟨⟨#[114, 101, 99, 118]⟩, -1, -1, -1, -1, -1, 1, 10⟩,
  ⟨⟨#[114, 101, 99, 118, 102, 114, 111, 109]⟩, 45, 517, 371, 207, 207, 1, 12⟩,
  ⟨⟨#[114, 101, 99, 118, 109, 115, 103]⟩, 47, 519, 372, 212, 212, 1, 17⟩,
  ⟨⟨#[114, 101, 110, 97, 109, 101]⟩, 82, 82, 38, -1, -1, 0, 0⟩,
  ⟨⟨#[114, 105, 115, 99, 118, 95, 102, 108, 117, 115, 104, 95, 105, 99, 97, 99, 104, 101]⟩, -1, -1, -1, -1, 259, 0, 0⟩,
  ⟨⟨#[114, 116, 95, 115, 105, 103, 97, 99, 116, 105, 111, 110]⟩, 13, 512, 174, 134, 134, 0, 0⟩,
  ⟨⟨#[114, 116, 95, 115, 105, 103, 114, 101, 116, 117, 114, 110]⟩, 15, 513, 173, 139, 139, 0, 0⟩,
  ⟨⟨#[115, 101, 99, 99, 111, 109, 112]⟩, 317, 317, 354, 277, 277, 0, 0⟩,
  ⟨⟨#[115, 101, 108, 101, 99, 116]⟩, 23, 23, 82, -1, -1, 0, 0⟩,
  ⟨⟨#[115, 101, 109, 99, 116, 108]⟩, 66, 66, 394, 191, 191, 2, 3⟩,
  ⟨⟨#[115, 101, 109, 103, 101, 116]⟩, 64, 64, 393, 190, 190, 2, 2⟩,
  ⟨⟨#[115, 101, 109, 111, 112]⟩, 65, 65, -1, 193, 193, 2, 1⟩,
  ⟨⟨#[115, 101, 110, 100]⟩, -1, -1, -1, -1, -1, 1, 9⟩,
  ⟨⟨#[115, 101, 110, 100, 109, 115, 103]⟩, 46, 518, 370, 211, 211, 1, 16⟩,
  ⟨⟨#[115, 101, 110, 100, 116, 111]⟩, 44, 44, 369, 206, 206, 1, 11⟩,
  ⟨⟨#[115, 101, 116, 115, 111, 99, 107, 111, 112, 116]⟩, 54, 541, 366, 208, 208, 1, 14⟩,
  ⟨⟨#[115, 104, 109, 97, 116]⟩, 30, 30, 397, 196, 196, 2, 21⟩,
  ⟨⟨#[115, 104, 109, 99, 116, 108]⟩, 31, 31, 396, 195, 195, 2, 24⟩,
  ⟨⟨#[115, 104, 109, 100, 116]⟩, 67, 67, 398, 197, 197, 2, 22⟩,
  ⟨⟨#[115, 104, 109, 103, 101, 116]⟩, 29, 29, 395, 194, 194, 2, 23⟩,
  ⟨⟨#[115, 104, 117, 116, 100, 111, 119, 110]⟩, 48, 48, 373, 210, 210, 1, 13⟩,
  ⟨⟨#[115, 111, 99, 107, 101, 116]⟩, 41, 41, 359, 198, 198, 1, 1⟩,
  ⟨⟨#[115, 111, 99, 107, 101, 116, 112, 97, 105, 114]⟩, 53, 53, 360, 199, 199, 1, 8⟩,
  ⟨⟨#[115, 116, 97, 116]⟩, 4, 4, 106, -1, -1, 0, 0⟩,
  ⟨⟨#[116, 105, 109, 101]⟩, 201, 201, 13, -1, -1, 0, 0⟩,
  ⟨⟨#[117, 110, 97, 109, 101]⟩, 63, 63, 122, 160, 160, 0, 0⟩,
  ⟨⟨#[117, 110, 108, 105, 110, 107]⟩, 87, 87, 10, -1, -1, 0, 0⟩,
  ⟨⟨#[118, 102, 111, 114, 107]⟩, 58, 58, 190, -1, -1, 0, 0⟩,
  ⟨⟨#[119, 97, 105, 116, 112, 105, 100]⟩, -1, -1, 7, -1, -1, 0, 0⟩,
  ⟨⟨#[119, 114, 105, 116, 101]⟩, 1, 1, 4, 64, 64, 0, 0⟩,
  ⟨⟨#[119, 114, 105, 116, 101, 118]⟩, 20, 516, 146, 66, 66, 0, 0⟩]
theorem build_late : abuildCells Tryz.prog 49 53 [(0, trowA ⟨⟨#[108, 115, 101, 101, 107]⟩, 8, 8, 19, 62, 62, 0, 0⟩), (1, trowA ⟨⟨#[109, 107, 100, 105, 114]⟩, 83, 83, 39, -1, -1, 0, 0⟩), (2, trowA ⟨⟨#[109, 109, 97, 112]⟩, 9, 9, -1, 222, 222, 0, 0⟩), (3, trowA ⟨⟨#[109, 109, 97, 112, 50]⟩, -1, -1, 192, -1, -1, 0, 0⟩), (4, trowA ⟨⟨#[109, 112, 114, 111, 116, 101, 99, 116]⟩, 10, 10, 125, 226, 226, 0, 0⟩), (5, trowA ⟨⟨#[109, 115, 103, 99, 116, 108]⟩, 71, 71, 402, 187, 187, 2, 14⟩), (6, trowA ⟨⟨#[109, 115, 103, 103, 101, 116]⟩, 68, 68, 399, 186, 186, 2, 13⟩), (7, trowA ⟨⟨#[109, 115, 103, 114, 99, 118]⟩, 70, 70, 401, 188, 188, 2, 12⟩), (8, trowA ⟨⟨#[109, 115, 103, 115, 110, 100]⟩, 69, 69, 400, 189, 189, 2, 11⟩), (9, trowA ⟨⟨#[109, 117, 110, 109, 97, 112]⟩, 11, 11, 91, 215, 215, 0, 0⟩), (10, trowA ⟨⟨#[110, 97, 110, 111, 115, 108, 101, 101, 112]⟩, 35, 35, 162, 101, 101, 0, 0⟩), (11, trowA ⟨⟨#[111, 112, 101, 110]⟩, 2, 2, 5, -1, -1, 0, 0⟩), (12, trowA ⟨⟨#[111, 112, 101, 110, 97, 116]⟩, 257, 257, 295, 56, 56, 0, 0⟩), (13, trowA ⟨⟨#[112, 105, 112, 101]⟩, 22, 22, 42, -1, -1, 0, 0⟩), (14, trowA ⟨⟨#[112, 105, 112, 101, 50]⟩, 293, 293, 331, 59, 59, 0, 0⟩), (15, trowA ⟨⟨#[112, 111, 108, 108]⟩, 7, 7, 168, -1, -1, 0, 0⟩), (16, trowA ⟨⟨#[112, 114, 101, 97, 100, 54, 52]⟩, 17, 17, 180, 67, 67, 0, 0⟩), (17, trowA ⟨⟨#[112, 114, 108, 105, 109, 105, 116, 54, 52]⟩, 302, 302, 340, 261, 261, 0, 0⟩), (18, trowA ⟨⟨#[112, 116, 114, 97, 99, 101]⟩, 101, 521, 26, 117, 117, 0, 0⟩), (19, trowA ⟨⟨#[112, 119, 114, 105, 116, 101, 54, 52]⟩, 18, 18, 181, 68, 68, 0, 0⟩), (20, trowA ⟨⟨#[114, 101, 97, 100]⟩, 0, 0, 3, 63, 63, 0, 0⟩), (21, trowA ⟨⟨#[114, 101, 97, 100, 118]⟩, 19, 515, 145, 65, 65, 0, 0⟩), (22, trowA ⟨⟨#[114, 101, 99, 118]⟩, -1, -1, -1, -1, -1, 1, 10⟩), (23, trowA ⟨⟨#[114, 101, 99, 118, 102, 114, 111, 109]⟩, 45, 517, 371, 207, 207, 1, 12⟩), (24, trowA ⟨⟨#[114, 101, 99, 118, 109, 115, 103]⟩, 47, 519, 372, 212, 212, 1, 17⟩), (25, trowA ⟨⟨#[114, 101, 110, 97, 109, 101]⟩, 82, 82, 38, -1, -1, 0, 0⟩), (26, trowA ⟨⟨#[114, 105, 115, 99, 118, 95, 102, 108, 117, 115, 104, 95, 105, 99, 97, 99, 104, 101]⟩, -1, -1, -1, -1, 259, 0, 0⟩), (27, trowA ⟨⟨#[114, 116, 95, 115, 105, 103, 97, 99, 116, 105, 111, 110]⟩, 13, 512, 174, 134, 134, 0, 0⟩), (28, trowA ⟨⟨#[114, 116, 95, 115, 105, 103, 114, 101, 116, 117, 114, 110]⟩, 15, 513, 173, 139, 139, 0, 0⟩), (29, trowA ⟨⟨#[115, 101, 99, 99, 111, 109, 112]⟩, 317, 317, 354, 277, 277, 0, 0⟩), (30, trowA ⟨⟨#[115, 101, 108, 101, 99, 116]⟩, 23, 23, 82, -1, -1, 0, 0⟩), (31, trowA ⟨⟨#[115, 101, 109, 99, 116, 108]⟩, 66, 66, 394, 191, 191, 2, 3⟩), (32, trowA ⟨⟨#[115, 101, 109, 103, 101, 116]⟩, 64, 64, 393, 190, 190, 2, 2⟩), (33, trowA ⟨⟨#[115, 101, 109, 111, 112]⟩, 65, 65, -1, 193, 193, 2, 1⟩), (34, trowA ⟨⟨#[115, 101, 110, 100]⟩, -1, -1, -1, -1, -1, 1, 9⟩), (35, trowA ⟨⟨#[115, 101, 110, 100, 109, 115, 103]⟩, 46, 518, 370, 211, 211, 1, 16⟩), (36, trowA ⟨⟨#[115, 101, 110, 100, 116, 111]⟩, 44, 44, 369, 206, 206, 1, 11⟩), (37, trowA ⟨⟨#[115, 101, 116, 115, 111, 99, 107, 111, 112, 116]⟩, 54, 541, 366, 208, 208, 1, 14⟩), (38, trowA ⟨⟨#[115, 104, 109, 97, 116]⟩, 30, 30, 397, 196, 196, 2, 21⟩), (39, trowA ⟨⟨#[115, 104, 109, 99, 116, 108]⟩, 31, 31, 396, 195, 195, 2, 24⟩), (40, trowA ⟨⟨#[115, 104, 109, 100, 116]⟩, 67, 67, 398, 197, 197, 2, 22⟩), (41, trowA ⟨⟨#[115, 104, 109, 103, 101, 116]⟩, 29, 29, 395, 194, 194, 2, 23⟩), (42, trowA ⟨⟨#[115, 104, 117, 116, 100, 111, 119, 110]⟩, 48, 48, 373, 210, 210, 1, 13⟩), (43, trowA ⟨⟨#[115, 111, 99, 107, 101, 116]⟩, 41, 41, 359, 198, 198, 1, 1⟩), (44, trowA ⟨⟨#[115, 111, 99, 107, 101, 116, 112, 97, 105, 114]⟩, 53, 53, 360, 199, 199, 1, 8⟩), (45, trowA ⟨⟨#[115, 116, 97, 116]⟩, 4, 4, 106, -1, -1, 0, 0⟩), (46, trowA ⟨⟨#[116, 105, 109, 101]⟩, 201, 201, 13, -1, -1, 0, 0⟩), (47, trowA ⟨⟨#[117, 110, 97, 109, 101]⟩, 63, 63, 122, 160, 160, 0, 0⟩), (48, trowA ⟨⟨#[117, 110, 108, 105, 110, 107]⟩, 87, 87, 10, -1, -1, 0, 0⟩), (49, trowA ⟨⟨#[118, 102, 111, 114, 107]⟩, 58, 58, 190, -1, -1, 0, 0⟩), (50, trowA ⟨⟨#[119, 97, 105, 116, 112, 105, 100]⟩, -1, -1, 7, -1, -1, 0, 0⟩), (51, trowA ⟨⟨#[119, 114, 105, 116, 101]⟩, 1, 1, 4, 64, 64, 0, 0⟩), (52, trowA ⟨⟨#[119, 114, 105, 116, 101, 118]⟩, 20, 516, 146, 66, 66, 0, 0⟩)] = some (106, [strA ⟨#[108, 115, 101, 101, 107]⟩, int (8), int (8), int (19), int (62), int (62), int 0, int 0, strA ⟨#[109, 107, 100, 105, 114]⟩, int (83), int (83), int (39), int (-1), int (-1), int 0, int 0, strA ⟨#[109, 109, 97, 112]⟩, int (9), int (9), int (-1), int (222), int (222), int 0, int 0, strA ⟨#[109, 109, 97, 112, 50]⟩, int (-1), int (-1), int (192), int (-1), int (-1), int 0, int 0, strA ⟨#[109, 112, 114, 111, 116, 101, 99, 116]⟩, int (10), int (10), int (125), int (226), int (226), int 0, int 0, strA ⟨#[109, 115, 103, 99, 116, 108]⟩, int (71), int (71), int (402), int (187), int (187), int 2, int 14, strA ⟨#[109, 115, 103, 103, 101, 116]⟩, int (68), int (68), int (399), int (186), int (186), int 2, int 13, strA ⟨#[109, 115, 103, 114, 99, 118]⟩, int (70), int (70), int (401), int (188), int (188), int 2, int 12, strA ⟨#[109, 115, 103, 115, 110, 100]⟩, int (69), int (69), int (400), int (189), int (189), int 2, int 11, strA ⟨#[109, 117, 110, 109, 97, 112]⟩, int (11), int (11), int (91), int (215), int (215), int 0, int 0, strA ⟨#[110, 97, 110, 111, 115, 108, 101, 101, 112]⟩, int (35), int (35), int (162), int (101), int (101), int 0, int 0, strA ⟨#[111, 112, 101, 110]⟩, int (2), int (2), int (5), int (-1), int (-1), int 0, int 0, strA ⟨#[111, 112, 101, 110, 97, 116]⟩, int (257), int (257), int (295), int (56), int (56), int 0, int 0, strA ⟨#[112, 105, 112, 101]⟩, int (22), int (22), int (42), int (-1), int (-1), int 0, int 0, strA ⟨#[112, 105, 112, 101, 50]⟩, int (293), int (293), int (331), int (59), int (59), int 0, int 0, strA ⟨#[112, 111, 108, 108]⟩, int (7), int (7), int (168), int (-1), int (-1), int 0, int 0, strA ⟨#[112, 114, 101, 97, 100, 54, 52]⟩, int (17), int (17), int (180), int (67), int (67), int 0, int 0, strA ⟨#[112, 114, 108, 105, 109, 105, 116, 54, 52]⟩, int (302), int (302), int (340), int (261), int (261), int 0, int 0, strA ⟨#[112, 116, 114, 97, 99, 101]⟩, int (101), int (521), int (26), int (117), int (117), int 0, int 0, strA ⟨#[112, 119, 114, 105, 116, 101, 54, 52]⟩, int (18), int (18), int (181), int (68), int (68), int 0, int 0, strA ⟨#[114, 101, 97, 100]⟩, int (0), int (0), int (3), int (63), int (63), int 0, int 0, strA ⟨#[114, 101, 97, 100, 118]⟩, int (19), int (515), int (145), int (65), int (65), int 0, int 0, strA ⟨#[114, 101, 99, 118]⟩, int (-1), int (-1), int (-1), int (-1), int (-1), int 1, int 10, strA ⟨#[114, 101, 99, 118, 102, 114, 111, 109]⟩, int (45), int (517), int (371), int (207), int (207), int 1, int 12, strA ⟨#[114, 101, 99, 118, 109, 115, 103]⟩, int (47), int (519), int (372), int (212), int (212), int 1, int 17, strA ⟨#[114, 101, 110, 97, 109, 101]⟩, int (82), int (82), int (38), int (-1), int (-1), int 0, int 0, strA ⟨#[114, 105, 115, 99, 118, 95, 102, 108, 117, 115, 104, 95, 105, 99, 97, 99, 104, 101]⟩, int (-1), int (-1), int (-1), int (-1), int (259), int 0, int 0, strA ⟨#[114, 116, 95, 115, 105, 103, 97, 99, 116, 105, 111, 110]⟩, int (13), int (512), int (174), int (134), int (134), int 0, int 0, strA ⟨#[114, 116, 95, 115, 105, 103, 114, 101, 116, 117, 114, 110]⟩, int (15), int (513), int (173), int (139), int (139), int 0, int 0, strA ⟨#[115, 101, 99, 99, 111, 109, 112]⟩, int (317), int (317), int (354), int (277), int (277), int 0, int 0, strA ⟨#[115, 101, 108, 101, 99, 116]⟩, int (23), int (23), int (82), int (-1), int (-1), int 0, int 0, strA ⟨#[115, 101, 109, 99, 116, 108]⟩, int (66), int (66), int (394), int (191), int (191), int 2, int 3, strA ⟨#[115, 101, 109, 103, 101, 116]⟩, int (64), int (64), int (393), int (190), int (190), int 2, int 2, strA ⟨#[115, 101, 109, 111, 112]⟩, int (65), int (65), int (-1), int (193), int (193), int 2, int 1, strA ⟨#[115, 101, 110, 100]⟩, int (-1), int (-1), int (-1), int (-1), int (-1), int 1, int 9, strA ⟨#[115, 101, 110, 100, 109, 115, 103]⟩, int (46), int (518), int (370), int (211), int (211), int 1, int 16, strA ⟨#[115, 101, 110, 100, 116, 111]⟩, int (44), int (44), int (369), int (206), int (206), int 1, int 11, strA ⟨#[115, 101, 116, 115, 111, 99, 107, 111, 112, 116]⟩, int (54), int (541), int (366), int (208), int (208), int 1, int 14, strA ⟨#[115, 104, 109, 97, 116]⟩, int (30), int (30), int (397), int (196), int (196), int 2, int 21, strA ⟨#[115, 104, 109, 99, 116, 108]⟩, int (31), int (31), int (396), int (195), int (195), int 2, int 24, strA ⟨#[115, 104, 109, 100, 116]⟩, int (67), int (67), int (398), int (197), int (197), int 2, int 22, strA ⟨#[115, 104, 109, 103, 101, 116]⟩, int (29), int (29), int (395), int (194), int (194), int 2, int 23, strA ⟨#[115, 104, 117, 116, 100, 111, 119, 110]⟩, int (48), int (48), int (373), int (210), int (210), int 1, int 13, strA ⟨#[115, 111, 99, 107, 101, 116]⟩, int (41), int (41), int (359), int (198), int (198), int 1, int 1, strA ⟨#[115, 111, 99, 107, 101, 116, 112, 97, 105, 114]⟩, int (53), int (53), int (360), int (199), int (199), int 1, int 8, strA ⟨#[115, 116, 97, 116]⟩, int (4), int (4), int (106), int (-1), int (-1), int 0, int 0, strA ⟨#[116, 105, 109, 101]⟩, int (201), int (201), int (13), int (-1), int (-1), int 0, int 0, strA ⟨#[117, 110, 97, 109, 101]⟩, int (63), int (63), int (122), int (160), int (160), int 0, int 0, strA ⟨#[117, 110, 108, 105, 110, 107]⟩, int (87), int (87), int (10), int (-1), int (-1), int 0, int 0, strA ⟨#[118, 102, 111, 114, 107]⟩, int (58), int (58), int (190), int (-1), int (-1), int 0, int 0, strA ⟨#[119, 97, 105, 116, 112, 105, 100]⟩, int (-1), int (-1), int (7), int (-1), int (-1), int 0, int 0, strA ⟨#[119, 114, 105, 116, 101]⟩, int (1), int (1), int (4), int (64), int (64), int 0, int 0, strA ⟨#[119, 114, 105, 116, 101, 118]⟩, int (20), int (516), int (146), int (66), int (66), int 0, int 0]) := by kernel_rfl
set_option maxHeartbeats 4000000 in
theorem late_spec : Tells Tryz.prog 93 [] (trows lateL) := by
  refine tells_of_aw Tryz.func93 rfl rfl fun nx => ?_
  (refine stpR ?_; refine aw_region ?_; refine stpR ?_)
  refine aw_regionY (fun n => match n with | 0 => true | _ => false) 107 ?_
  refine stp ?_
  refine aop_build rfl build_late ?_
  refine stp ?_
  refine ret_tells rfl (AVle.os_sl.trans (AVle.sl_fun fun k hk => ?_))
  match k, hk with
  | 0, _ => rfl
  | 1, _ => rfl
  | 2, _ => rfl
  | 3, _ => rfl
  | 4, _ => rfl
  | 5, _ => rfl
  | 6, _ => rfl
  | 7, _ => rfl
  | 8, _ => rfl
  | 9, _ => rfl
  | 10, _ => rfl
  | 11, _ => rfl
  | 12, _ => rfl
  | 13, _ => rfl
  | 14, _ => rfl
  | 15, _ => rfl
  | 16, _ => rfl
  | 17, _ => rfl
  | 18, _ => rfl
  | 19, _ => rfl
  | 20, _ => rfl
  | 21, _ => rfl
  | 22, _ => rfl
  | 23, _ => rfl
  | 24, _ => rfl
  | 25, _ => rfl
  | 26, _ => rfl
  | 27, _ => rfl
  | 28, _ => rfl
  | 29, _ => rfl
  | 30, _ => rfl
  | 31, _ => rfl
  | 32, _ => rfl
  | 33, _ => rfl
  | 34, _ => rfl
  | 35, _ => rfl
  | 36, _ => rfl
  | 37, _ => rfl
  | 38, _ => rfl
  | 39, _ => rfl
  | 40, _ => rfl
  | 41, _ => rfl
  | 42, _ => rfl
  | 43, _ => rfl
  | 44, _ => rfl
  | 45, _ => rfl
  | 46, _ => rfl
  | 47, _ => rfl
  | 48, _ => rfl
  | 49, _ => rfl
  | 50, _ => rfl
  | 51, _ => rfl
  | 52, _ => rfl
  | k + 53, hk => exact absurd hk (by omega)
end Go.Proofs.W

namespace Go.Proofs.W
open Go.Vl
set_option maxRecDepth 100000

def builtL : List TRow := earlyL ++ lateL
theorem noid_trows (l : List TRow) : NoId (trows l) := NoId.sl fun i _ c hc => by
  have hc : c ∈ trowC (l.getD i trow0) := hc
  unfold trowC at hc
  simp only [List.mem_cons, List.not_mem_nil, or_false] at hc
  rcases hc with rfl | rfl | rfl | rfl | rfl | rfl | rfl | rfl <;> exact NoId.v _
theorem builtin_spec : Tells Tryz.prog 43 [] (trows builtL) := by
  have hc := concat_trow [earlyL, lateL] (by decide) (by decide) none
  have e : [earlyL, lateL].flatten = builtL := by unfold builtL; simp
  rw [e] at hc
  have he := early_spec
  have hl := late_spec
  generalize earlyL = A at he hc
  generalize lateL = B at hl hc
  generalize builtL = C at hc
  refine tells_of_aw Tryz.func43 rfl rfl fun nx => ?_
  refine stp ?_
  refine aop_tells rfl rfl he trivial fun nx2 => ?_
  refine stp ?_
  refine aop_tells rfl rfl hl trivial fun nx3 => ?_
  refine stp ?_
  refine aop_tells rfl rfl hc ⟨AVle.os_fun fun k hk => ?_, trivial⟩ fun nx4 => ?_
  · match k, hk with
    | 0, _ => rfl
    | 1, _ => rfl
  refine stp ?_
  exact ret_tells rfl (AVle.refl _)
end Go.Proofs.W

namespace Go.Proofs.W
open Go.Vl
set_option maxRecDepth 100000

theorem built_len : builtL.length ≤ 1000000 := Nat.le_of_ble_eq_true (by kernel_rfl)
theorem built_names : ∀ r ∈ builtL, r.name.size ≤ maxLen := fun r hr => by
  have : (builtL.all fun r => decide (r.name.size ≤ maxLen)) = true := by kernel_rfl
  exact of_decide_eq_true (List.all_eq_true.1 this r hr)
end Go.Proofs.W

namespace Go.Proofs.W
open Go.Vl
set_option maxRecDepth 100000

theorem few_le {l : List TRow} (h : fewB l = true) : l.length ≤ 40 ∧ ∀ r ∈ l, r.name.size ≤ 60 := by
  unfold fewB at h
  simp only [Bool.and_eq_true, decide_eq_true_eq, Bool.not_eq_true', List.any_eq_false] at h
  exact ⟨h.1, fun r hr => by have := h.2 r hr; omega⟩
end Go.Proofs.W

namespace Go.Proofs.W
open Go.Vl
set_option maxRecDepth 100000

end Go.Proofs.W

namespace Go.Proofs.W
open Go.Vl
set_option maxRecDepth 100000

set_option maxHeartbeats 2000000 in
theorem refholds_spec (c : Cnd) (a : Nat) (hr : rightC c = true) (ho : c.ok) (ha : a < 18446744073709551616) : Tells Tryz.prog 49 [cndA c, u64 a] (boolA (holdsC c a)) := by
  obtain ⟨_, _, h1, h7, _⟩ := rightC_iff.1 hr
  obtain ⟨arg, op, mask, value⟩ := c
  dsimp only at h1 h7
  have ho1 : mask < 18446744073709551616 := ho.1
  unfold holdsC
  dsimp only
  rcases (by omega : op = 1 ∨ op = 2 ∨ op = 3 ∨ op = 4 ∨ op = 5 ∨ op = 6 ∨ op = 7) with rfl | rfl | rfl | rfl | rfl | rfl | rfl
  all_goals
    refine tells_of_aw Tryz.func49 rfl rfl fun nx => ?_
    refine stp ?_
    intro c h; cases c
  all_goals
    try rw [u64_and ha ho1] at h
    refine stp ?_
    refine ret_tells rfl (le_bool ?_)
    (try simp only [fct_b0, fct_b1, fct_d0, fct_d1, fct_n0, fct_n1] at *)
    first | omega | (simp; omega)
def seenA (a : Int) (x : Nat) : Nat := if a = 2 then x % 4294967296 else x
def hR (a : Int) (x : Nat → Nat) (c : Cnd) : Bool := holdsC c (seenA a (x c.arg.toNat))
def decR (p : Pol) (nm : ByteArray) (a : Int) (x : Nat → Nat) : A2 := match p.rules.find? (fun r => kS r.name nm && r.conds.all (hR a x)) with
  | some r => r.act
  | none => p.dflt
end Go.Proofs.W

namespace Go.Proofs.W
open Go.Vl
set_option maxRecDepth 100000

def polR (k n : Int) (x32 : Bool) (rs : List Rul) : List AV := [int k, int n, boolA x32, ruls rs]
def arrL (x : Nat → Nat) : List AV := [u64 (x 0), u64 (x 1), u64 (x 2), u64 (x 3), u64 (x 4), u64 (x 5)]
theorem all_takeC {p : Cnd → Bool} {L : List Cnd} {i : Nat} (h : i < L.length) : (L.take (i + 1)).all p = ((L.take i).all p && p (L.getD i cnd0)) := by
  rw [take_getD cnd0 h, List.all_append]; simp
theorem seen_lt {a : Int} {x : Nat} (h : x < 18446744073709551616) : seenA a x < 18446744073709551616 := by unfold seenA; split <;> omega
theorem all_false {p : Cnd → Bool} {L : List Cnd} {i : Nat} (h : (L.take i).all p = false) : L.all p = false := by
  rw [List.all_eq_false] at h ⊢
  obtain ⟨c, hc, h⟩ := h
  exact ⟨c, List.mem_of_mem_take hc, h⟩
set_option maxHeartbeats 16000000 in
theorem refdecide_spec (p : Pol) (nm : ByteArray) (a : Int) (x : Nat → Nat) (hx : ∀ i, x i < 18446744073709551616) (hp : polOk p) (hrt : ∀ r ∈ p.rules, ∀ c ∈ r.conds, rightC c = true) : Tells Tryz.prog 15 [polA p, strA nm, int a, arrA x] (actP (decR p nm a x)) := by
  obtain ⟨⟨k, n⟩, x32, rs⟩ := p
  obtain ⟨hl, hc⟩ := hp
  dsimp only at hl hc hrt
  refine tells_of_aw Tryz.func15 rfl rfl fun nx => ?_
  refine stp ?_
  refine aw_loop (fun y : Nat × Nat => mk 60 [(1, strA nm), (2, int a), (4, .bp (0, nx) 0), (7, .bp (1, nx + 1) 0), (8, .bp (2, nx + 2) 0), (9, int y.1)] ⟨[((2, nx + 2), .c [int 0, int 0]), ((1, nx + 1), .c (arrL x)), ((0, nx), .c (polR k n x32 rs))], [], y.2, 3⟩) (fun y => y.1 ≤ rs.length ∧ ∀ j, j < y.1 → (kS (rs.getD j rul0).name nm && (rs.getD j rul0).conds.all (hR a x)) = false) (fun y => rs.length - y.1) ?_ ?_
  · exact ⟨(0, nx + 3), ⟨Nat.zero_le _, fun j h => absurd h (Nat.not_lt_zero _)⟩, ele_tell (pm := []) (bx := [((2, nx + 2), .c [int 0, int 0]), ((1, nx + 1), .c (arrL x)), ((0, nx), .c (polR k n x32 rs))]) _ _ rfl rfl (List.Sublist.refl _) (List.Sublist.refl _) (BxLe.refl _) trivial ⟨AVle.refl _, AVle.refl _, AVle.refl _, AVle.refl _, AVle.refl _, AVle.refl _, trivial⟩⟩
  · rintro ⟨i, nx1⟩ ⟨h1, h2⟩
    dsimp only at h1 h2
    refine stp ?_
    intro c g1; cases c
    · have g1 := not_of g1
      try dsimp only at g1
      have hi : i = rs.length := by omega
      subst hi
      have hd : decR ⟨(k, n), x32, rs⟩ nm a x = (k, n) := by
        unfold decR
        rw [List.find?_eq_none.2 fun r hr => ?_]
        obtain ⟨j, hj, rfl⟩ := List.mem_iff_getElem.1 hr
        have := h2 j hj
        rw [show rs.getD j rul0 = rs[j] by simp [List.getD, hj]] at this
        rw [this]; decide
      refine stp ?_
      exact ret_tells_all rfl ⟨rfl, trivial⟩ (AVle.of_eq (by rw [hd]; rfl))
    · have g1 := yes_of g1
      try dsimp only at g1
      have hi : i < rs.length := by omega
      have hmem : rs.getD i rul0 ∈ rs := by simp [List.getD, hi]
      have hcr := hc _ hmem
      have hrr := hrt _ hmem
      generalize hr : rs.getD i rul0 = r at hcr hrr
      refine stp ?_
      refine ⟨⟨by first | omega | (dsimp only; omega), by first | omega | (dsimp only; omega)⟩, splitO_eq (b := .rp [strA r.name, int r.act.1, int r.act.2, cnds r.conds]) (by rw [← hr]; rfl) ?_⟩
      refine stp ?_
      intro c hc0
      have hc2 : c = kS r.name nm := hc0
      clear hc0
      refine stp ?_
      refine aw_loop (fun y : Nat × Bool × Nat => mk 60 [(1, strA nm), (2, int a), (4, .bp (0, nx) 0), (7, .bp (1, nx + 1) 0), (8, .bp (2, nx + 2) 0), (9, int i), (10, .bp (3, nx1) 0), (11, boolA y.2.1), (12, int y.1)] ⟨[((3, nx1), .c [strA r.name, int r.act.1, int r.act.2, cnds r.conds]), ((2, nx + 2), .c [int 0, int 0]), ((1, nx + 1), .c (arrL x)), ((0, nx), .c (polR k n x32 rs))], [], y.2.2, 4⟩) (fun y => y.1 ≤ r.conds.length ∧ y.2.1 = (c && (r.conds.take y.1).all (hR a x))) (fun y => r.conds.length - y.1) ?_ ?_
      · exact ⟨(0, c, nx1 + 1), ⟨Nat.zero_le _, by simp⟩, ele_tell (pm := []) (bx := [((3, nx1), .c [strA r.name, int r.act.1, int r.act.2, cnds r.conds]), ((2, nx + 2), .c [int 0, int 0]), ((1, nx + 1), .c (arrL x)), ((0, nx), .c (polR k n x32 rs))]) _ _ rfl rfl (List.Sublist.refl _) (List.Sublist.refl _) (BxLe.refl _) trivial ⟨AVle.refl _, AVle.refl _, AVle.refl _, AVle.refl _, AVle.refl _, AVle.refl _, AVle.refl _, AVle.refl _, AVle.refl _, trivial⟩⟩
      · rintro ⟨j, v, nx2⟩ ⟨k1, k2⟩
        dsimp only at k1 k2
        cases v with
        | false =>
          have hno : (kS r.name nm && r.conds.all (hR a x)) = false := by
            rw [← hc2]
            cases c with
            | false => rfl
            | true => rw [Bool.true_and] at k2 ⊢; exact all_false k2.symm
          refine stp ?_
          intro c g2; cases c
          · refine stp ?_
            exact back (i + 1, nx2) ⟨hi, fun j hj => by dsimp only at hj; rcases Nat.lt_or_ge j i with q | q; exact h2 j q; rw [show j = i by omega, hr]; exact hno⟩ (by dsimp only; omega) (ele_tell (pm := []) (bx := [((2, nx + 2), .c [int 0, int 0]), ((1, nx + 1), .c (arrL x)), ((0, nx), .c (polR k n x32 rs))]) _ _ rfl rfl (.cons _ (List.Sublist.refl _)) (List.Sublist.refl _) (BxLe.refl _) trivial ⟨AVle.refl _, AVle.refl _, AVle.refl _, AVle.refl _, AVle.refl _, le_int (wrap_succ (by first | omega | (dsimp only; omega))), trivial⟩)
          · refine stp ?_
            exact back (i + 1, nx2) ⟨hi, fun j hj => by dsimp only at hj; rcases Nat.lt_or_ge j i with q | q; exact h2 j q; rw [show j = i by omega, hr]; exact hno⟩ (by dsimp only; omega) (ele_tell (pm := []) (bx := [((2, nx + 2), .c [int 0, int 0]), ((1, nx + 1), .c (arrL x)), ((0, nx), .c (polR k n x32 rs))]) _ _ rfl rfl (.cons _ (List.Sublist.refl _)) (List.Sublist.refl _) (BxLe.refl _) trivial ⟨AVle.refl _, AVle.refl _, AVle.refl _, AVle.refl _, AVle.refl _, le_int (wrap_succ (by first | omega | (dsimp only; omega))), trivial⟩)
        | true =>
          refine stp ?_
          intro c g2; cases c
          · have g2 := not_of g2
            try dsimp only at g2
            have hj : j = r.conds.length := by omega
            have hd : decR ⟨(k, n), x32, rs⟩ nm a x = r.act := by
              rw [hj, List.take_length, hc2] at k2
              unfold decR
              rw [find_first hi h2 (by rw [hr]; exact k2.symm), hr]
            refine stp ?_
            exact ret_tells_all rfl ⟨rfl, trivial⟩ (AVle.of_eq (by rw [hd]; rfl))
          · have g2 := yes_of g2
            try dsimp only at g2
            have hj : j < r.conds.length := by omega
            have hmc : r.conds.getD j cnd0 ∈ r.conds := by simp [List.getD, hj]
            have hok := hcr.2 _ hmc
            have hri := hrr _ hmc
            have hnext := all_takeC (p := hR a x) hj
            generalize hcd : r.conds.getD j cnd0 = cd at hok hri hnext
            obtain ⟨q1, q2, _⟩ := rightC_iff.1 hri
            have hh := refholds_spec cd (seenA a (x cd.arg.toNat)) hri hok (seen_lt (hx _))
            have ha8 := ref08arg_spec a (x cd.arg.toNat) (hx _)
            have hvn : (c && (r.conds.take (j + 1)).all (hR a x)) = hR a x cd := by rw [hnext, ← Bool.and_assoc, ← k2]; rfl
            unfold hR at hvn
            generalize holdsC cd (seenA a (x cd.arg.toNat)) = hv at hh hvn
            obtain ⟨arg, op, mask, value⟩ := cd
            dsimp only at q1 q2 hh ha8
            refine stp ?_
            obtain rfl | rfl | rfl | rfl | rfl | rfl : arg = 0 ∨ arg = 1 ∨ arg = 2 ∨ arg = 3 ∨ arg = 4 ∨ arg = 5 := by omega
            · refine aw_mixN 16 _ (fun _ => false) (fun i => match i with | 14 => true | 15 => true | _ => false) [0, 1, 2, 3, 4, 5, 6, 7, 8, 9, 10, 11, 12, 13, 14, 15] (by kernel_rfl) (by kernel_rfl) (HB.refl _) ?_
              refine stp ?_
              refine ⟨⟨by first | omega | (dsimp only; omega), by first | omega | (dsimp only; omega)⟩, splitV_to (b := .rp [int 0, int op, u64 (mask : Nat), u64 (value : Nat)]) (congrArg (fun c : Cnd => AV.rp (cndA c).cells) hcd) ?_⟩
              refine stp ?_
              refine ⟨⟨by first | omega | (dsimp only; omega), by first | omega | (dsimp only; omega)⟩, splitV_to (b := .rp [int 0, int op, u64 (mask : Nat), u64 (value : Nat)]) (congrArg (fun c : Cnd => AV.rp (cndA c).cells) hcd) ?_⟩
              refine stp ?_
              refine ⟨_, pure_tells rfl rfl rfl ha8 ⟨AVle.refl _, AVle.refl _, trivial⟩ (NoId.v _), ?_⟩
              refine stp ?_
              refine ⟨_, pure_tells rfl rfl rfl hh ⟨AVle.refl _, AVle.refl _, trivial⟩ (NoId.v _), ?_⟩
              refine stp ?_
              exact back (j + 1, hv, nx2) ⟨hj, hvn.symm⟩ (by dsimp only; omega) (ele_tell (pm := []) (bx := [((3, nx1), .c [strA r.name, int r.act.1, int r.act.2, cnds r.conds]), ((2, nx + 2), .c [int 0, int 0]), ((1, nx + 1), .c (arrL x)), ((0, nx), .c (polR k n x32 rs))]) _ _ rfl rfl (List.Sublist.refl _) (List.Sublist.refl _) (BxLe.refl _) trivial ⟨AVle.refl _, AVle.refl _, AVle.refl _, AVle.refl _, AVle.refl _, AVle.refl _, AVle.refl _, AVle.refl _, le_int (wrap_succ (by first | omega | (dsimp only; omega))), trivial⟩)
            · refine aw_mixN 16 _ (fun _ => false) (fun i => match i with | 14 => true | 15 => true | _ => false) [0, 1, 2, 3, 4, 5, 6, 7, 8, 9, 10, 11, 12, 13, 14, 15] (by kernel_rfl) (by kernel_rfl) (HB.refl _) ?_
              refine stp ?_
              refine ⟨⟨by first | omega | (dsimp only; omega), by first | omega | (dsimp only; omega)⟩, splitV_to (b := .rp [int 1, int op, u64 (mask : Nat), u64 (value : Nat)]) (congrArg (fun c : Cnd => AV.rp (cndA c).cells) hcd) ?_⟩
              refine stp ?_
              refine ⟨⟨by first | omega | (dsimp only; omega), by first | omega | (dsimp only; omega)⟩, splitV_to (b := .rp [int 1, int op, u64 (mask : Nat), u64 (value : Nat)]) (congrArg (fun c : Cnd => AV.rp (cndA c).cells) hcd) ?_⟩
              refine stp ?_
              refine ⟨_, pure_tells rfl rfl rfl ha8 ⟨AVle.refl _, AVle.refl _, trivial⟩ (NoId.v _), ?_⟩
              refine stp ?_
              refine ⟨_, pure_tells rfl rfl rfl hh ⟨AVle.refl _, AVle.refl _, trivial⟩ (NoId.v _), ?_⟩
              refine stp ?_
              exact back (j + 1, hv, nx2) ⟨hj, hvn.symm⟩ (by dsimp only; omega) (ele_tell (pm := []) (bx := [((3, nx1), .c [strA r.name, int r.act.1, int r.act.2, cnds r.conds]), ((2, nx + 2), .c [int 0, int 0]), ((1, nx + 1), .c (arrL x)), ((0, nx), .c (polR k n x32 rs))]) _ _ rfl rfl (List.Sublist.refl _) (List.Sublist.refl _) (BxLe.refl _) trivial ⟨AVle.refl _, AVle.refl _, AVle.refl _, AVle.refl _, AVle.refl _, AVle.refl _, AVle.refl _, AVle.refl _, le_int (wrap_succ (by first | omega | (dsimp only; omega))), trivial⟩)
            · refine aw_mixN 16 _ (fun _ => false) (fun i => match i with | 14 => true | 15 => true | _ => false) [0, 1, 2, 3, 4, 5, 6, 7, 8, 9, 10, 11, 12, 13, 14, 15] (by kernel_rfl) (by kernel_rfl) (HB.refl _) ?_
              refine stp ?_
              refine ⟨⟨by first | omega | (dsimp only; omega), by first | omega | (dsimp only; omega)⟩, splitV_to (b := .rp [int 2, int op, u64 (mask : Nat), u64 (value : Nat)]) (congrArg (fun c : Cnd => AV.rp (cndA c).cells) hcd) ?_⟩
              refine stp ?_
              refine ⟨⟨by first | omega | (dsimp only; omega), by first | omega | (dsimp only; omega)⟩, splitV_to (b := .rp [int 2, int op, u64 (mask : Nat), u64 (value : Nat)]) (congrArg (fun c : Cnd => AV.rp (cndA c).cells) hcd) ?_⟩
              refine stp ?_
              refine ⟨_, pure_tells rfl rfl rfl ha8 ⟨AVle.refl _, AVle.refl _, trivial⟩ (NoId.v _), ?_⟩
              refine stp ?_
              refine ⟨_, pure_tells rfl rfl rfl hh ⟨AVle.refl _, AVle.refl _, trivial⟩ (NoId.v _), ?_⟩
              refine stp ?_
              exact back (j + 1, hv, nx2) ⟨hj, hvn.symm⟩ (by dsimp only; omega) (ele_tell (pm := []) (bx := [((3, nx1), .c [strA r.name, int r.act.1, int r.act.2, cnds r.conds]), ((2, nx + 2), .c [int 0, int 0]), ((1, nx + 1), .c (arrL x)), ((0, nx), .c (polR k n x32 rs))]) _ _ rfl rfl (List.Sublist.refl _) (List.Sublist.refl _) (BxLe.refl _) trivial ⟨AVle.refl _, AVle.refl _, AVle.refl _, AVle.refl _, AVle.refl _, AVle.refl _, AVle.refl _, AVle.refl _, le_int (wrap_succ (by first | omega | (dsimp only; omega))), trivial⟩)
            · refine aw_mixN 16 _ (fun _ => false) (fun i => match i with | 14 => true | 15 => true | _ => false) [0, 1, 2, 3, 4, 5, 6, 7, 8, 9, 10, 11, 12, 13, 14, 15] (by kernel_rfl) (by kernel_rfl) (HB.refl _) ?_
              refine stp ?_
              refine ⟨⟨by first | omega | (dsimp only; omega), by first | omega | (dsimp only; omega)⟩, splitV_to (b := .rp [int 3, int op, u64 (mask : Nat), u64 (value : Nat)]) (congrArg (fun c : Cnd => AV.rp (cndA c).cells) hcd) ?_⟩
              refine stp ?_
              refine ⟨⟨by first | omega | (dsimp only; omega), by first | omega | (dsimp only; omega)⟩, splitV_to (b := .rp [int 3, int op, u64 (mask : Nat), u64 (value : Nat)]) (congrArg (fun c : Cnd => AV.rp (cndA c).cells) hcd) ?_⟩
              refine stp ?_
              refine ⟨_, pure_tells rfl rfl rfl ha8 ⟨AVle.refl _, AVle.refl _, trivial⟩ (NoId.v _), ?_⟩
              refine stp ?_
              refine ⟨_, pure_tells rfl rfl rfl hh ⟨AVle.refl _, AVle.refl _, trivial⟩ (NoId.v _), ?_⟩
              refine stp ?_
              exact back (j + 1, hv, nx2) ⟨hj, hvn.symm⟩ (by dsimp only; omega) (ele_tell (pm := []) (bx := [((3, nx1), .c [strA r.name, int r.act.1, int r.act.2, cnds r.conds]), ((2, nx + 2), .c [int 0, int 0]), ((1, nx + 1), .c (arrL x)), ((0, nx), .c (polR k n x32 rs))]) _ _ rfl rfl (List.Sublist.refl _) (List.Sublist.refl _) (BxLe.refl _) trivial ⟨AVle.refl _, AVle.refl _, AVle.refl _, AVle.refl _, AVle.refl _, AVle.refl _, AVle.refl _, AVle.refl _, le_int (wrap_succ (by first | omega | (dsimp only; omega))), trivial⟩)
            · refine aw_mixN 16 _ (fun _ => false) (fun i => match i with | 14 => true | 15 => true | _ => false) [0, 1, 2, 3, 4, 5, 6, 7, 8, 9, 10, 11, 12, 13, 14, 15] (by kernel_rfl) (by kernel_rfl) (HB.refl _) ?_
              refine stp ?_
              refine ⟨⟨by first | omega | (dsimp only; omega), by first | omega | (dsimp only; omega)⟩, splitV_to (b := .rp [int 4, int op, u64 (mask : Nat), u64 (value : Nat)]) (congrArg (fun c : Cnd => AV.rp (cndA c).cells) hcd) ?_⟩
              refine stp ?_
              refine ⟨⟨by first | omega | (dsimp only; omega), by first | omega | (dsimp only; omega)⟩, splitV_to (b := .rp [int 4, int op, u64 (mask : Nat), u64 (value : Nat)]) (congrArg (fun c : Cnd => AV.rp (cndA c).cells) hcd) ?_⟩
              refine stp ?_
              refine ⟨_, pure_tells rfl rfl rfl ha8 ⟨AVle.refl _, AVle.refl _, trivial⟩ (NoId.v _), ?_⟩
              refine stp ?_
              refine ⟨_, pure_tells rfl rfl rfl hh ⟨AVle.refl _, AVle.refl _, trivial⟩ (NoId.v _), ?_⟩
              refine stp ?_
              exact back (j + 1, hv, nx2) ⟨hj, hvn.symm⟩ (by dsimp only; omega) (ele_tell (pm := []) (bx := [((3, nx1), .c [strA r.name, int r.act.1, int r.act.2, cnds r.conds]), ((2, nx + 2), .c [int 0, int 0]), ((1, nx + 1), .c (arrL x)), ((0, nx), .c (polR k n x32 rs))]) _ _ rfl rfl (List.Sublist.refl _) (List.Sublist.refl _) (BxLe.refl _) trivial ⟨AVle.refl _, AVle.refl _, AVle.refl _, AVle.refl _, AVle.refl _, AVle.refl _, AVle.refl _, AVle.refl _, le_int (wrap_succ (by first | omega | (dsimp only; omega))), trivial⟩)
            · refine aw_mixN 16 _ (fun _ => false) (fun i => match i with | 14 => true | 15 => true | _ => false) [0, 1, 2, 3, 4, 5, 6, 7, 8, 9, 10, 11, 12, 13, 14, 15] (by kernel_rfl) (by kernel_rfl) (HB.refl _) ?_
              refine stp ?_
              refine ⟨⟨by first | omega | (dsimp only; omega), by first | omega | (dsimp only; omega)⟩, splitV_to (b := .rp [int 5, int op, u64 (mask : Nat), u64 (value : Nat)]) (congrArg (fun c : Cnd => AV.rp (cndA c).cells) hcd) ?_⟩
              refine stp ?_
              refine ⟨⟨by first | omega | (dsimp only; omega), by first | omega | (dsimp only; omega)⟩, splitV_to (b := .rp [int 5, int op, u64 (mask : Nat), u64 (value : Nat)]) (congrArg (fun c : Cnd => AV.rp (cndA c).cells) hcd) ?_⟩
              refine stp ?_
              refine ⟨_, pure_tells rfl rfl rfl ha8 ⟨AVle.refl _, AVle.refl _, trivial⟩ (NoId.v _), ?_⟩
              refine stp ?_
              refine ⟨_, pure_tells rfl rfl rfl hh ⟨AVle.refl _, AVle.refl _, trivial⟩ (NoId.v _), ?_⟩
              refine stp ?_
              exact back (j + 1, hv, nx2) ⟨hj, hvn.symm⟩ (by dsimp only; omega) (ele_tell (pm := []) (bx := [((3, nx1), .c [strA r.name, int r.act.1, int r.act.2, cnds r.conds]), ((2, nx + 2), .c [int 0, int 0]), ((1, nx + 1), .c (arrL x)), ((0, nx), .c (polR k n x32 rs))]) _ _ rfl rfl (List.Sublist.refl _) (List.Sublist.refl _) (BxLe.refl _) trivial ⟨AVle.refl _, AVle.refl _, AVle.refl _, AVle.refl _, AVle.refl _, AVle.refl _, AVle.refl _, AVle.refl _, le_int (wrap_succ (by first | omega | (dsimp only; omega))), trivial⟩)
end Go.Proofs.W

namespace Go.Proofs.W
open Go.Vl
set_option maxRecDepth 100000

set_option maxHeartbeats 4000000 in
theorem refblind_spec (p : Pol) (nm : ByteArray) (hl : p.rules.length ≤ 1000000) : Tells Tryz.prog 16 [polA p, strA nm] (actP (blindP p nm)) := by
  obtain ⟨⟨k, n⟩, x32, rs⟩ := p
  dsimp only at hl
  refine tells_of_aw Tryz.func16 rfl rfl fun nx => ?_
  refine stp ?_
  refine aw_loop (fun y : Nat × Nat => mk 49 [(1, strA nm), (2, .bp (0, nx) 0), (4, .bp (1, nx + 1) 0), (5, int y.1)] ⟨[((1, nx + 1), .c [int 0, int 0]), ((0, nx), .c (polR k n x32 rs))], [], y.2, 2⟩) (fun y => y.1 ≤ rs.length ∧ ∀ j, j < y.1 → kS (rs.getD j rul0).name nm = false) (fun y => rs.length - y.1) ?_ ?_
  · exact ⟨(0, nx + 2), ⟨Nat.zero_le _, fun j h => absurd h (Nat.not_lt_zero _)⟩, ele_tell (pm := []) (bx := [((1, nx + 1), .c [int 0, int 0]), ((0, nx), .c (polR k n x32 rs))]) _ _ rfl rfl (List.Sublist.refl _) (List.Sublist.refl _) (BxLe.refl _) trivial ⟨AVle.refl _, AVle.refl _, AVle.refl _, AVle.refl _, trivial⟩⟩
  · rintro ⟨i, nx1⟩ ⟨h1, h2⟩
    dsimp only at h1 h2
    refine stp ?_
    intro c g1; cases c
    · have g1 := not_of g1
      try dsimp only at g1
      have hi : i = rs.length := by omega
      subst hi
      have hd : blindP ⟨(k, n), x32, rs⟩ nm = (k, n) := by
        unfold blindP
        rw [List.find?_eq_none.2 fun r hr => ?_]
        obtain ⟨j, hj, rfl⟩ := List.mem_iff_getElem.1 hr
        have := h2 j hj
        rw [show rs.getD j rul0 = rs[j] by simp [List.getD, hj]] at this
        rw [this]; decide
      refine stp ?_
      exact ret_tells_all rfl ⟨rfl, trivial⟩ (AVle.of_eq (by rw [hd]; rfl))
    · have g1 := yes_of g1
      try dsimp only at g1
      have hi : i < rs.length := by omega
      generalize hr : rs.getD i rul0 = r
      have hcell : AV.rp (rulA (rs.getD i rul0)).cells = .rp [strA r.name, int r.act.1, int r.act.2, cnds r.conds] := by rw [hr]; rfl
      refine stp ?_
      refine ⟨⟨by first | omega | (dsimp only; omega), by first | omega | (dsimp only; omega)⟩, splitO_eq (b := .rp [strA r.name, int r.act.1, int r.act.2, cnds r.conds]) hcell ?_⟩
      refine stp ?_
      intro c hc
      have hc2 : c = kS r.name nm := hc
      cases c
      · refine stp ?_
        refine ⟨⟨by first | omega | (dsimp only; omega), by first | omega | (dsimp only; omega)⟩, splitO_eq (b := .rp [strA r.name, int r.act.1, int r.act.2, cnds r.conds]) hcell ?_⟩
        refine stp ?_
        intro c hc3
        obtain rfl : c = false := hc3.trans hc2.symm
        refine stp ?_
        exact back (i + 1, nx1) ⟨hi, fun j hj => by dsimp only at hj; rcases Nat.lt_or_ge j i with q | q; exact h2 j q; rw [show j = i by omega, hr]; exact hc2.symm⟩ (by dsimp only; omega) (ele_tell (pm := []) (bx := [((1, nx + 1), .c [int 0, int 0]), ((0, nx), .c (polR k n x32 rs))]) _ _ rfl rfl (List.Sublist.refl _) (List.Sublist.refl _) (BxLe.refl _) trivial ⟨AVle.refl _, AVle.refl _, AVle.refl _, le_int (wrap_succ (by first | omega | (dsimp only; omega))), trivial⟩)
      · have hfnd : rs.find? (fun r => kS r.name nm) = some r := by
          have := find_first (q := fun r => kS r.name nm) hi h2 (by rw [hr]; exact hc2.symm)
          rw [hr] at this
          exact this
        refine stp ?_
        refine ⟨⟨by first | omega | (dsimp only; omega), by first | omega | (dsimp only; omega)⟩, splitO_eq (b := .rp [strA r.name, int r.act.1, int r.act.2, cnds r.conds]) hcell ?_⟩
        refine stp ?_
        intro c hc3
        have hc4 : c = decide (r.conds.length = 0) := hc3.trans (by rw [Bool.eq_iff_iff]; simp)
        cases c
        · have hd : blindP ⟨(k, n), x32, rs⟩ nm = (k, n) := by unfold blindP; rw [hfnd]; exact if_neg (of_decide_eq_false hc4.symm)
          refine stp ?_
          refine ⟨⟨by first | omega | (dsimp only; omega), by first | omega | (dsimp only; omega)⟩, splitO_eq (b := .rp [strA r.name, int r.act.1, int r.act.2, cnds r.conds]) hcell ?_⟩
          refine stp ?_
          intro c hc5
          obtain rfl : c = true := hc5.trans hc2.symm
          refine stp ?_
          exact ret_tells_all rfl ⟨rfl, trivial⟩ (AVle.of_eq (by rw [hd]; rfl))
        · have hd : blindP ⟨(k, n), x32, rs⟩ nm = r.act := by unfold blindP; rw [hfnd]; exact if_pos (of_decide_eq_true hc4.symm)
          refine stp ?_
          refine ⟨⟨by first | omega | (dsimp only; omega), by first | omega | (dsimp only; omega)⟩, splitO_eq (b := .rp [strA r.name, int r.act.1, int r.act.2, cnds r.conds]) hcell ?_⟩
          refine stp ?_
          exact ret_tells_all rfl ⟨rfl, trivial⟩ (AVle.of_eq (by rw [hd]; rfl))
end Go.Proofs.W

namespace Go.Proofs.W
open Go.Vl
set_option maxRecDepth 100000

theorem rcode_of (a : A2) (h : right9 a.1 a.2 = true) : Tells Tryz.prog 55 [actP a] (int (codeA a : Nat)) := by
  obtain ⟨k, n⟩ := a
  obtain ⟨k', n', rfl, rfl, h1, h2⟩ := right_parts h
  have := rcode_spec k' n' h1 h2
  unfold codeA
  dsimp only
  rw [show ((k' + 1 : Nat) : Int).toNat - 1 = k' by omega, show ((n' : Nat) : Int).toNat = n' by omega]
  exact this
theorem decR_right {p : Pol} (h : rightP p = true) (nm : ByteArray) (a : Int) (x : Nat → Nat) : right9 (decR p nm a x).1 (decR p nm a x).2 = true := by
  obtain ⟨h1, h2⟩ := rights h
  unfold decR
  cases hf : p.rules.find? (fun r => kS r.name nm && r.conds.all (hR a x)) with
  | none => exact h1
  | some r => exact rule_right (h2 r (List.mem_of_find?_eq_some hf))
theorem conds_right {p : Pol} (h : rightP p = true) : ∀ r ∈ p.rules, ∀ c ∈ r.conds, rightC c = true := fun r hr c hc => by
  have := (rights h).2 r hr
  unfold rightR at this
  simp only [Bool.and_eq_true, Bool.not_eq_true', List.any_eq_false] at this
  have := this.2.2.2 c hc
  simpa using this
def actQ (p : Pol) (l : List TRow) (s : Int) (x : Nat → Nat) (mx : Bool) : Option Nat → A2
  | none => p.dflt
  | some i => if mx = true then blindP p (l.getD i trow0).name else decR p (l.getD i trow0).name s x
def actionR (p : Pol) (l : List TRow) (r : Rec) : A2 := actQ p l (selI r.arch r.num) r.arg (muxB r) (atO l r)
def judgeQ (p : Pol) (l : List TRow) (r : Rec) : Nat := if (decide (selI r.arch r.num < 0) || (decide (selI r.arch r.num = 1) && !p.x32)) = true then 2147483648 else codeA (actionR p l r)
set_option maxHeartbeats 8000000 in
theorem refjudge_spec (p : Pol) (l : List TRow) (r : Rec) (hp : polOk p) (hR : rightP p = true) (hl : l.length ≤ 1000000) (hr : r.ok) : Tells Tryz.prog 22 [polA p, trows l, recA r] (int (judgeQ p l r : Nat)) := by
  have hof := of12_spec l r hr hl
  unfold of12A at hof
  have hlt : ∀ i, atO l r = some i → i < l.length := fun i h => atO_lt h
  have hbl : ∀ nm, _ := fun nm => refblind_spec p nm hp.1
  have hdc : ∀ nm, _ := fun nm => refdecide_spec p nm (selI r.arch r.num) r.arg (arg_lt hr) hp (conds_right hR)
  have hblr : ∀ nm, _ := fun nm => rcode_of (blindP p nm) (blind_right hR nm)
  have hdcr : ∀ nm, _ := fun nm => rcode_of (decR p nm (selI r.arch r.num) r.arg) (decR_right hR nm _ _)
  have hdf := rcode_of p.dflt (rights hR).1
  unfold judgeQ actionR
  generalize selI r.arch r.num = s at hof hdc hdcr
  generalize muxB r = mx at hof
  generalize atO l r = at' at hof hlt
  obtain ⟨⟨k, n⟩, x32, rs⟩ := p
  dsimp only at hdf ⊢
  generalize hA : (if (decide (s < 0) || (decide (s = 1) && !x32)) = true then 2147483648 else codeA (actQ ⟨(k, n), x32, rs⟩ l s r.arg mx at')) = A
  refine tells_of_aw Tryz.func22 rfl rfl fun nx => ?_
  refine stp ?_
  refine splitO_eq (b := recA r) rfl ?_
  refine stp ?_
  refine aop_tells rfl rfl hof ⟨AVle.refl _, AVle.refl _, trivial⟩ fun nx2 => ?_
  refine stpR ?_
  refine aw_mid (fun y : Nat => mk 54 [(1, trows l), (3, .bp (0, nx) 0), (5, .bp (1, nx + 1) 0), (7, .bp (2, nx2) 0), (23, boolA (decide (s < 0) || (decide (s = 1) && !x32)))] ⟨[((2, nx2), .c [int s, int (optI at'), boolA mx]), ((1, nx + 1), .c (recC r)), ((0, nx), .c (polR k n x32 rs))], [], y, 3⟩) (fun _ => True) ?_ ?_
  · refine aw_region ?_
    refine stp ?_
    intro c hc
    have hc2 : c = decide (s < 0) := hc
    clear hc
    cases c
    · refine stp ?_
      intro c hc
      have hc3 : c = decide (s = 1) := hc.trans (by rw [Bool.eq_iff_iff]; simp)
      clear hc
      cases c
      · refine stp ?_
        exact ⟨nx2 + 1, trivial, ele_tell (pm := []) (bx := [((2, nx2), .c [int s, int (optI at'), boolA mx]), ((1, nx + 1), .c (recC r)), ((0, nx), .c (polR k n x32 rs))]) _ _ rfl rfl (List.Sublist.refl _) (List.Sublist.refl _) (BxLe.refl _) trivial ⟨AVle.refl _, AVle.refl _, AVle.refl _, AVle.refl _, AVle.of_eq (by rw [← hc2, ← hc3]; rfl), trivial⟩⟩
      · cases x32
        · refine stp ?_
          exact ⟨nx2 + 1, trivial, ele_tell (pm := []) (bx := [((2, nx2), .c [int s, int (optI at'), boolA mx]), ((1, nx + 1), .c (recC r)), ((0, nx), .c (polR k n false rs))]) _ _ rfl rfl (List.Sublist.refl _) (List.Sublist.refl _) (BxLe.refl _) trivial ⟨AVle.refl _, AVle.refl _, AVle.refl _, AVle.refl _, AVle.of_eq (by rw [← hc2, ← hc3]; rfl), trivial⟩⟩
        · refine stp ?_
          exact ⟨nx2 + 1, trivial, ele_tell (pm := []) (bx := [((2, nx2), .c [int s, int (optI at'), boolA mx]), ((1, nx + 1), .c (recC r)), ((0, nx), .c (polR k n true rs))]) _ _ rfl rfl (List.Sublist.refl _) (List.Sublist.refl _) (BxLe.refl _) trivial ⟨AVle.refl _, AVle.refl _, AVle.refl _, AVle.refl _, AVle.of_eq (by rw [← hc2, ← hc3]; rfl), trivial⟩⟩
    · refine stp ?_
      exact ⟨nx2 + 1, trivial, ele_tell (pm := []) (bx := [((2, nx2), .c [int s, int (optI at'), boolA mx]), ((1, nx + 1), .c (recC r)), ((0, nx), .c (polR k n x32 rs))]) _ _ rfl rfl (List.Sublist.refl _) (List.Sublist.refl _) (BxLe.refl _) trivial ⟨AVle.refl _, AVle.refl _, AVle.refl _, AVle.refl _, AVle.of_eq (by rw [← hc2]; rfl), trivial⟩⟩
  · rintro nx3 -
    generalize hb : (decide (s < 0) || (decide (s = 1) && !x32)) = bb at hA
    cases bb with
    | true =>
      rw [if_pos rfl] at hA
      refine stp ?_
      exact ret_tells rfl (AVle.of_eq (by rw [← hA]; rfl))
    | false =>
      rw [if_neg (by decide)] at hA
      cases at' with
      | none =>
        have hA : codeA (k, n) = A := hA
        refine stp ?_
        refine aop_tells rfl rfl hdf ⟨AVle.refl _, trivial⟩ fun nx4 => ?_
        refine stp ?_
        exact ret_tells rfl (AVle.of_eq (by rw [← hA]; rfl))
      | some i =>
        have hi := hlt i rfl
        have hA : codeA (if mx = true then blindP ⟨(k, n), x32, rs⟩ (l.getD i trow0).name else decR ⟨(k, n), x32, rs⟩ (l.getD i trow0).name s r.arg) = A := hA
        have hbl := hbl (l.getD i trow0).name
        have hdc := hdc (l.getD i trow0).name
        have hblr := hblr (l.getD i trow0).name
        have hdcr := hdcr (l.getD i trow0).name
        cases mx with
        | true =>
          rw [if_pos rfl] at hA
          refine stp ?_
          refine aw_mixN 9 _ (fun _ => false) (fun i => match i with | 7 => true | 8 => true | _ => false) [0, 1, 2, 3, 4, 5, 6, 7, 8] (by kernel_rfl) (by kernel_rfl) (HB.refl _) ?_
          refine stp ?_
          refine ⟨⟨Int.natCast_nonneg i, (show (i : Int) < (l.length : Int) by omega)⟩, splitV_to (b := .rp (trowC (l.getD i trow0))) rfl ?_⟩
          refine stp ?_
          refine ⟨_, pure_tells rfl rfl rfl hbl ⟨AVle.refl _, AVle.refl _, trivial⟩ (NoId.ag (by intro y hy; simp at hy; rcases hy with rfl | rfl <;> exact NoId.v _)), ?_⟩
          refine stp ?_
          refine ⟨_, pure_tells rfl rfl rfl hblr ⟨AVle.refl _, trivial⟩ (NoId.v _), ?_⟩
          refine stp ?_
          exact ret_tells rfl (AVle.of_eq (by rw [← hA]; rfl))
        | false =>
          rw [if_neg (by decide)] at hA
          refine stp ?_
          refine aw_mixN 13 _ (fun _ => false) (fun i => match i with | 11 => true | 12 => true | _ => false) [0, 1, 2, 3, 4, 5, 6, 7, 8, 9, 10, 11, 12] (by kernel_rfl) (by kernel_rfl) (HB.refl _) ?_
          refine stp ?_
          refine ⟨⟨Int.natCast_nonneg i, (show (i : Int) < (l.length : Int) by omega)⟩, splitV_to (b := .rp (trowC (l.getD i trow0))) rfl ?_⟩
          refine stp ?_
          refine ⟨_, pure_tells rfl rfl rfl hdc ⟨AVle.refl _, AVle.refl _, AVle.refl _, AVle.refl _, trivial⟩ (NoId.ag (by intro y hy; simp at hy; rcases hy with rfl | rfl <;> exact NoId.v _)), ?_⟩
          refine stp ?_
          refine ⟨_, pure_tells rfl rfl rfl hdcr ⟨AVle.refl _, trivial⟩ (NoId.v _), ?_⟩
          refine stp ?_
          exact ret_tells rfl (AVle.of_eq (by rw [← hA]; rfl))
end Go.Proofs.W

namespace Go.Proofs.W
open Go.Vl
set_option maxRecDepth 100000

def qR (mx : Bool) (nm : ByteArray) (a : Int) (x : Nat → Nat) (r : Rul) : Bool := kS r.name nm && (mx || r.conds.all (hR a x))
def ruleQ (p : Pol) (l : List TRow) (r : Rec) : Int := if (decide (selI r.arch r.num < 0) || (decide (selI r.arch r.num = 1) && !p.x32)) = true then -1 else match atO l r with
  | none => -1
  | some a => ruleW (muxB r) p.rules (p.rules.findIdx? (qR (muxB r) (l.getD a trow0).name (selI r.arch r.num) r.arg))
theorem rule_end {mx : Bool} {nm : ByteArray} {a : Int} {x : Nat → Nat} {rs : List Rul} (h : ∀ j, j < rs.length → qR mx nm a x (rs.getD j rul0) = false) : ruleW mx rs (rs.findIdx? (qR mx nm a x)) = -1 := by
  rw [idx_none rul0 h]
  cases mx <;> rfl
theorem rule_at {mx : Bool} {nm : ByteArray} {a : Int} {x : Nat → Nat} {rs : List Rul} {i : Nat} (hi : i < rs.length) (h : ∀ j, j < i → qR mx nm a x (rs.getD j rul0) = false) {v : Int} (hq : qR mx nm a x (rs.getD i rul0) = true) (hv : ruleW mx rs (some i) = v) : ruleW mx rs (rs.findIdx? (qR mx nm a x)) = v := by
  rw [idx_at rul0 hi h hq]
  exact hv
theorem rule_next {mx : Bool} {nm : ByteArray} {a : Int} {x : Nat → Nat} {rs : List Rul} {i : Nat} (h : ∀ j, j < i → qR mx nm a x (rs.getD j rul0) = false) (hq : qR mx nm a x (rs.getD i rul0) = false) : ∀ j, j < i + 1 → qR mx nm a x (rs.getD j rul0) = false := fun j hj => by
  rcases Nat.lt_or_ge j i with h' | h'
  · exact h j h'
  · rw [show j = i by omega]; exact hq
theorem q_name {mx : Bool} {nm : ByteArray} {a : Int} {x : Nat → Nat} {q : Rul} (h : true = !kS q.name nm) : qR mx nm a x q = false := by
  have : kS q.name nm = false := by simpa using h.symm
  unfold qR
  rw [this]; rfl
theorem q_mux {nm : ByteArray} {a : Int} {x : Nat → Nat} {q : Rul} (h : false = !kS q.name nm) : qR true nm a x q = true := by
  have : kS q.name nm = true := by simpa using h.symm
  unfold qR
  rw [this]; rfl
theorem q_all {nm : ByteArray} {a : Int} {x : Nat → Nat} {q : Rul} (h : q.conds.all (hR a x) = false) : qR false nm a x q = false := by
  unfold qR
  rw [h]
  simp
theorem q_yes {mx : Bool} {nm : ByteArray} {a : Int} {x : Nat → Nat} {q : Rul} (h : false = !kS q.name nm) (hc : q.conds.all (hR a x) = true) : qR mx nm a x q = true := by
  have : kS q.name nm = true := by simpa using h.symm
  unfold qR
  rw [this, hc]
  simp
theorem rule_no' {rs : List Rul} {j : Nat} (h : ¬ (((rs.getD j rul0).conds.length : Nat) : Int) > 0) : ruleW true rs (some j) = (j : Int) := rule_no h
theorem rule_id {rs : List Rul} {j : Nat} : ruleW false rs (some j) = (j : Int) := rfl
set_option maxHeartbeats 8000000 in
theorem rule_ff (k n : Int) (rs : List Rul) (l : List TRow) (r : Rec) (s : Int) (a : Nat) (hl : rs.length ≤ 1000000) (hc : ∀ q ∈ rs, q.conds.length ≤ 1000000 ∧ ∀ c ∈ q.conds, c.ok) (hrt : ∀ q ∈ rs, ∀ c ∈ q.conds, rightC c = true) (hr : r.ok) (ha : a < l.length) (hs : ¬ s < 0) (h1 : ¬ s = 1) (hof : Tells Tryz.prog 33 [trows l, recA r] (.ag [int s, int (a : Nat), boolA false])) :
    Tells Tryz.prog 34 [polA ⟨(k, n), false, rs⟩, trows l, recA r] (int (ruleW false rs (rs.findIdx? (qR false (l.getD a trow0).name s r.arg)))) := by
  refine tells_of_aw Tryz.func34 rfl rfl fun nx => ?_
  refine stp ?_
  refine aop_tells rfl rfl hof ⟨AVle.refl _, AVle.refl _, trivial⟩ fun nx2 => ?_
  refine stp ?_
  intro c t1; cases c
  rotate_left
  · exact absurd (yes_of t1) hs
  refine stp ?_
  intro c t2; cases c
  rotate_left
  · exact absurd (of_eq1' t2) h1
  · refine stp ?_
    refine aw_loop (fun y : Nat × Nat => mk 91 [(1, trows l), (3, .bp (0, nx) 0), (5, .bp (1, nx + 1) 0), (6, int 0), (7, .bp (2, nx2) 0), (8, int y.1)] ⟨[((2, nx2), .c [int s, int (a : Nat), boolA false]), ((1, nx + 1), .c (recC r)), ((0, nx), .c (polR k n false rs))], [], y.2, 3⟩) (fun y => y.1 ≤ rs.length ∧ ∀ j, j < y.1 → qR false (l.getD a trow0).name s r.arg (rs.getD j rul0) = false) (fun y => rs.length - y.1) ?_ ?_
    · exact ⟨(0, nx2 + 1), ⟨Nat.zero_le _, fun j h => absurd h (Nat.not_lt_zero _)⟩, ele_tell (pm := []) (bx := [((2, nx2), .c [int s, int (a : Nat), boolA false]), ((1, nx + 1), .c (recC r)), ((0, nx), .c (polR k n false rs))]) _ _ rfl rfl (List.Sublist.refl _) (List.Sublist.refl _) (BxLe.refl _) trivial ⟨AVle.refl _, AVle.refl _, AVle.refl _, AVle.refl _, AVle.refl _, AVle.refl _, trivial⟩⟩
    · rintro ⟨i, nx3⟩ ⟨h1, h2⟩
      dsimp only at h1 h2
      refine stp ?_
      intro c g1; cases c
      · have g1 := not_of g1
        try dsimp only at g1
        have hi : i = rs.length := by omega
        subst hi
        refine stp ?_
        exact ret_tells rfl (le_int (rule_end h2).symm)
      · have g1 := yes_of g1
        try dsimp only at g1
        have hi : i < rs.length := by omega
        have hmem : rs.getD i rul0 ∈ rs := by simp [List.getD, hi]
        have hcr := hc _ hmem
        have hrr := hrt _ hmem
        have hat := fun v => rule_at (v := v) (mx := false) (nm := (l.getD a trow0).name) (a := s) (x := r.arg) hi h2
        generalize hr0 : rs.getD i rul0 = q at hcr hrr hat
        refine stp ?_
        refine ⟨⟨by first | omega | (dsimp only; omega), by first | omega | (dsimp only; omega)⟩, splitO_eq (b := .rp [strA q.name, int q.act.1, int q.act.2, cnds q.conds]) (by rw [← hr0]; rfl) ?_⟩
        refine stp ?_
        refine aw_mixN 9 _ (fun _ => false) (fun _ => false) [0, 1, 2, 3, 4, 5, 6, 7, 8] (by kernel_rfl) (by kernel_rfl) (HB.refl _) ?_
        refine stp ?_
        refine ⟨⟨by omega, by omega⟩, ?_⟩
        (conv => whnf)
        refine aw_cond (t := !kS q.name (l.getD a trow0).name) rfl (fun hc2 => ?_) (fun hc2 => ?_)
        · refine stp ?_
          exact back (i + 1, nx3 + 1) ⟨hi, rule_next h2 (by rw [hr0]; exact q_name hc2.symm)⟩ (by dsimp only; omega) (ele_tell (pm := []) (bx := [((2, nx2), .c [int s, int (a : Nat), boolA false]), ((1, nx + 1), .c (recC r)), ((0, nx), .c (polR k n false rs))]) _ _ rfl rfl (.cons _ (List.Sublist.refl _)) (List.Sublist.refl _) (BxLe.refl _) trivial ⟨AVle.refl _, AVle.refl _, AVle.refl _, AVle.refl _, AVle.refl _, le_int (wrap_succ (by first | omega | (dsimp only; omega))), trivial⟩)
        · refine stp ?_
          refine aw_loop (fun y : Nat × Bool × Nat => mk 91 [(1, trows l), (3, .bp (0, nx) 0), (5, .bp (1, nx + 1) 0), (6, int 0), (7, .bp (2, nx2) 0), (8, int i), (9, .bp (3, nx3) 0), (10, boolA y.2.1), (11, int y.1)] ⟨[((3, nx3), .c [strA q.name, int q.act.1, int q.act.2, cnds q.conds]), ((2, nx2), .c [int s, int (a : Nat), boolA false]), ((1, nx + 1), .c (recC r)), ((0, nx), .c (polR k n false rs))], [], y.2.2, 4⟩) (fun y => y.1 ≤ q.conds.length ∧ y.2.1 = (q.conds.take y.1).all (hR s r.arg)) (fun y => q.conds.length - y.1) ?_ ?_
          · exact ⟨(0, true, nx3 + 1), ⟨Nat.zero_le _, by simp⟩, ele_tell (pm := []) (bx := [((3, nx3), .c [strA q.name, int q.act.1, int q.act.2, cnds q.conds]), ((2, nx2), .c [int s, int (a : Nat), boolA false]), ((1, nx + 1), .c (recC r)), ((0, nx), .c (polR k n false rs))]) _ _ rfl rfl (List.Sublist.refl _) (List.Sublist.refl _) (BxLe.refl _) trivial ⟨AVle.refl _, AVle.refl _, AVle.refl _, AVle.refl _, AVle.refl _, AVle.refl _, AVle.refl _, AVle.refl _, AVle.refl _, trivial⟩⟩
          · rintro ⟨j, v, nx4⟩ ⟨k1, k2⟩
            dsimp only at k1 k2
            cases v with
            | false =>
              have hno := q_all (nm := (l.getD a trow0).name) (all_false k2.symm)
              refine stp ?_
              intro c g2; cases c
              all_goals
                refine stp ?_
                exact back (i + 1, nx4) ⟨hi, rule_next h2 (by rw [hr0]; exact hno)⟩ (by dsimp only; omega) (ele_tell (pm := []) (bx := [((2, nx2), .c [int s, int (a : Nat), boolA false]), ((1, nx + 1), .c (recC r)), ((0, nx), .c (polR k n false rs))]) _ _ rfl rfl (.cons _ (List.Sublist.refl _)) (List.Sublist.refl _) (BxLe.refl _) trivial ⟨AVle.refl _, AVle.refl _, AVle.refl _, AVle.refl _, AVle.refl _, le_int (wrap_succ (by first | omega | (dsimp only; omega))), trivial⟩)
            | true =>
              refine stp ?_
              intro c g2; cases c
              · have g2 := not_of g2
                try dsimp only at g2
                have hj : j = q.conds.length := by omega
                have hyes := q_yes (nm := (l.getD a trow0).name) (mx := false) hc2.symm (by rw [hj, List.take_length] at k2; exact k2.symm)
                refine stp ?_
                exact ret_tells rfl (le_int (hat _ hyes rule_id).symm)
              · have g2 := yes_of g2
                try dsimp only at g2
                have hj : j < q.conds.length := by omega
                have hmc : q.conds.getD j cnd0 ∈ q.conds := by simp [List.getD, hj]
                have hok := hcr.2 _ hmc
                have hri := hrr _ hmc
                have hnext := all_takeC (p := hR s r.arg) hj
                generalize hcd : q.conds.getD j cnd0 = cd at hok hri hnext
                obtain ⟨q1, q2, _⟩ := rightC_iff.1 hri
                have hh := refholds_spec cd (seenA s (r.arg cd.arg.toNat)) hri hok (seen_lt (arg_lt hr _))
                have ha8 := ref08arg_spec s (r.arg cd.arg.toNat) (arg_lt hr _)
                have hvn : (q.conds.take (j + 1)).all (hR s r.arg) = hR s r.arg cd := by rw [hnext, ← k2]; rfl
                unfold hR at hvn
                generalize holdsC cd (seenA s (r.arg cd.arg.toNat)) = hv at hh hvn
                obtain ⟨arg, op, mask, value⟩ := cd
                dsimp only at q1 q2 hh ha8
                refine stp ?_
                obtain rfl | rfl | rfl | rfl | rfl | rfl : arg = 0 ∨ arg = 1 ∨ arg = 2 ∨ arg = 3 ∨ arg = 4 ∨ arg = 5 := by omega
                · refine aw_mixN 18 _ (fun _ => false) (fun i => match i with | 16 => true | 17 => true | _ => false) [0, 1, 2, 3, 4, 5, 6, 7, 8, 9, 10, 11, 12, 13, 14, 15, 16, 17] (by kernel_rfl) (by kernel_rfl) (HB.refl _) ?_
                  refine stp ?_
                  refine ⟨⟨by first | omega | (dsimp only; omega), by first | omega | (dsimp only; omega)⟩, splitV_to (b := .rp [int 0, int op, u64 (mask : Nat), u64 (value : Nat)]) (congrArg (fun c : Cnd => AV.rp (cndA c).cells) hcd) ?_⟩
                  refine stp ?_
                  refine ⟨⟨by first | omega | (dsimp only; omega), by first | omega | (dsimp only; omega)⟩, splitV_to (b := .rp [int 0, int op, u64 (mask : Nat), u64 (value : Nat)]) (congrArg (fun c : Cnd => AV.rp (cndA c).cells) hcd) ?_⟩
                  refine stp ?_
                  refine ⟨_, pure_tells rfl rfl rfl ha8 ⟨AVle.refl _, AVle.refl _, trivial⟩ (NoId.v _), ?_⟩
                  refine stp ?_
                  refine ⟨_, pure_tells rfl rfl rfl hh ⟨AVle.refl _, AVle.refl _, trivial⟩ (NoId.v _), ?_⟩
                  refine stp ?_
                  exact back (j + 1, hv, nx4) ⟨hj, hvn.symm⟩ (by dsimp only; omega) (ele_tell (pm := []) (bx := [((3, nx3), .c [strA q.name, int q.act.1, int q.act.2, cnds q.conds]), ((2, nx2), .c [int s, int (a : Nat), boolA false]), ((1, nx + 1), .c (recC r)), ((0, nx), .c (polR k n false rs))]) _ _ rfl rfl (List.Sublist.refl _) (List.Sublist.refl _) (BxLe.refl _) trivial ⟨AVle.refl _, AVle.refl _, AVle.refl _, AVle.refl _, AVle.refl _, AVle.refl _, AVle.refl _, AVle.refl _, le_int (wrap_succ (by first | omega | (dsimp only; omega))), trivial⟩)
                · refine aw_mixN 18 _ (fun _ => false) (fun i => match i with | 16 => true | 17 => true | _ => false) [0, 1, 2, 3, 4, 5, 6, 7, 8, 9, 10, 11, 12, 13, 14, 15, 16, 17] (by kernel_rfl) (by kernel_rfl) (HB.refl _) ?_
                  refine stp ?_
                  refine ⟨⟨by first | omega | (dsimp only; omega), by first | omega | (dsimp only; omega)⟩, splitV_to (b := .rp [int 1, int op, u64 (mask : Nat), u64 (value : Nat)]) (congrArg (fun c : Cnd => AV.rp (cndA c).cells) hcd) ?_⟩
                  refine stp ?_
                  refine ⟨⟨by first | omega | (dsimp only; omega), by first | omega | (dsimp only; omega)⟩, splitV_to (b := .rp [int 1, int op, u64 (mask : Nat), u64 (value : Nat)]) (congrArg (fun c : Cnd => AV.rp (cndA c).cells) hcd) ?_⟩
                  refine stp ?_
                  refine ⟨_, pure_tells rfl rfl rfl ha8 ⟨AVle.refl _, AVle.refl _, trivial⟩ (NoId.v _), ?_⟩
                  refine stp ?_
                  refine ⟨_, pure_tells rfl rfl rfl hh ⟨AVle.refl _, AVle.refl _, trivial⟩ (NoId.v _), ?_⟩
                  refine stp ?_
                  exact back (j + 1, hv, nx4) ⟨hj, hvn.symm⟩ (by dsimp only; omega) (ele_tell (pm := []) (bx := [((3, nx3), .c [strA q.name, int q.act.1, int q.act.2, cnds q.conds]), ((2, nx2), .c [int s, int (a : Nat), boolA false]), ((1, nx + 1), .c (recC r)), ((0, nx), .c (polR k n false rs))]) _ _ rfl rfl (List.Sublist.refl _) (List.Sublist.refl _) (BxLe.refl _) trivial ⟨AVle.refl _, AVle.refl _, AVle.refl _, AVle.refl _, AVle.refl _, AVle.refl _, AVle.refl _, AVle.refl _, le_int (wrap_succ (by first | omega | (dsimp only; omega))), trivial⟩)
                · refine aw_mixN 18 _ (fun _ => false) (fun i => match i with | 16 => true | 17 => true | _ => false) [0, 1, 2, 3, 4, 5, 6, 7, 8, 9, 10, 11, 12, 13, 14, 15, 16, 17] (by kernel_rfl) (by kernel_rfl) (HB.refl _) ?_
                  refine stp ?_
                  refine ⟨⟨by first | omega | (dsimp only; omega), by first | omega | (dsimp only; omega)⟩, splitV_to (b := .rp [int 2, int op, u64 (mask : Nat), u64 (value : Nat)]) (congrArg (fun c : Cnd => AV.rp (cndA c).cells) hcd) ?_⟩
                  refine stp ?_
                  refine ⟨⟨by first | omega | (dsimp only; omega), by first | omega | (dsimp only; omega)⟩, splitV_to (b := .rp [int 2, int op, u64 (mask : Nat), u64 (value : Nat)]) (congrArg (fun c : Cnd => AV.rp (cndA c).cells) hcd) ?_⟩
                  refine stp ?_
                  refine ⟨_, pure_tells rfl rfl rfl ha8 ⟨AVle.refl _, AVle.refl _, trivial⟩ (NoId.v _), ?_⟩
                  refine stp ?_
                  refine ⟨_, pure_tells rfl rfl rfl hh ⟨AVle.refl _, AVle.refl _, trivial⟩ (NoId.v _), ?_⟩
                  refine stp ?_
                  exact back (j + 1, hv, nx4) ⟨hj, hvn.symm⟩ (by dsimp only; omega) (ele_tell (pm := []) (bx := [((3, nx3), .c [strA q.name, int q.act.1, int q.act.2, cnds q.conds]), ((2, nx2), .c [int s, int (a : Nat), boolA false]), ((1, nx + 1), .c (recC r)), ((0, nx), .c (polR k n false rs))]) _ _ rfl rfl (List.Sublist.refl _) (List.Sublist.refl _) (BxLe.refl _) trivial ⟨AVle.refl _, AVle.refl _, AVle.refl _, AVle.refl _, AVle.refl _, AVle.refl _, AVle.refl _, AVle.refl _, le_int (wrap_succ (by first | omega | (dsimp only; omega))), trivial⟩)
                · refine aw_mixN 18 _ (fun _ => false) (fun i => match i with | 16 => true | 17 => true | _ => false) [0, 1, 2, 3, 4, 5, 6, 7, 8, 9, 10, 11, 12, 13, 14, 15, 16, 17] (by kernel_rfl) (by kernel_rfl) (HB.refl _) ?_
                  refine stp ?_
                  refine ⟨⟨by first | omega | (dsimp only; omega), by first | omega | (dsimp only; omega)⟩, splitV_to (b := .rp [int 3, int op, u64 (mask : Nat), u64 (value : Nat)]) (congrArg (fun c : Cnd => AV.rp (cndA c).cells) hcd) ?_⟩
                  refine stp ?_
                  refine ⟨⟨by first | omega | (dsimp only; omega), by first | omega | (dsimp only; omega)⟩, splitV_to (b := .rp [int 3, int op, u64 (mask : Nat), u64 (value : Nat)]) (congrArg (fun c : Cnd => AV.rp (cndA c).cells) hcd) ?_⟩
                  refine stp ?_
                  refine ⟨_, pure_tells rfl rfl rfl ha8 ⟨AVle.refl _, AVle.refl _, trivial⟩ (NoId.v _), ?_⟩
                  refine stp ?_
                  refine ⟨_, pure_tells rfl rfl rfl hh ⟨AVle.refl _, AVle.refl _, trivial⟩ (NoId.v _), ?_⟩
                  refine stp ?_
                  exact back (j + 1, hv, nx4) ⟨hj, hvn.symm⟩ (by dsimp only; omega) (ele_tell (pm := []) (bx := [((3, nx3), .c [strA q.name, int q.act.1, int q.act.2, cnds q.conds]), ((2, nx2), .c [int s, int (a : Nat), boolA false]), ((1, nx + 1), .c (recC r)), ((0, nx), .c (polR k n false rs))]) _ _ rfl rfl (List.Sublist.refl _) (List.Sublist.refl _) (BxLe.refl _) trivial ⟨AVle.refl _, AVle.refl _, AVle.refl _, AVle.refl _, AVle.refl _, AVle.refl _, AVle.refl _, AVle.refl _, le_int (wrap_succ (by first | omega | (dsimp only; omega))), trivial⟩)
                · refine aw_mixN 18 _ (fun _ => false) (fun i => match i with | 16 => true | 17 => true | _ => false) [0, 1, 2, 3, 4, 5, 6, 7, 8, 9, 10, 11, 12, 13, 14, 15, 16, 17] (by kernel_rfl) (by kernel_rfl) (HB.refl _) ?_
                  refine stp ?_
                  refine ⟨⟨by first | omega | (dsimp only; omega), by first | omega | (dsimp only; omega)⟩, splitV_to (b := .rp [int 4, int op, u64 (mask : Nat), u64 (value : Nat)]) (congrArg (fun c : Cnd => AV.rp (cndA c).cells) hcd) ?_⟩
                  refine stp ?_
                  refine ⟨⟨by first | omega | (dsimp only; omega), by first | omega | (dsimp only; omega)⟩, splitV_to (b := .rp [int 4, int op, u64 (mask : Nat), u64 (value : Nat)]) (congrArg (fun c : Cnd => AV.rp (cndA c).cells) hcd) ?_⟩
                  refine stp ?_
                  refine ⟨_, pure_tells rfl rfl rfl ha8 ⟨AVle.refl _, AVle.refl _, trivial⟩ (NoId.v _), ?_⟩
                  refine stp ?_
                  refine ⟨_, pure_tells rfl rfl rfl hh ⟨AVle.refl _, AVle.refl _, trivial⟩ (NoId.v _), ?_⟩
                  refine stp ?_
                  exact back (j + 1, hv, nx4) ⟨hj, hvn.symm⟩ (by dsimp only; omega) (ele_tell (pm := []) (bx := [((3, nx3), .c [strA q.name, int q.act.1, int q.act.2, cnds q.conds]), ((2, nx2), .c [int s, int (a : Nat), boolA false]), ((1, nx + 1), .c (recC r)), ((0, nx), .c (polR k n false rs))]) _ _ rfl rfl (List.Sublist.refl _) (List.Sublist.refl _) (BxLe.refl _) trivial ⟨AVle.refl _, AVle.refl _, AVle.refl _, AVle.refl _, AVle.refl _, AVle.refl _, AVle.refl _, AVle.refl _, le_int (wrap_succ (by first | omega | (dsimp only; omega))), trivial⟩)
                · refine aw_mixN 18 _ (fun _ => false) (fun i => match i with | 16 => true | 17 => true | _ => false) [0, 1, 2, 3, 4, 5, 6, 7, 8, 9, 10, 11, 12, 13, 14, 15, 16, 17] (by kernel_rfl) (by kernel_rfl) (HB.refl _) ?_
                  refine stp ?_
                  refine ⟨⟨by first | omega | (dsimp only; omega), by first | omega | (dsimp only; omega)⟩, splitV_to (b := .rp [int 5, int op, u64 (mask : Nat), u64 (value : Nat)]) (congrArg (fun c : Cnd => AV.rp (cndA c).cells) hcd) ?_⟩
                  refine stp ?_
                  refine ⟨⟨by first | omega | (dsimp only; omega), by first | omega | (dsimp only; omega)⟩, splitV_to (b := .rp [int 5, int op, u64 (mask : Nat), u64 (value : Nat)]) (congrArg (fun c : Cnd => AV.rp (cndA c).cells) hcd) ?_⟩
                  refine stp ?_
                  refine ⟨_, pure_tells rfl rfl rfl ha8 ⟨AVle.refl _, AVle.refl _, trivial⟩ (NoId.v _), ?_⟩
                  refine stp ?_
                  refine ⟨_, pure_tells rfl rfl rfl hh ⟨AVle.refl _, AVle.refl _, trivial⟩ (NoId.v _), ?_⟩
                  refine stp ?_
                  exact back (j + 1, hv, nx4) ⟨hj, hvn.symm⟩ (by dsimp only; omega) (ele_tell (pm := []) (bx := [((3, nx3), .c [strA q.name, int q.act.1, int q.act.2, cnds q.conds]), ((2, nx2), .c [int s, int (a : Nat), boolA false]), ((1, nx + 1), .c (recC r)), ((0, nx), .c (polR k n false rs))]) _ _ rfl rfl (List.Sublist.refl _) (List.Sublist.refl _) (BxLe.refl _) trivial ⟨AVle.refl _, AVle.refl _, AVle.refl _, AVle.refl _, AVle.refl _, AVle.refl _, AVle.refl _, AVle.refl _, le_int (wrap_succ (by first | omega | (dsimp only; omega))), trivial⟩)
set_option maxHeartbeats 8000000 in
theorem rule_ft (k n : Int) (rs : List Rul) (l : List TRow) (r : Rec) (s : Int) (a : Nat) (hl : rs.length ≤ 1000000) (hc : ∀ q ∈ rs, q.conds.length ≤ 1000000 ∧ ∀ c ∈ q.conds, c.ok) (hrt : ∀ q ∈ rs, ∀ c ∈ q.conds, rightC c = true) (hr : r.ok) (ha : a < l.length) (hs : ¬ s < 0)  (hof : Tells Tryz.prog 33 [trows l, recA r] (.ag [int s, int (a : Nat), boolA false])) :
    Tells Tryz.prog 34 [polA ⟨(k, n), true, rs⟩, trows l, recA r] (int (ruleW false rs (rs.findIdx? (qR false (l.getD a trow0).name s r.arg)))) := by
  refine tells_of_aw Tryz.func34 rfl rfl fun nx => ?_
  refine stp ?_
  refine aop_tells rfl rfl hof ⟨AVle.refl _, AVle.refl _, trivial⟩ fun nx2 => ?_
  refine stp ?_
  intro c t1; cases c
  rotate_left
  · exact absurd (yes_of t1) hs
  refine stp ?_
  intro c t2; cases c
  all_goals
    refine stp ?_
    refine aw_loop (fun y : Nat × Nat => mk 91 [(1, trows l), (3, .bp (0, nx) 0), (5, .bp (1, nx + 1) 0), (6, int 0), (7, .bp (2, nx2) 0), (8, int y.1)] ⟨[((2, nx2), .c [int s, int (a : Nat), boolA false]), ((1, nx + 1), .c (recC r)), ((0, nx), .c (polR k n true rs))], [], y.2, 3⟩) (fun y => y.1 ≤ rs.length ∧ ∀ j, j < y.1 → qR false (l.getD a trow0).name s r.arg (rs.getD j rul0) = false) (fun y => rs.length - y.1) ?_ ?_
    · exact ⟨(0, nx2 + 1), ⟨Nat.zero_le _, fun j h => absurd h (Nat.not_lt_zero _)⟩, ele_tell (pm := []) (bx := [((2, nx2), .c [int s, int (a : Nat), boolA false]), ((1, nx + 1), .c (recC r)), ((0, nx), .c (polR k n true rs))]) _ _ rfl rfl (List.Sublist.refl _) (List.Sublist.refl _) (BxLe.refl _) trivial ⟨AVle.refl _, AVle.refl _, AVle.refl _, AVle.refl _, AVle.refl _, AVle.refl _, trivial⟩⟩
    · rintro ⟨i, nx3⟩ ⟨h1, h2⟩
      dsimp only at h1 h2
      refine stp ?_
      intro c g1; cases c
      · have g1 := not_of g1
        try dsimp only at g1
        have hi : i = rs.length := by omega
        subst hi
        refine stp ?_
        exact ret_tells rfl (le_int (rule_end h2).symm)
      · have g1 := yes_of g1
        try dsimp only at g1
        have hi : i < rs.length := by omega
        have hmem : rs.getD i rul0 ∈ rs := by simp [List.getD, hi]
        have hcr := hc _ hmem
        have hrr := hrt _ hmem
        have hat := fun v => rule_at (v := v) (mx := false) (nm := (l.getD a trow0).name) (a := s) (x := r.arg) hi h2
        generalize hr0 : rs.getD i rul0 = q at hcr hrr hat
        refine stp ?_
        refine ⟨⟨by first | omega | (dsimp only; omega), by first | omega | (dsimp only; omega)⟩, splitO_eq (b := .rp [strA q.name, int q.act.1, int q.act.2, cnds q.conds]) (by rw [← hr0]; rfl) ?_⟩
        refine stp ?_
        refine aw_mixN 9 _ (fun _ => false) (fun _ => false) [0, 1, 2, 3, 4, 5, 6, 7, 8] (by kernel_rfl) (by kernel_rfl) (HB.refl _) ?_
        refine stp ?_
        refine ⟨⟨by omega, by omega⟩, ?_⟩
        (conv => whnf)
        refine aw_cond (t := !kS q.name (l.getD a trow0).name) rfl (fun hc2 => ?_) (fun hc2 => ?_)
        · refine stp ?_
          exact back (i + 1, nx3 + 1) ⟨hi, rule_next h2 (by rw [hr0]; exact q_name hc2.symm)⟩ (by dsimp only; omega) (ele_tell (pm := []) (bx := [((2, nx2), .c [int s, int (a : Nat), boolA false]), ((1, nx + 1), .c (recC r)), ((0, nx), .c (polR k n true rs))]) _ _ rfl rfl (.cons _ (List.Sublist.refl _)) (List.Sublist.refl _) (BxLe.refl _) trivial ⟨AVle.refl _, AVle.refl _, AVle.refl _, AVle.refl _, AVle.refl _, le_int (wrap_succ (by first | omega | (dsimp only; omega))), trivial⟩)
        · refine stp ?_
          refine aw_loop (fun y : Nat × Bool × Nat => mk 91 [(1, trows l), (3, .bp (0, nx) 0), (5, .bp (1, nx + 1) 0), (6, int 0), (7, .bp (2, nx2) 0), (8, int i), (9, .bp (3, nx3) 0), (10, boolA y.2.1), (11, int y.1)] ⟨[((3, nx3), .c [strA q.name, int q.act.1, int q.act.2, cnds q.conds]), ((2, nx2), .c [int s, int (a : Nat), boolA false]), ((1, nx + 1), .c (recC r)), ((0, nx), .c (polR k n true rs))], [], y.2.2, 4⟩) (fun y => y.1 ≤ q.conds.length ∧ y.2.1 = (q.conds.take y.1).all (hR s r.arg)) (fun y => q.conds.length - y.1) ?_ ?_
          · exact ⟨(0, true, nx3 + 1), ⟨Nat.zero_le _, by simp⟩, ele_tell (pm := []) (bx := [((3, nx3), .c [strA q.name, int q.act.1, int q.act.2, cnds q.conds]), ((2, nx2), .c [int s, int (a : Nat), boolA false]), ((1, nx + 1), .c (recC r)), ((0, nx), .c (polR k n true rs))]) _ _ rfl rfl (List.Sublist.refl _) (List.Sublist.refl _) (BxLe.refl _) trivial ⟨AVle.refl _, AVle.refl _, AVle.refl _, AVle.refl _, AVle.refl _, AVle.refl _, AVle.refl _, AVle.refl _, AVle.refl _, trivial⟩⟩
          · rintro ⟨j, v, nx4⟩ ⟨k1, k2⟩
            dsimp only at k1 k2
            cases v with
            | false =>
              have hno := q_all (nm := (l.getD a trow0).name) (all_false k2.symm)
              refine stp ?_
              intro c g2; cases c
              all_goals
                refine stp ?_
                exact back (i + 1, nx4) ⟨hi, rule_next h2 (by rw [hr0]; exact hno)⟩ (by dsimp only; omega) (ele_tell (pm := []) (bx := [((2, nx2), .c [int s, int (a : Nat), boolA false]), ((1, nx + 1), .c (recC r)), ((0, nx), .c (polR k n true rs))]) _ _ rfl rfl (.cons _ (List.Sublist.refl _)) (List.Sublist.refl _) (BxLe.refl _) trivial ⟨AVle.refl _, AVle.refl _, AVle.refl _, AVle.refl _, AVle.refl _, le_int (wrap_succ (by first | omega | (dsimp only; omega))), trivial⟩)
            | true =>
              refine stp ?_
              intro c g2; cases c
              · have g2 := not_of g2
                try dsimp only at g2
                have hj : j = q.conds.length := by omega
                have hyes := q_yes (nm := (l.getD a trow0).name) (mx := false) hc2.symm (by rw [hj, List.take_length] at k2; exact k2.symm)
                refine stp ?_
                exact ret_tells rfl (le_int (hat _ hyes rule_id).symm)
              · have g2 := yes_of g2
                try dsimp only at g2
                have hj : j < q.conds.length := by omega
                have hmc : q.conds.getD j cnd0 ∈ q.conds := by simp [List.getD, hj]
                have hok := hcr.2 _ hmc
                have hri := hrr _ hmc
                have hnext := all_takeC (p := hR s r.arg) hj
                generalize hcd : q.conds.getD j cnd0 = cd at hok hri hnext
                obtain ⟨q1, q2, _⟩ := rightC_iff.1 hri
                have hh := refholds_spec cd (seenA s (r.arg cd.arg.toNat)) hri hok (seen_lt (arg_lt hr _))
                have ha8 := ref08arg_spec s (r.arg cd.arg.toNat) (arg_lt hr _)
                have hvn : (q.conds.take (j + 1)).all (hR s r.arg) = hR s r.arg cd := by rw [hnext, ← k2]; rfl
                unfold hR at hvn
                generalize holdsC cd (seenA s (r.arg cd.arg.toNat)) = hv at hh hvn
                obtain ⟨arg, op, mask, value⟩ := cd
                dsimp only at q1 q2 hh ha8
                refine stp ?_
                obtain rfl | rfl | rfl | rfl | rfl | rfl : arg = 0 ∨ arg = 1 ∨ arg = 2 ∨ arg = 3 ∨ arg = 4 ∨ arg = 5 := by omega
                · refine aw_mixN 18 _ (fun _ => false) (fun i => match i with | 16 => true | 17 => true | _ => false) [0, 1, 2, 3, 4, 5, 6, 7, 8, 9, 10, 11, 12, 13, 14, 15, 16, 17] (by kernel_rfl) (by kernel_rfl) (HB.refl _) ?_
                  refine stp ?_
                  refine ⟨⟨by first | omega | (dsimp only; omega), by first | omega | (dsimp only; omega)⟩, splitV_to (b := .rp [int 0, int op, u64 (mask : Nat), u64 (value : Nat)]) (congrArg (fun c : Cnd => AV.rp (cndA c).cells) hcd) ?_⟩
                  refine stp ?_
                  refine ⟨⟨by first | omega | (dsimp only; omega), by first | omega | (dsimp only; omega)⟩, splitV_to (b := .rp [int 0, int op, u64 (mask : Nat), u64 (value : Nat)]) (congrArg (fun c : Cnd => AV.rp (cndA c).cells) hcd) ?_⟩
                  refine stp ?_
                  refine ⟨_, pure_tells rfl rfl rfl ha8 ⟨AVle.refl _, AVle.refl _, trivial⟩ (NoId.v _), ?_⟩
                  refine stp ?_
                  refine ⟨_, pure_tells rfl rfl rfl hh ⟨AVle.refl _, AVle.refl _, trivial⟩ (NoId.v _), ?_⟩
                  refine stp ?_
                  exact back (j + 1, hv, nx4) ⟨hj, hvn.symm⟩ (by dsimp only; omega) (ele_tell (pm := []) (bx := [((3, nx3), .c [strA q.name, int q.act.1, int q.act.2, cnds q.conds]), ((2, nx2), .c [int s, int (a : Nat), boolA false]), ((1, nx + 1), .c (recC r)), ((0, nx), .c (polR k n true rs))]) _ _ rfl rfl (List.Sublist.refl _) (List.Sublist.refl _) (BxLe.refl _) trivial ⟨AVle.refl _, AVle.refl _, AVle.refl _, AVle.refl _, AVle.refl _, AVle.refl _, AVle.refl _, AVle.refl _, le_int (wrap_succ (by first | omega | (dsimp only; omega))), trivial⟩)
                · refine aw_mixN 18 _ (fun _ => false) (fun i => match i with | 16 => true | 17 => true | _ => false) [0, 1, 2, 3, 4, 5, 6, 7, 8, 9, 10, 11, 12, 13, 14, 15, 16, 17] (by kernel_rfl) (by kernel_rfl) (HB.refl _) ?_
                  refine stp ?_
                  refine ⟨⟨by first | omega | (dsimp only; omega), by first | omega | (dsimp only; omega)⟩, splitV_to (b := .rp [int 1, int op, u64 (mask : Nat), u64 (value : Nat)]) (congrArg (fun c : Cnd => AV.rp (cndA c).cells) hcd) ?_⟩
                  refine stp ?_
                  refine ⟨⟨by first | omega | (dsimp only; omega), by first | omega | (dsimp only; omega)⟩, splitV_to (b := .rp [int 1, int op, u64 (mask : Nat), u64 (value : Nat)]) (congrArg (fun c : Cnd => AV.rp (cndA c).cells) hcd) ?_⟩
                  refine stp ?_
                  refine ⟨_, pure_tells rfl rfl rfl ha8 ⟨AVle.refl _, AVle.refl _, trivial⟩ (NoId.v _), ?_⟩
                  refine stp ?_
                  refine ⟨_, pure_tells rfl rfl rfl hh ⟨AVle.refl _, AVle.refl _, trivial⟩ (NoId.v _), ?_⟩
                  refine stp ?_
                  exact back (j + 1, hv, nx4) ⟨hj, hvn.symm⟩ (by dsimp only; omega) (ele_tell (pm := []) (bx := [((3, nx3), .c [strA q.name, int q.act.1, int q.act.2, cnds q.conds]), ((2, nx2), .c [int s, int (a : Nat), boolA false]), ((1, nx + 1), .c (recC r)), ((0, nx), .c (polR k n true rs))]) _ _ rfl rfl (List.Sublist.refl _) (List.Sublist.refl _) (BxLe.refl _) trivial ⟨AVle.refl _, AVle.refl _, AVle.refl _, AVle.refl _, AVle.refl _, AVle.refl _, AVle.refl _, AVle.refl _, le_int (wrap_succ (by first | omega | (dsimp only; omega))), trivial⟩)
                · refine aw_mixN 18 _ (fun _ => false) (fun i => match i with | 16 => true | 17 => true | _ => false) [0, 1, 2, 3, 4, 5, 6, 7, 8, 9, 10, 11, 12, 13, 14, 15, 16, 17] (by kernel_rfl) (by kernel_rfl) (HB.refl _) ?_
                  refine stp ?_
                  refine ⟨⟨by first | omega | (dsimp only; omega), by first | omega | (dsimp only; omega)⟩, splitV_to (b := .rp [int 2, int op, u64 (mask : Nat), u64 (value : Nat)]) (congrArg (fun c : Cnd => AV.rp (cndA c).cells) hcd) ?_⟩
                  refine stp ?_
                  refine ⟨⟨by first | omega | (dsimp only; omega), by first | omega | (dsimp only; omega)⟩, splitV_to (b := .rp [int 2, int op, u64 (mask : Nat), u64 (value : Nat)]) (congrArg (fun c : Cnd => AV.rp (cndA c).cells) hcd) ?_⟩
                  refine stp ?_
                  refine ⟨_, pure_tells rfl rfl rfl ha8 ⟨AVle.refl _, AVle.refl _, trivial⟩ (NoId.v _), ?_⟩
                  refine stp ?_
                  refine ⟨_, pure_tells rfl rfl rfl hh ⟨AVle.refl _, AVle.refl _, trivial⟩ (NoId.v _), ?_⟩
                  refine stp ?_
                  exact back (j + 1, hv, nx4) ⟨hj, hvn.symm⟩ (by dsimp only; omega) (ele_tell (pm := []) (bx := [((3, nx3), .c [strA q.name, int q.act.1, int q.act.2, cnds q.conds]), ((2, nx2), .c [int s, int (a : Nat), boolA false]), ((1, nx + 1), .c (recC r)), ((0, nx), .c (polR k n true rs))]) _ _ rfl rfl (List.Sublist.refl _) (List.Sublist.refl _) (BxLe.refl _) trivial ⟨AVle.refl _, AVle.refl _, AVle.refl _, AVle.refl _, AVle.refl _, AVle.refl _, AVle.refl _, AVle.refl _, le_int (wrap_succ (by first | omega | (dsimp only; omega))), trivial⟩)
                · refine aw_mixN 18 _ (fun _ => false) (fun i => match i with | 16 => true | 17 => true | _ => false) [0, 1, 2, 3, 4, 5, 6, 7, 8, 9, 10, 11, 12, 13, 14, 15, 16, 17] (by kernel_rfl) (by kernel_rfl) (HB.refl _) ?_
                  refine stp ?_
                  refine ⟨⟨by first | omega | (dsimp only; omega), by first | omega | (dsimp only; omega)⟩, splitV_to (b := .rp [int 3, int op, u64 (mask : Nat), u64 (value : Nat)]) (congrArg (fun c : Cnd => AV.rp (cndA c).cells) hcd) ?_⟩
                  refine stp ?_
                  refine ⟨⟨by first | omega | (dsimp only; omega), by first | omega | (dsimp only; omega)⟩, splitV_to (b := .rp [int 3, int op, u64 (mask : Nat), u64 (value : Nat)]) (congrArg (fun c : Cnd => AV.rp (cndA c).cells) hcd) ?_⟩
                  refine stp ?_
                  refine ⟨_, pure_tells rfl rfl rfl ha8 ⟨AVle.refl _, AVle.refl _, trivial⟩ (NoId.v _), ?_⟩
                  refine stp ?_
                  refine ⟨_, pure_tells rfl rfl rfl hh ⟨AVle.refl _, AVle.refl _, trivial⟩ (NoId.v _), ?_⟩
                  refine stp ?_
                  exact back (j + 1, hv, nx4) ⟨hj, hvn.symm⟩ (by dsimp only; omega) (ele_tell (pm := []) (bx := [((3, nx3), .c [strA q.name, int q.act.1, int q.act.2, cnds q.conds]), ((2, nx2), .c [int s, int (a : Nat), boolA false]), ((1, nx + 1), .c (recC r)), ((0, nx), .c (polR k n true rs))]) _ _ rfl rfl (List.Sublist.refl _) (List.Sublist.refl _) (BxLe.refl _) trivial ⟨AVle.refl _, AVle.refl _, AVle.refl _, AVle.refl _, AVle.refl _, AVle.refl _, AVle.refl _, AVle.refl _, le_int (wrap_succ (by first | omega | (dsimp only; omega))), trivial⟩)
                · refine aw_mixN 18 _ (fun _ => false) (fun i => match i with | 16 => true | 17 => true | _ => false) [0, 1, 2, 3, 4, 5, 6, 7, 8, 9, 10, 11, 12, 13, 14, 15, 16, 17] (by kernel_rfl) (by kernel_rfl) (HB.refl _) ?_
                  refine stp ?_
                  refine ⟨⟨by first | omega | (dsimp only; omega), by first | omega | (dsimp only; omega)⟩, splitV_to (b := .rp [int 4, int op, u64 (mask : Nat), u64 (value : Nat)]) (congrArg (fun c : Cnd => AV.rp (cndA c).cells) hcd) ?_⟩
                  refine stp ?_
                  refine ⟨⟨by first | omega | (dsimp only; omega), by first | omega | (dsimp only; omega)⟩, splitV_to (b := .rp [int 4, int op, u64 (mask : Nat), u64 (value : Nat)]) (congrArg (fun c : Cnd => AV.rp (cndA c).cells) hcd) ?_⟩
                  refine stp ?_
                  refine ⟨_, pure_tells rfl rfl rfl ha8 ⟨AVle.refl _, AVle.refl _, trivial⟩ (NoId.v _), ?_⟩
                  refine stp ?_
                  refine ⟨_, pure_tells rfl rfl rfl hh ⟨AVle.refl _, AVle.refl _, trivial⟩ (NoId.v _), ?_⟩
                  refine stp ?_
                  exact back (j + 1, hv, nx4) ⟨hj, hvn.symm⟩ (by dsimp only; omega) (ele_tell (pm := []) (bx := [((3, nx3), .c [strA q.name, int q.act.1, int q.act.2, cnds q.conds]), ((2, nx2), .c [int s, int (a : Nat), boolA false]), ((1, nx + 1), .c (recC r)), ((0, nx), .c (polR k n true rs))]) _ _ rfl rfl (List.Sublist.refl _) (List.Sublist.refl _) (BxLe.refl _) trivial ⟨AVle.refl _, AVle.refl _, AVle.refl _, AVle.refl _, AVle.refl _, AVle.refl _, AVle.refl _, AVle.refl _, le_int (wrap_succ (by first | omega | (dsimp only; omega))), trivial⟩)
                · refine aw_mixN 18 _ (fun _ => false) (fun i => match i with | 16 => true | 17 => true | _ => false) [0, 1, 2, 3, 4, 5, 6, 7, 8, 9, 10, 11, 12, 13, 14, 15, 16, 17] (by kernel_rfl) (by kernel_rfl) (HB.refl _) ?_
                  refine stp ?_
                  refine ⟨⟨by first | omega | (dsimp only; omega), by first | omega | (dsimp only; omega)⟩, splitV_to (b := .rp [int 5, int op, u64 (mask : Nat), u64 (value : Nat)]) (congrArg (fun c : Cnd => AV.rp (cndA c).cells) hcd) ?_⟩
                  refine stp ?_
                  refine ⟨⟨by first | omega | (dsimp only; omega), by first | omega | (dsimp only; omega)⟩, splitV_to (b := .rp [int 5, int op, u64 (mask : Nat), u64 (value : Nat)]) (congrArg (fun c : Cnd => AV.rp (cndA c).cells) hcd) ?_⟩
                  refine stp ?_
                  refine ⟨_, pure_tells rfl rfl rfl ha8 ⟨AVle.refl _, AVle.refl _, trivial⟩ (NoId.v _), ?_⟩
                  refine stp ?_
                  refine ⟨_, pure_tells rfl rfl rfl hh ⟨AVle.refl _, AVle.refl _, trivial⟩ (NoId.v _), ?_⟩
                  refine stp ?_
                  exact back (j + 1, hv, nx4) ⟨hj, hvn.symm⟩ (by dsimp only; omega) (ele_tell (pm := []) (bx := [((3, nx3), .c [strA q.name, int q.act.1, int q.act.2, cnds q.conds]), ((2, nx2), .c [int s, int (a : Nat), boolA false]), ((1, nx + 1), .c (recC r)), ((0, nx), .c (polR k n true rs))]) _ _ rfl rfl (List.Sublist.refl _) (List.Sublist.refl _) (BxLe.refl _) trivial ⟨AVle.refl _, AVle.refl _, AVle.refl _, AVle.refl _, AVle.refl _, AVle.refl _, AVle.refl _, AVle.refl _, le_int (wrap_succ (by first | omega | (dsimp only; omega))), trivial⟩)
set_option maxHeartbeats 8000000 in
theorem rule_tf (k n : Int) (rs : List Rul) (l : List TRow) (r : Rec) (s : Int) (a : Nat) (hl : rs.length ≤ 1000000) (hc : ∀ q ∈ rs, q.conds.length ≤ 1000000 ∧ ∀ c ∈ q.conds, c.ok) (hrt : ∀ q ∈ rs, ∀ c ∈ q.conds, rightC c = true) (hr : r.ok) (ha : a < l.length) (hs : ¬ s < 0) (h1 : ¬ s = 1) (hof : Tells Tryz.prog 33 [trows l, recA r] (.ag [int s, int (a : Nat), boolA true])) :
    Tells Tryz.prog 34 [polA ⟨(k, n), false, rs⟩, trows l, recA r] (int (ruleW true rs (rs.findIdx? (qR true (l.getD a trow0).name s r.arg)))) := by
  refine tells_of_aw Tryz.func34 rfl rfl fun nx => ?_
  refine stp ?_
  refine aop_tells rfl rfl hof ⟨AVle.refl _, AVle.refl _, trivial⟩ fun nx2 => ?_
  refine stp ?_
  intro c t1; cases c
  rotate_left
  · exact absurd (yes_of t1) hs
  refine stp ?_
  intro c t2; cases c
  rotate_left
  · exact absurd (of_eq1' t2) h1
  · refine stp ?_
    refine aw_loop (fun y : Nat × Nat => mk 91 [(1, trows l), (3, .bp (0, nx) 0), (5, .bp (1, nx + 1) 0), (6, int 0), (7, .bp (2, nx2) 0), (8, int y.1)] ⟨[((2, nx2), .c [int s, int (a : Nat), boolA true]), ((1, nx + 1), .c (recC r)), ((0, nx), .c (polR k n false rs))], [], y.2, 3⟩) (fun y => y.1 ≤ rs.length ∧ ∀ j, j < y.1 → qR true (l.getD a trow0).name s r.arg (rs.getD j rul0) = false) (fun y => rs.length - y.1) ?_ ?_
    · exact ⟨(0, nx2 + 1), ⟨Nat.zero_le _, fun j h => absurd h (Nat.not_lt_zero _)⟩, ele_tell (pm := []) (bx := [((2, nx2), .c [int s, int (a : Nat), boolA true]), ((1, nx + 1), .c (recC r)), ((0, nx), .c (polR k n false rs))]) _ _ rfl rfl (List.Sublist.refl _) (List.Sublist.refl _) (BxLe.refl _) trivial ⟨AVle.refl _, AVle.refl _, AVle.refl _, AVle.refl _, AVle.refl _, AVle.refl _, trivial⟩⟩
    · rintro ⟨i, nx3⟩ ⟨h1, h2⟩
      dsimp only at h1 h2
      refine stp ?_
      intro c g1; cases c
      · have g1 := not_of g1
        try dsimp only at g1
        have hi : i = rs.length := by omega
        subst hi
        refine stp ?_
        exact ret_tells rfl (le_int (rule_end h2).symm)
      · have g1 := yes_of g1
        try dsimp only at g1
        have hi : i < rs.length := by omega
        have hmem : rs.getD i rul0 ∈ rs := by simp [List.getD, hi]
        have hcr := hc _ hmem
        have hrr := hrt _ hmem
        have hat := fun v => rule_at (v := v) (mx := true) (nm := (l.getD a trow0).name) (a := s) (x := r.arg) hi h2
        generalize hr0 : rs.getD i rul0 = q at hcr hrr hat
        refine stp ?_
        refine ⟨⟨by first | omega | (dsimp only; omega), by first | omega | (dsimp only; omega)⟩, splitO_eq (b := .rp [strA q.name, int q.act.1, int q.act.2, cnds q.conds]) (by rw [← hr0]; rfl) ?_⟩
        refine stp ?_
        refine aw_mixN 9 _ (fun _ => false) (fun _ => false) [0, 1, 2, 3, 4, 5, 6, 7, 8] (by kernel_rfl) (by kernel_rfl) (HB.refl _) ?_
        refine stp ?_
        refine ⟨⟨by omega, by omega⟩, ?_⟩
        (conv => whnf)
        refine aw_cond (t := !kS q.name (l.getD a trow0).name) rfl (fun hc2 => ?_) (fun hc2 => ?_)
        · refine stp ?_
          exact back (i + 1, nx3 + 1) ⟨hi, rule_next h2 (by rw [hr0]; exact q_name hc2.symm)⟩ (by dsimp only; omega) (ele_tell (pm := []) (bx := [((2, nx2), .c [int s, int (a : Nat), boolA true]), ((1, nx + 1), .c (recC r)), ((0, nx), .c (polR k n false rs))]) _ _ rfl rfl (.cons _ (List.Sublist.refl _)) (List.Sublist.refl _) (BxLe.refl _) trivial ⟨AVle.refl _, AVle.refl _, AVle.refl _, AVle.refl _, AVle.refl _, le_int (wrap_succ (by first | omega | (dsimp only; omega))), trivial⟩)
        · refine stp ?_
          intro c g3; cases c
          · have g3 : ¬ (((q.conds.length : Nat) : Int) > 0) := not_of g3
            refine stp ?_
            exact ret_tells rfl (le_int (hat _ (q_mux hc2.symm) (rule_no' (by rw [hr0]; exact g3))).symm)
          · have g3 : ((q.conds.length : Nat) : Int) > 0 := yes_of g3
            refine stp ?_
            exact ret_tells rfl (le_int (hat _ (q_mux hc2.symm) (rule_yes (by rw [hr0]; exact g3))).symm)
set_option maxHeartbeats 8000000 in
theorem rule_tt (k n : Int) (rs : List Rul) (l : List TRow) (r : Rec) (s : Int) (a : Nat) (hl : rs.length ≤ 1000000) (hc : ∀ q ∈ rs, q.conds.length ≤ 1000000 ∧ ∀ c ∈ q.conds, c.ok) (hrt : ∀ q ∈ rs, ∀ c ∈ q.conds, rightC c = true) (hr : r.ok) (ha : a < l.length) (hs : ¬ s < 0)  (hof : Tells Tryz.prog 33 [trows l, recA r] (.ag [int s, int (a : Nat), boolA true])) :
    Tells Tryz.prog 34 [polA ⟨(k, n), true, rs⟩, trows l, recA r] (int (ruleW true rs (rs.findIdx? (qR true (l.getD a trow0).name s r.arg)))) := by
  refine tells_of_aw Tryz.func34 rfl rfl fun nx => ?_
  refine stp ?_
  refine aop_tells rfl rfl hof ⟨AVle.refl _, AVle.refl _, trivial⟩ fun nx2 => ?_
  refine stp ?_
  intro c t1; cases c
  rotate_left
  · exact absurd (yes_of t1) hs
  refine stp ?_
  intro c t2; cases c
  all_goals
    refine stp ?_
    refine aw_loop (fun y : Nat × Nat => mk 91 [(1, trows l), (3, .bp (0, nx) 0), (5, .bp (1, nx + 1) 0), (6, int 0), (7, .bp (2, nx2) 0), (8, int y.1)] ⟨[((2, nx2), .c [int s, int (a : Nat), boolA true]), ((1, nx + 1), .c (recC r)), ((0, nx), .c (polR k n true rs))], [], y.2, 3⟩) (fun y => y.1 ≤ rs.length ∧ ∀ j, j < y.1 → qR true (l.getD a trow0).name s r.arg (rs.getD j rul0) = false) (fun y => rs.length - y.1) ?_ ?_
    · exact ⟨(0, nx2 + 1), ⟨Nat.zero_le _, fun j h => absurd h (Nat.not_lt_zero _)⟩, ele_tell (pm := []) (bx := [((2, nx2), .c [int s, int (a : Nat), boolA true]), ((1, nx + 1), .c (recC r)), ((0, nx), .c (polR k n true rs))]) _ _ rfl rfl (List.Sublist.refl _) (List.Sublist.refl _) (BxLe.refl _) trivial ⟨AVle.refl _, AVle.refl _, AVle.refl _, AVle.refl _, AVle.refl _, AVle.refl _, trivial⟩⟩
    · rintro ⟨i, nx3⟩ ⟨h1, h2⟩
      dsimp only at h1 h2
      refine stp ?_
      intro c g1; cases c
      · have g1 := not_of g1
        try dsimp only at g1
        have hi : i = rs.length := by omega
        subst hi
        refine stp ?_
        exact ret_tells rfl (le_int (rule_end h2).symm)
      · have g1 := yes_of g1
        try dsimp only at g1
        have hi : i < rs.length := by omega
        have hmem : rs.getD i rul0 ∈ rs := by simp [List.getD, hi]
        have hcr := hc _ hmem
        have hrr := hrt _ hmem
        have hat := fun v => rule_at (v := v) (mx := true) (nm := (l.getD a trow0).name) (a := s) (x := r.arg) hi h2
        generalize hr0 : rs.getD i rul0 = q at hcr hrr hat
        refine stp ?_
        refine ⟨⟨by first | omega | (dsimp only; omega), by first | omega | (dsimp only; omega)⟩, splitO_eq (b := .rp [strA q.name, int q.act.1, int q.act.2, cnds q.conds]) (by rw [← hr0]; rfl) ?_⟩
        refine stp ?_
        refine aw_mixN 9 _ (fun _ => false) (fun _ => false) [0, 1, 2, 3, 4, 5, 6, 7, 8] (by kernel_rfl) (by kernel_rfl) (HB.refl _) ?_
        refine stp ?_
        refine ⟨⟨by omega, by omega⟩, ?_⟩
        (conv => whnf)
        refine aw_cond (t := !kS q.name (l.getD a trow0).name) rfl (fun hc2 => ?_) (fun hc2 => ?_)
        · refine stp ?_
          exact back (i + 1, nx3 + 1) ⟨hi, rule_next h2 (by rw [hr0]; exact q_name hc2.symm)⟩ (by dsimp only; omega) (ele_tell (pm := []) (bx := [((2, nx2), .c [int s, int (a : Nat), boolA true]), ((1, nx + 1), .c (recC r)), ((0, nx), .c (polR k n true rs))]) _ _ rfl rfl (.cons _ (List.Sublist.refl _)) (List.Sublist.refl _) (BxLe.refl _) trivial ⟨AVle.refl _, AVle.refl _, AVle.refl _, AVle.refl _, AVle.refl _, le_int (wrap_succ (by first | omega | (dsimp only; omega))), trivial⟩)
        · refine stp ?_
          intro c g3; cases c
          · have g3 : ¬ (((q.conds.length : Nat) : Int) > 0) := not_of g3
            refine stp ?_
            exact ret_tells rfl (le_int (hat _ (q_mux hc2.symm) (rule_no' (by rw [hr0]; exact g3))).symm)
          · have g3 : ((q.conds.length : Nat) : Int) > 0 := yes_of g3
            refine stp ?_
            exact ret_tells rfl (le_int (hat _ (q_mux hc2.symm) (rule_yes (by rw [hr0]; exact g3))).symm)
set_option maxHeartbeats 4000000 in
theorem refrule_spec (p : Pol) (l : List TRow) (r : Rec) (hp : polOk p) (hR : rightP p = true) (hl : l.length ≤ 1000000) (hr : r.ok) : Tells Tryz.prog 34 [polA p, trows l, recA r] (int (ruleQ p l r)) := by
  have hof := of12_spec l r hr hl
  have hrt := conds_right hR
  have hlt := fun a => atO_lt (l := l) (r := r) (i := a)
  unfold of12A at hof
  unfold ruleQ
  obtain ⟨⟨k, n⟩, x32, rs⟩ := p
  obtain ⟨hpl, hpc⟩ := hp
  dsimp only at hpl hpc hrt
  generalize selI r.arch r.num = s at hof
  generalize atO l r = o at hof hlt
  generalize muxB r = mx at hof
  by_cases hs : s < 0
  · rw [decide_eq_true hs, Bool.true_or, if_pos rfl]
    refine tells_of_aw Tryz.func34 rfl rfl fun nx => ?_
    refine stp ?_
    refine aop_tells rfl rfl hof ⟨AVle.refl _, AVle.refl _, trivial⟩ fun nx2 => ?_
    refine stp ?_
    intro c t1; cases c
    · exact absurd hs (not_of t1)
    · refine stp ?_
      exact ret_tells rfl (AVle.refl _)
  rw [decide_eq_false hs, Bool.false_or]
  cases o with
  | none =>
    rw [show (if (decide (s = 1) && !x32) = true then (-1 : Int) else -1) = -1 by split <;> rfl]
    cases x32
    all_goals
      refine tells_of_aw Tryz.func34 rfl rfl fun nx => ?_
      refine stp ?_
      refine aop_tells rfl rfl hof ⟨AVle.refl _, AVle.refl _, trivial⟩ fun nx2 => ?_
      refine stp ?_
      intro c t1; cases c
      · refine stp ?_
        intro c t2; cases c
        · refine stp ?_
          exact ret_tells rfl (AVle.refl _)
        · refine stp ?_
          exact ret_tells rfl (AVle.refl _)
      · exact absurd (yes_of t1) hs
  | some a =>
    have ha := hlt a rfl
    cases x32 with
    | true =>
      rw [Bool.not_true, Bool.and_false, if_neg Bool.false_ne_true]
      cases mx
      · exact rule_ft k n rs l r s a hpl hpc hrt hr ha hs hof
      · exact rule_tt k n rs l r s a hpl hpc hrt hr ha hs hof
    | false =>
      by_cases h1 : s = 1
      · rw [decide_eq_true h1, Bool.not_false, Bool.and_true, if_pos rfl]
        refine tells_of_aw Tryz.func34 rfl rfl fun nx => ?_
        refine stp ?_
        refine aop_tells rfl rfl hof ⟨AVle.refl _, AVle.refl _, trivial⟩ fun nx2 => ?_
        refine stp ?_
        intro c t1; cases c
        · refine stp ?_
          intro c t2; cases c
          · exact absurd h1 (of_eq1 t2)
          · refine stp ?_
            exact ret_tells rfl (AVle.refl _)
        · exact absurd (yes_of t1) hs
      · rw [decide_eq_false h1, Bool.false_and, if_neg Bool.false_ne_true]
        cases mx
        · exact rule_ff k n rs l r s a hpl hpc hrt hr ha hs h1 hof
        · exact rule_tf k n rs l r s a hpl hpc hrt hr ha hs h1 hof
end Go.Proofs.W

/- Decimals: what reads the table of powers of ten. -/
namespace Go.Proofs
open Go.Shelf
shelf_lay LaysM.n171 Nm 171 at Tryz as Tryz.laysM171
end Go.Proofs
namespace Go.Proofs.W
open Go.Vl Go.Shelf Go.RowKit
set_option maxRecDepth 100000

theorem tab_pow {w : World} (h : Kn w none2) : Lib.TabIs Tryz.prog w "internal/strconv.uint64pow10" .u64 Lib.pow10Tab := by
  obtain ⟨⟨e, fz, h1⟩, _⟩ := h (1, (Go.Lib.pow10Tab.map fun z => Value.int .u64 z).toArray) (by unfold tabs; exact List.mem_cons_self)
  unfold Lib.TabIs World.var?
  rw [show Tryz.prog.globalNamed "internal/strconv.uint64pow10" = some 1 from by kernel_rfl]
  simp only [Option.bind_some]
  rw [h1]
theorem kn_of_tab {W : World} (h : Lib.TabIs Tryz.prog W "internal/strconv.uint64pow10" .u64 Lib.pow10Tab) : Kn W none2 := by
  unfold Lib.TabIs World.var? at h
  rw [show Tryz.prog.globalNamed "internal/strconv.uint64pow10" = some 1 from by kernel_rfl, Option.bind_some] at h
  intro p hp
  unfold tabs at hp
  obtain rfl := List.mem_singleton.1 hp
  refine ⟨?_, fun _ h => h⟩
  split at h
  · rename_i cs e fz hb
    cases h
    exact ⟨_, _, hb⟩
  · cases h
theorem below_drewK (w : World) : ∀ n, Below w.heap.size w (w.drewN n)
  | 0 => Below.refl _ _
  | n + 1 => (below_drewK w n).drew
theorem below_growN (w : World) (k : Nat) (os : Array Obj) : Below w.heap.size w (Sort.grow (w.drewN k) os) := by
  have h := below_drewK w k
  refine ⟨h.os, h.tape, h.output, Nat.le_trans h.size (by simp [Sort.grow]), fun j hj => ?_⟩
  rw [Sort.heap_grow_old _ _ (Nat.lt_of_lt_of_le hj h.size)]
  exact h.block j hj
def decB (n : Nat) : ByteArray := ⟨(Lib.decDigits n).toArray⟩
theorem itoa_nat (n : Nat) : Lib.itoa (n : Int) = Lib.decDigits n := by
  unfold Lib.itoa
  rw [if_neg (by omega)]
  rfl
theorem itoa_spec (n : Nat) (hn : n ≤ 9223372036854775807) : Tells Tryz.prog 77 [int n] (strA (decB n)) :=
  tells_of_callsK (vs := [.int .i64 n]) ⟨_, Tryz.func77, rfl, rfl⟩ fun w hk => (Any.strconv_Itoa Tryz.laysM171 n (by omega) (by omega) w (tab_pow hk)).mono fun e w' ⟨h1, k, os, h2⟩ => ⟨by rw [h1, itoa_nat]; rfl, by rw [h2]; exact below_growN w k os⟩
end Go.Proofs.W

namespace Go.Proofs.W
open Go.Vl
set_option maxRecDepth 100000

def fromQ (v : Nat) : A2 := match fromI v with
  | some k => (((k + 1 : Nat) : Int), ((v - kb k : Nat) : Int))
  | none => (0, 0)
theorem rfrom_spec (v : Nat) (hv : v < 4294967296) : Tells Tryz.prog 79 [int v] (actP (fromQ v)) := by
  refine tells_of_aw Tryz.func79 rfl rfl fun nx => ?_
  refine stp ?_
  refine aw_loop (fun s : Nat × Nat => mk 28 [(0, int v), (2, .bp (0, nx) 0), (3, int (s.1 + 1 : Nat))] ⟨[((0, nx), .c [int 0, int 0])], [], s.2, 1⟩) (fun s => s.1 ≤ 8 ∧ ∀ j, j < s.1 → fits v j = false) (fun s => 8 - s.1) ?_ ?_
  · exact ⟨(0, nx + 1), ⟨by simp, by intro j hj; simp at hj⟩, ele_tell (pm := []) _ [] rfl rfl (List.Sublist.refl _) (List.Sublist.refl _) ⟨rfl, OwnLe.refl _, trivial⟩ trivial ⟨AVle.refl _, AVle.refl _, AVle.refl _, trivial⟩⟩
  · rintro ⟨i, nx1⟩ ⟨h1, h2⟩
    dsimp only at h1 h2
    refine stp ?_
    intro c h3; cases c
    · have h3 := not_of h3
      dsimp only at h3
      have : fromI v = none := by
        unfold fromI
        rw [List.find?_range_eq_none]
        intro j hj
        rw [h2 j (by omega)]; rfl
      have hq : fromQ v = (0, 0) := by rw [fromQ, this]
      refine stp ?_
      rw [hq]
      exact ret_tells_all rfl ⟨rfl, trivial⟩ (AVle.refl _)
    · have h3 := yes_of h3
      dsimp only at h3
      have hi : i < 8 := by omega
      have hle := kb_le hi
      have hlk := km_le hi
      refine stp ?_
      refine aop_tells rfl rfl (base_spec i hi) ⟨AVle.refl _, trivial⟩ fun nx2 => ?_
      refine stp ?_
      intro c h4; cases c
      · simp only [fct_d0] at h4
        refine stp ?_
        refine back (i + 1, nx2) ⟨by dsimp only; omega, fun j hj => ?_⟩ (by dsimp only; omega) (ele_tell (pm := []) _ [] rfl rfl (List.Sublist.refl _) (List.Sublist.refl _) ⟨rfl, OwnLe.refl _, trivial⟩ trivial ⟨AVle.refl _, AVle.refl _, le_int (wrap_succ (by dsimp only; omega)), trivial⟩)
        dsimp only at hj
        rcases Nat.lt_or_ge j i with h | h
        · exact h2 j h
        · obtain rfl : j = i := by omega
          simp [fits]; omega
      · simp only [fct_d1] at h4
        refine stp ?_
        refine aop_tells rfl rfl (base_spec i hi) ⟨AVle.refl _, trivial⟩ fun nx3 => ?_
        refine stp ?_
        refine aop_tells rfl rfl (most09_spec i hi) ⟨AVle.refl _, trivial⟩ fun nx4 => ?_
        refine stp ?_
        intro c hc
        rw [wrap_id (by omega) (by omega)] at hc
        cases c
        · simp only [fct_d0] at hc
          refine stp ?_
          refine back (i + 1, nx4) ⟨by dsimp only; omega, fun j hj => ?_⟩ (by dsimp only; omega) (ele_tell (pm := []) _ [] rfl rfl (List.Sublist.refl _) (List.Sublist.refl _) ⟨rfl, OwnLe.refl _, trivial⟩ trivial ⟨AVle.refl _, AVle.refl _, le_int (wrap_succ (by dsimp only; omega)), trivial⟩)
          dsimp only at hj
          rcases Nat.lt_or_ge j i with h | h
          · exact h2 j h
          · obtain rfl : j = i := by omega
            simp [fits]; omega
        · simp only [fct_d1] at hc
          have hf : fits v i = true := by simp [fits]; omega
          have hfi : fromI v = some i := by
            unfold fromI
            rw [List.find?_range_eq_some]
            exact ⟨hf, by simp; omega, fun j hj => by rw [h2 j hj]; rfl⟩
          have hq : fromQ v = (((i + 1 : Nat) : Int), ((v - kb i : Nat) : Int)) := by rw [fromQ, hfi]
          refine stp ?_
          refine aop_tells rfl rfl (base_spec i hi) ⟨AVle.refl _, trivial⟩ fun nx5 => ?_
          refine stp ?_
          rw [hq]
          refine ret_tells_all rfl ⟨rfl, trivial⟩ (AVle.ags ⟨AVle.refl _, le_int ?_, trivial⟩)
          show IntKind.i64.wrap ((v : Int) - (kb i : Int)) = _
          rw [wrap_id (by omega) (by omega)]
          omega
end Go.Proofs.W

/- Texts of actions: numbers in decimal, words, by the program and by the document. -/
namespace Go.Proofs.W
open Go.Vl
set_option maxRecDepth 100000

theorem le_str {a b : ByteArray} (h : a = b) : AVle (strA a) (strA b) := h ▸ AVle.refl _
theorem decB_lt {n : Nat} (h : n < 10) : decB n = ⟨#[UInt8.ofNat (48 + n)]⟩ := by
  unfold decB
  rw [Lib.decDigits, dif_pos h]
theorem decB_ge {n : Nat} (h : ¬ n < 10) : decB n = decB (n / 10) ++ ⟨#[UInt8.ofNat (48 + n % 10)]⟩ := by
  unfold decB
  rw [Lib.decDigits, dif_neg h]
  apply ByteArray.ext
  simp
theorem dec_len : ∀ (k n : Nat), n < 10 ^ (k + 1) → (Lib.decDigits n).length ≤ k + 1
  | 0, n, h => by rw [Lib.decDigits, dif_pos (by omega)]; exact Nat.le_refl _
  | k + 1, n, h => by
    rw [Lib.decDigits]
    split
    · exact Nat.succ_le_succ (Nat.zero_le _)
    · rw [List.length_append, List.length_singleton]
      have := dec_len k (n / 10) (by rw [Nat.pow_succ] at h; omega)
      omega
theorem decB_size {n : Nat} (h : n ≤ 18446744073709551615) : (decB n).size ≤ 20 := dec_len 19 n (by omega)
theorem quo10 {n : Nat} (h : n ≤ 9223372036854775807) : IntKind.i64.wrap ((n : Int).tdiv 10) = ((n / 10 : Nat) : Int) := by
  rw [show (n : Int).tdiv 10 = ((n / 10 : Nat) : Int) from rfl]
  simp [IntKind.wrap, IntKind.signed, IntKind.bits]; omega
theorem rem10 {n : Nat} : (n : Int).tmod 10 = ((n % 10 : Nat) : Int) := rfl
theorem splitV_as {a b : AV} {K : AV → Prop} (h : a = b) (hk : splitV b K) : splitV a K := h ▸ hk
def digs : ByteArray := { data := #[48, 49, 50, 51, 52, 53, 54, 55, 56, 57] }
theorem succ_rem {n : Nat} : IntKind.i64.wrap ((n : Int).tmod 10 + 1) = ((n % 10 + 1 : Nat) : Int) := by
  rw [rem10]
  simp [IntKind.wrap, IntKind.signed, IntKind.bits]; omega
theorem dig_cond (n : Nat) : 0 ≤ (n : Int).tmod 10 ∧ (n : Int).tmod 10 ≤ IntKind.i64.wrap ((n : Int).tmod 10 + 1) ∧ IntKind.i64.wrap ((n : Int).tmod 10 + 1) ≤ (digs.size : Int) := by
  rw [succ_rem, rem10, show digs.size = 10 from rfl]
  omega
theorem dig_at : ∀ r : Nat, r < 10 → digs.extract r (r + 1) = ⟨#[UInt8.ofNat (48 + r)]⟩ := by decide +kernel
theorem dig_str (n : Nat) : AV.v (.string (digs.extract ((n : Int).tmod 10).toNat (IntKind.i64.wrap ((n : Int).tmod 10 + 1)).toNat)) = strA ⟨#[UInt8.ofNat (48 + n % 10)]⟩ := by
  rw [succ_rem, rem10, Int.toNat_natCast, Int.toNat_natCast, dig_at _ (Nat.mod_lt _ (by decide))]
  rfl
theorem digits_spec : ∀ (n : Nat), n ≤ 9223372036854775807 → Tells Tryz.prog 81 [int n] (strA (decB n)) := by
  intro n
  induction n using Nat.strongRecOn with
  | ind n ih =>
  intro hn
  refine tells_of_aw Tryz.func81 rfl rfl fun nx => ?_
  by_cases h : n < 10
  · rcases (by omega : n = 0 ∨ n = 1 ∨ n = 2 ∨ n = 3 ∨ n = 4 ∨ n = 5 ∨ n = 6 ∨ n = 7 ∨ n = 8 ∨ n = 9) with rfl | rfl | rfl | rfl | rfl | rfl | rfl | rfl | rfl | rfl
    all_goals
      refine stp ?_
      exact ret_tells rfl (le_str (by rw [decB_lt (by decide)]; rfl))
  · have hq := ih (n / 10) (by omega) (by omega)
    rw [← quo10 hn] at hq
    refine stp ?_
    intro c t1; cases c
    · refine stp ?_
      refine aw_mixN 10 _ (fun _ => false) (fun i => match i with | 2 => true | _ => false) [0, 1, 2, 3, 4, 5, 6, 7, 8, 9] (by kernel_rfl) (by kernel_rfl) (HB.refl _) ?_
      refine stp ?_
      refine ⟨_, pure_tells rfl rfl rfl hq ⟨AVle.refl _, trivial⟩ (NoId.v _), ?_⟩
      refine stp ?_
      refine ⟨dig_cond n, splitV_as (dig_str n) ?_⟩
      refine stp ?_
      (conv => whnf)
      refine ⟨by have h1 := decB_size (n := n / 10) (by omega); have h2 : (⟨#[UInt8.ofNat (48 + n % 10)]⟩ : ByteArray).size = 1 := rfl; rw [h2]; omega, ?_⟩
      refine stp ?_
      refine ret_tells rfl (le_str ?_)
      rw [decB_ge h]
    · exact absurd (yes_of t1) (by omega)
def kwL : List ByteArray := [⟨#[107, 105, 108, 108]⟩, ⟨#[107, 105, 108, 108, 95, 116, 104, 114, 101, 97, 100]⟩, ⟨#[116, 114, 97, 112]⟩, ⟨#[101, 114, 114, 110, 111]⟩, ⟨#[110, 111, 116, 105, 102, 121]⟩, ⟨#[116, 114, 97, 99, 101]⟩, ⟨#[108, 111, 103]⟩, ⟨#[97, 108, 108, 111, 119]⟩]
def spB : ByteArray := ⟨#[32]⟩
def actT (a : A2) : ByteArray := if a.1 = 4 ∨ a.1 = 6 then kwL.getD (a.1.toNat - 1) spB ++ spB ++ decB a.2.toNat else kwL.getD (a.1.toNat - 1) spB
theorem build9s : abuildCells Tryz.prog 135 9 [(0, strA ⟨#[]⟩), (1, strA ⟨#[107, 105, 108, 108]⟩), (2, strA ⟨#[107, 105, 108, 108, 95, 116, 104, 114, 101, 97, 100]⟩), (3, strA ⟨#[116, 114, 97, 112]⟩), (4, strA ⟨#[101, 114, 114, 110, 111]⟩), (5, strA ⟨#[110, 111, 116, 105, 102, 121]⟩), (6, strA ⟨#[116, 114, 97, 99, 101]⟩), (7, strA ⟨#[108, 111, 103]⟩), (8, strA ⟨#[97, 108, 108, 111, 119]⟩)] = some (9, [strA ⟨#[]⟩, strA ⟨#[107, 105, 108, 108]⟩, strA ⟨#[107, 105, 108, 108, 95, 116, 104, 114, 101, 97, 100]⟩, strA ⟨#[116, 114, 97, 112]⟩, strA ⟨#[101, 114, 114, 110, 111]⟩, strA ⟨#[110, 111, 116, 105, 102, 121]⟩, strA ⟨#[116, 114, 97, 99, 101]⟩, strA ⟨#[108, 111, 103]⟩, strA ⟨#[97, 108, 108, 111, 119]⟩]) := by kernel_rfl
theorem word_spec (k : Nat) (hk : k < 8) : Tells Tryz.prog 119 [int (k + 1 : Nat)] (strA (kwL.getD k spB)) := by
  refine tells_of_aw Tryz.func119 rfl rfl fun nx => ?_
  (refine stpR ?_; refine aw_region ?_; refine stpR ?_)
  refine aw_regionY (fun n => match n with | 0 => true | _ => false) 1 ?_
  refine aop_build rfl build9s ?_
  refine stp ?_
  refine ⟨⟨by omega, by omega⟩, ?_⟩
  rcases k with _ | _ | _ | _ | _ | _ | _ | _ | k
  iterate 8
    · refine stp ?_
      exact ret_tells rfl (AVle.refl _)
  omega
theorem cat_le {a b : ByteArray} (h : b.size ≤ 20) (k : a.size ≤ 1000000) : ((a.size + b.size : Nat) : Int) ≤ 9223372036854775807 := by omega
theorem acttext_spec (k n : Nat) (hk : k < 8) (hn : n ≤ km k) : Tells Tryz.prog 75 [act (k + 1 : Nat) n] (strA (actT ((k + 1 : Nat), n))) := by
  have hR := f22_spec ((k + 1 : Nat) : Int) (n : Int)
  have hkm : ((km k : Nat) : Int) = most9 ((k + 1 : Nat) : Int) := by
    clear hR hn
    rcases k with _ | _ | _ | _ | _ | _ | _ | _ | k
    all_goals first | decide | omega
  rw [show right9 ((k + 1 : Nat) : Int) (n : Int) = true by unfold right9; rw [← hkm]; simp; omega] at hR
  have ho := f26_in k hk
  have h5 := km_le hk
  have hit := itoa_spec n (by omega)
  have hsz := decB_size (n := n) (by omega)
  rcases k with _ | _ | _ | _ | _ | _ | _ | _ | k
  all_goals
    refine tells_of_aw Tryz.func75 rfl rfl fun nx => ?_
    refine stp ?_
    refine aop_tells rfl rfl hR ⟨AVle.refl _, trivial⟩ fun nx2 => ?_
    refine stp ?_
    refine aop_tells rfl rfl ho ⟨AVle.refl _, trivial⟩ fun nx3 => ?_
    refine stp ?_
    first
    | exact ret_tells rfl (AVle.refl _)
    | (exfalso; omega)
    | skip
  all_goals
    refine aw_mixN 7 _ (fun _ => false) (fun i => match i with | 5 => true | _ => false) [0, 1, 2, 3, 4, 5, 6] (by kernel_rfl) (by kernel_rfl) (HB.refl _) ?_
    refine stp ?_
    refine ⟨_, pure_tells rfl rfl rfl hit ⟨AVle.refl _, trivial⟩ (NoId.v _), ?_⟩
    refine stp ?_
    refine ⟨cat_le hsz (by decide), ?_⟩
    refine stp ?_
    exact ret_tells rfl (AVle.refl _)
theorem reftext_spec (k n : Nat) (hk : k < 8) (hn : n ≤ km k) : Tells Tryz.prog 78 [act (k + 1 : Nat) n] (strA (actT ((k + 1 : Nat), n))) := by
  have hw := word_spec k hk
  have h5 := km_le hk
  have hd := digits_spec n (by omega)
  have hsz := decB_size (n := n) (by omega)
  rcases k with _ | _ | _ | _ | _ | _ | _ | _ | k
  all_goals
    refine tells_of_aw Tryz.func78 rfl rfl fun nx => ?_
    refine stp ?_
    first
    | (refine aop_tells rfl rfl hw ⟨AVle.refl _, trivial⟩ fun nx2 => ?_
       refine stp ?_
       exact ret_tells rfl (AVle.refl _))
    | (exfalso; omega)
    | skip
  all_goals
    refine aw_mixN 8 _ (fun _ => false) (fun i => match i with | 2 => true | 6 => true | _ => false) [0, 1, 2, 3, 4, 5, 6, 7] (by kernel_rfl) (by kernel_rfl) (HB.refl _) ?_
    refine stp ?_
    refine ⟨_, pure_tells rfl rfl rfl hw ⟨AVle.refl _, trivial⟩ (NoId.v _), ?_⟩
    refine stp ?_
    refine ⟨_, pure_tells rfl rfl rfl hd ⟨AVle.refl _, trivial⟩ (NoId.v _), ?_⟩
    refine stp ?_
    refine ⟨cat_le hsz (by decide), ?_⟩
    refine stp ?_
    exact ret_tells rfl (AVle.refl _)
end Go.Proofs.W

/- The text of a record's reason, by the program. -/
namespace Go.Proofs.W
open Go.Vl
set_option maxRecDepth 100000

theorem fromI_at {k n : Nat} (hk : k < 8) (hn : n ≤ km k) : fromI (kb k + n) = some k := by
  unfold fromI
  rw [show List.range 8 = [0, 1, 2, 3, 4, 5, 6, 7] from rfl]
  rcases k with _ | _ | _ | _ | _ | _ | _ | _ | k
  all_goals first | (exfalso; omega) | skip
  all_goals
    simp only [km, if_pos, if_neg, reduceIte, Nat.reduceEqDiff] at hn
    simp [fits, kb, km]
    try omega
def muxw (m : Nat) : ByteArray := ([⟨#[]⟩, ⟨#[32, 98, 121, 32, 115, 111, 99, 107, 101, 116, 99, 97, 108, 108]⟩, ⟨#[32, 98, 121, 32, 105, 112, 99]⟩] : List ByteArray).getD m ⟨#[]⟩
def colB : ByteArray := ⟨#[58, 32]⟩
def noneB : ByteArray := ⟨#[110, 111, 110, 101]⟩
def quB : ByteArray := ⟨#[63]⟩
def outB9 : ByteArray := ⟨#[32, 111, 117, 116]⟩
def defB : ByteArray := ⟨#[32, 100, 101, 102, 97, 117, 108, 116]⟩
def ruleB : ByteArray := ⟨#[32, 114, 117, 108, 101, 32]⟩
def txt0 (a : Nat) : ByteArray := (infL.getD a inf0).name ++ spB
def txt1 (x : Rsn) : ByteArray := if x.name.size = 0 then txt0 x.abi.toNat ++ quB else txt0 x.abi.toNat
def txt2 (x : Rsn) : ByteArray := txt1 x ++ (x.name ++ muxw x.mux.toNat)
def txt3 (x : Rsn) : ByteArray := if x.out then txt2 x ++ outB9 else if x.rule < 0 then txt2 x ++ defB else txt2 x ++ (ruleB ++ decB x.rule.toNat)
def reasonT (x : Rsn) (a : A2) : ByteArray := if x.some then txt3 x ++ (colB ++ actT a) else noneB ++ (colB ++ actT a)
theorem app_size (a b : ByteArray) : (a ++ b).size = a.size + b.size := ByteArray.size_append
theorem kwL_size (k : Nat) : (kwL.getD k spB).size ≤ 11 := by
  rcases k with _ | _ | _ | _ | _ | _ | _ | _ | k
  all_goals first | decide | exact (by decide : spB.size ≤ 11)
theorem actT_size {k n : Nat} (h : n ≤ 65535) : (actT ((k + 1 : Nat), n)).size ≤ 40 := by
  unfold actT
  have h1 := kwL_size ((((k + 1 : Nat), (n : Int)) : A2).1.toNat - 1)
  have h2 := decB_size (n := (((k + 1 : Nat), (n : Int)) : A2).2.toNat) (by simp; omega)
  have h3 : spB.size = 1 := rfl
  split
  · rw [app_size, app_size]; omega
  · omega
theorem txt0_size {a : Nat} (h : a < 5) : (txt0 a).size ≤ 10 := by
  rcases (by omega : a = 0 ∨ a = 1 ∨ a = 2 ∨ a = 3 ∨ a = 4) with rfl | rfl | rfl | rfl | rfl <;> decide
theorem inf_size (a : Nat) : (infL.getD a inf0).name.size ≤ 9 := by
  rcases a with _ | _ | _ | _ | _ | a
  all_goals first | decide | exact (by decide : inf0.name.size ≤ 9)
theorem inf_cat (a : Nat) : (((infL.getD a inf0).name.size + ({ data := #[32] } : ByteArray).size : Nat) : Int) ≤ 9223372036854775807 := by
  have h1 := inf_size a
  have h2 : ({ data := #[32] } : ByteArray).size = 1 := rfl
  omega
theorem cat_of {a b : ByteArray} (p q : Nat) (ha : a.size ≤ p) (hb : b.size ≤ q) (h : p + q ≤ 9223372036854775807) : ((a.size + b.size : Nat) : Int) ≤ 9223372036854775807 := by omega
theorem cat_sz {a b : ByteArray} (p q : Nat) (ha : a.size ≤ p) (hb : b.size ≤ q) : (a ++ b).size ≤ p + q := by rw [app_size]; omega
set_option maxHeartbeats 4000000 in
theorem jtext_spec (so : Bool) (a : Nat) (nm : ByteArray) (m : Nat) (ou : Bool) (ru : Int) (k n : Nat) (ha : a < 5) (hm : m ≤ 2) (hn : nm.size ≤ 1000000) (hru : -1 ≤ ru ∧ ru ≤ 1000000) (hk : k < 8) (hnk : n ≤ km k) :
    Tells Tryz.prog 35 [rsnA ⟨so, a, nm, m, ou, ru, kb k + n⟩] (strA (reasonT ⟨so, a, nm, m, ou, ru, kb k + n⟩ ((k + 1 : Nat), n))) := by
  have hle := kb_le hk
  have h5 := km_le hk
  have hf := from_spec (kb k + n) (by omega)
  have ht := acttext_spec k n hk hnk
  have hts := actT_size (k := k) (n := n) (by omega)
  have hab := abiof_spec a ha
  have h0s := txt0_size ha
  rw [show fromR (kb k + n) = ((((k + 1 : Nat) : Int), (n : Int)), 0) by unfold fromR; rw [fromI_at hk hnk]; simp] at hf
  unfold reasonT
  dsimp only
  generalize hT : actT (((k + 1 : Nat) : Int), (n : Int)) = T at ht hts ⊢
  cases so with
  | false =>
    refine tells_of_aw Tryz.func35 rfl rfl fun nx => ?_
    refine stp ?_
    refine aop_tells rfl rfl hf ⟨AVle.refl _, trivial⟩ fun nx2 => ?_
    refine stp ?_
    refine aop_tells rfl rfl ht ⟨AVle.refl _, trivial⟩ fun nx3 => ?_
    refine stp ?_
    refine ⟨cat_of 2 40 (by decide) hts (by decide), ?_⟩
    refine stp ?_
    refine ⟨cat_of 4 42 (by decide) (cat_sz 2 40 (by decide) hts) (by decide), ?_⟩
    refine stp ?_
    exact ret_tells rfl (le_str (if_neg Bool.false_ne_true).symm)
  | true =>
    refine tells_of_aw Tryz.func35 rfl rfl fun nx => ?_
    refine stp ?_
    refine aop_tells rfl rfl hf ⟨AVle.refl _, trivial⟩ fun nx2 => ?_
    refine stp ?_
    refine aop_tells rfl rfl ht ⟨AVle.refl _, trivial⟩ fun nx3 => ?_
    refine stp ?_
    refine ⟨cat_of 2 40 (by decide) hts (by decide), ?_⟩
    refine stp ?_
    refine aop_tells rfl rfl hab ⟨AVle.refl _, trivial⟩ fun nx4 => ?_
    refine stp ?_
    refine ⟨inf_cat a, ?_⟩
    refine stp ?_
    intro c hc
    refine aw_mid (fun nx' : Nat => mk 68 [(1, .bp (0, nx) 0), (5, strA (colB ++ T)), (8, strA (txt1 ⟨true, a, nm, m, ou, ru, kb k + n⟩))] ⟨[((0, nx), .c (rsnC ⟨true, a, nm, m, ou, ru, kb k + n⟩))], [], nx', 1⟩) (fun _ => True) ?_ ?_
    · cases c
      · refine stp ?_
        exact ⟨_, trivial, ele_tell (pm := []) (bx := [((0, nx), .c (rsnC ⟨true, a, nm, m, ou, ru, kb k + n⟩))]) _ _ rfl rfl (.cons _ (.cons _ (.cons_cons _ .slnil))) (List.Sublist.refl _) (BxLe.refl _) trivial ⟨AVle.refl _, AVle.refl _, le_str ((if_neg (size0_no hc.symm)).symm), trivial⟩⟩
      · refine stp ?_
        refine ⟨cat_of 10 1 h0s (by decide) (by decide), ?_⟩
        refine stp ?_
        exact ⟨_, trivial, ele_tell (pm := []) (bx := [((0, nx), .c (rsnC ⟨true, a, nm, m, ou, ru, kb k + n⟩))]) _ _ rfl rfl (.cons _ (.cons _ (.cons_cons _ .slnil))) (List.Sublist.refl _) (BxLe.refl _) trivial ⟨AVle.refl _, AVle.refl _, le_str ((if_pos (size0_of hc.symm)).symm), trivial⟩⟩
    · intro nx5 _
      have h1s : (txt1 ⟨true, a, nm, m, ou, ru, kb k + n⟩).size ≤ 11 := by
        unfold txt1
        split
        · exact cat_sz 10 1 h0s (by decide)
        · exact Nat.le_trans h0s (by decide)
      generalize hT1 : txt1 ⟨true, a, nm, m, ou, ru, kb k + n⟩ = T1 at h1s
      refine stp ?_
      refine aw_mid (fun nx' : Nat => mk 68 [(1, .bp (0, nx) 0), (5, strA (colB ++ T)), (8, strA (txt2 ⟨true, a, nm, m, ou, ru, kb k + n⟩))] ⟨[((0, nx), .c (rsnC ⟨true, a, nm, m, ou, ru, kb k + n⟩))], [], nx', 1⟩) (fun _ => True) ?_ ?_
      · rcases (by omega : m = 0 ∨ m = 1 ∨ m = 2) with rfl | rfl | rfl
        · refine aw_mixN 11 _ (fun _ => false) (fun _ => false) [0, 1, 2, 3, 4, 5, 6, 7, 8, 9, 10] (by kernel_rfl) (by kernel_rfl) (HB.refl _) ?_
          refine stp ?_
          refine ⟨cat_of 1000000 20 hn (by decide) (by decide), ?_⟩
          refine stp ?_
          refine ⟨cat_of 11 1000020 h1s (cat_sz 1000000 20 hn (by decide)) (by decide), ?_⟩
          refine stp ?_
          exact ⟨_, trivial, ele_tell (pm := []) (bx := [((0, nx), .c (rsnC ⟨true, a, nm, (0 : Nat), ou, ru, kb k + n⟩))]) _ _ rfl rfl (List.Sublist.refl _) (List.Sublist.refl _) (BxLe.refl _) trivial ⟨AVle.refl _, AVle.refl _, le_str (by unfold txt2; rw [hT1]; rfl), trivial⟩⟩
        · refine aw_mixN 11 _ (fun _ => false) (fun _ => false) [0, 1, 2, 3, 4, 5, 6, 7, 8, 9, 10] (by kernel_rfl) (by kernel_rfl) (HB.refl _) ?_
          refine stp ?_
          refine ⟨cat_of 1000000 20 hn (by decide) (by decide), ?_⟩
          refine stp ?_
          refine ⟨cat_of 11 1000020 h1s (cat_sz 1000000 20 hn (by decide)) (by decide), ?_⟩
          refine stp ?_
          exact ⟨_, trivial, ele_tell (pm := []) (bx := [((0, nx), .c (rsnC ⟨true, a, nm, (1 : Nat), ou, ru, kb k + n⟩))]) _ _ rfl rfl (List.Sublist.refl _) (List.Sublist.refl _) (BxLe.refl _) trivial ⟨AVle.refl _, AVle.refl _, le_str (by unfold txt2; rw [hT1]; rfl), trivial⟩⟩
        · refine aw_mixN 11 _ (fun _ => false) (fun _ => false) [0, 1, 2, 3, 4, 5, 6, 7, 8, 9, 10] (by kernel_rfl) (by kernel_rfl) (HB.refl _) ?_
          refine stp ?_
          refine ⟨cat_of 1000000 20 hn (by decide) (by decide), ?_⟩
          refine stp ?_
          refine ⟨cat_of 11 1000020 h1s (cat_sz 1000000 20 hn (by decide)) (by decide), ?_⟩
          refine stp ?_
          exact ⟨_, trivial, ele_tell (pm := []) (bx := [((0, nx), .c (rsnC ⟨true, a, nm, (2 : Nat), ou, ru, kb k + n⟩))]) _ _ rfl rfl (List.Sublist.refl _) (List.Sublist.refl _) (BxLe.refl _) trivial ⟨AVle.refl _, AVle.refl _, le_str (by unfold txt2; rw [hT1]; rfl), trivial⟩⟩
      · intro nx6 _
        have h2s : (txt2 ⟨true, a, nm, m, ou, ru, kb k + n⟩).size ≤ 1000100 := by
          unfold txt2
          rw [hT1]
          refine Nat.le_trans (cat_sz 11 1000020 h1s (cat_sz 1000000 20 hn ?_)) (by decide)
          show (muxw (Int.toNat (m : Int))).size ≤ 20
          rw [Int.toNat_natCast]
          rcases (by omega : m = 0 ∨ m = 1 ∨ m = 2) with rfl | rfl | rfl <;> decide
        generalize hT2 : txt2 ⟨true, a, nm, m, ou, ru, kb k + n⟩ = T2 at h2s
        refine aw_seq ?_
        refine aw_mid (fun nx' : Nat => mk 68 [(1, .bp (0, nx) 0), (5, strA (colB ++ T)), (8, strA (txt3 ⟨true, a, nm, m, ou, ru, kb k + n⟩))] ⟨[((0, nx), .c (rsnC ⟨true, a, nm, m, ou, ru, kb k + n⟩))], [], nx', 1⟩) (fun _ => True) ?_ ?_
        · cases ou with
          | true =>
            refine stp ?_
            refine ⟨cat_of 1000100 4 h2s (by decide) (by decide), ?_⟩
            refine stp ?_
            exact ⟨_, trivial, ele_tell (pm := []) (bx := [((0, nx), .c (rsnC ⟨true, a, nm, m, true, ru, kb k + n⟩))]) _ _ rfl rfl (List.Sublist.refl _) (List.Sublist.refl _) (BxLe.refl _) trivial ⟨AVle.refl _, AVle.refl _, le_str (by unfold txt3; rw [hT2]; rfl), trivial⟩⟩
          | false =>
            rcases (by omega : ru = -1 ∨ 0 ≤ ru) with rfl | hr0
            · refine stp ?_
              refine ⟨cat_of 1000100 8 h2s (by decide) (by decide), ?_⟩
              refine stp ?_
              exact ⟨_, trivial, ele_tell (pm := []) (bx := [((0, nx), .c (rsnC ⟨true, a, nm, m, false, -1, kb k + n⟩))]) _ _ rfl rfl (List.Sublist.refl _) (List.Sublist.refl _) (BxLe.refl _) trivial ⟨AVle.refl _, AVle.refl _, le_str (by unfold txt3; rw [hT2]; rfl), trivial⟩⟩
            · obtain ⟨j, rfl⟩ := Int.eq_ofNat_of_zero_le hr0
              have hit := itoa_spec j (by omega)
              have hd := decB_size (n := j) (by omega)
              refine stp ?_
              refine aop_tells rfl rfl hit ⟨AVle.refl _, trivial⟩ fun nx8 => ?_
              refine stp ?_
              refine ⟨cat_of 6 20 (by decide) hd (by decide), ?_⟩
              refine stp ?_
              refine ⟨cat_of 1000100 26 h2s (cat_sz 6 20 (by decide) hd) (by decide), ?_⟩
              refine stp ?_
              exact ⟨_, trivial, ele_tell (pm := []) (bx := [((0, nx), .c (rsnC ⟨true, a, nm, m, false, (j : Nat), kb k + n⟩))]) _ _ rfl rfl (List.Sublist.refl _) (List.Sublist.refl _) (BxLe.refl _) trivial ⟨AVle.refl _, AVle.refl _, le_str (by unfold txt3; rw [hT2]; rfl), trivial⟩⟩
        · intro nx7 _
          have h3s : (txt3 ⟨true, a, nm, m, ou, ru, kb k + n⟩).size ≤ 1000200 := by
            unfold txt3
            dsimp only
            rw [hT2]
            have hd := decB_size (n := ru.toNat) (by omega)
            split
            · exact Nat.le_trans (cat_sz 1000100 4 h2s (by decide)) (by decide)
            · split
              · exact Nat.le_trans (cat_sz 1000100 8 h2s (by decide)) (by decide)
              · exact Nat.le_trans (cat_sz 1000100 26 h2s (cat_sz 6 20 (by decide) hd)) (by decide)
          generalize hT3 : txt3 ⟨true, a, nm, m, ou, ru, kb k + n⟩ = T3 at h3s
          refine stp ?_
          refine ⟨cat_of 1000200 42 h3s (cat_sz 2 40 (by decide) hts) (by decide), ?_⟩
          refine stp ?_
          exact ret_tells rfl (le_str (if_pos rfl).symm)
end Go.Proofs.W

namespace Go.Proofs.W
open Go.Vl
set_option maxRecDepth 100000

/- The text of a record's reason, by the document. -/
def nmO (l : List TRow) : Option Nat → ByteArray
  | some a => (l.getD a trow0).name
  | none => ⟨#[]⟩
def rt1 (a : Nat) (l : List TRow) : Option Nat → ByteArray
  | some j => txt0 a ++ (l.getD j trow0).name
  | none => txt0 a ++ quB
theorem app_nil (a : ByteArray) : a ++ (⟨#[]⟩ : ByteArray) = a := ByteArray.append_empty
theorem nil_app (a : ByteArray) : (⟨#[]⟩ : ByteArray) ++ a = a := ByteArray.empty_append
theorem rt2 {a : Nat} {l : List TRow} {o : Option Nat} {m : Nat} {ou : Bool} {ru : Int} {v : Nat} (hn : ∀ j, o = some j → (l.getD j trow0).name.size ≠ 0) : rt1 a l o ++ muxw m = txt2 ⟨true, (a : Nat), nmO l o, (m : Nat), ou, ru, v⟩ := by
  unfold txt2 txt1
  dsimp only
  rw [Int.toNat_natCast, Int.toNat_natCast]
  cases o with
  | none =>
    show txt0 a ++ quB ++ muxw m = (txt0 a ++ quB) ++ (⟨#[]⟩ ++ muxw m)
    rw [nil_app]
  | some j =>
    show txt0 a ++ (l.getD j trow0).name ++ muxw m = (if (l.getD j trow0).name.size = 0 then _ else txt0 a) ++ ((l.getD j trow0).name ++ muxw m)
    rw [if_neg (hn j rfl), ByteArray.append_assoc]
theorem names_spec : Tells Tryz.prog 80 [] (.sl 1 5 fun k => strA (infL.getD k inf0).name) := by
  refine tells_of_aw Tryz.func80 rfl rfl fun nx => ?_
  refine stp ?_
  exact ret_tells rfl (AVle.os_sl.trans (AVle.sl_fun fun k hk => by
    rcases (by omega : k = 0 ∨ k = 1 ∨ k = 2 ∨ k = 3 ∨ k = 4) with rfl | rfl | rfl | rfl | rfl <;> rfl))
theorem noid_names : NoId (.sl 1 5 fun k => strA (infL.getD k inf0).name) := NoId.sl fun i _ c hc => by
  simp only [strA, AV.cells, List.mem_cons, List.not_mem_nil, or_false] at hc
  subst hc
  exact NoId.v _
theorem fromQ_at {k n : Nat} (hk : k < 8) (hn : n ≤ km k) : fromQ (kb k + n) = (((k + 1 : Nat) : Int), (n : Int)) := by
  unfold fromQ
  rw [fromI_at hk hn]
  simp
set_option maxHeartbeats 8000000 in
theorem reftext_none (pk pn : Int) (x32 : Bool) (rs : List Rul) (l : List TRow) (r : Rec) (s at0 : Int) (mx : Bool) (k n : Nat) (hk : k < 8) (hnk : n ≤ km k) (hs : s < 0) (hof : Tells Tryz.prog 33 [trows l, recA r] (.ag [int s, int at0, boolA mx])) (nm : ByteArray) (a mu ru : Int) (ou : Bool) (v : Nat) :
    Tells Tryz.prog 36 [polA ⟨(pk, pn), x32, rs⟩, trows l, recA r, int (kb k + n : Nat)] (strA (reasonT ⟨false, a, nm, mu, ou, ru, v⟩ (((k + 1 : Nat) : Int), (n : Int)))) := by
  have hle := kb_le hk
  have h5 := km_le hk
  have hf := rfrom_spec (kb k + n) (by omega)
  have ht := reftext_spec k n hk hnk
  have hts := actT_size (k := k) (n := n) (by omega)
  rw [fromQ_at hk hnk] at hf
  unfold reasonT
  dsimp only
  generalize hT : actT (((k + 1 : Nat) : Int), (n : Int)) = T at ht hts ⊢
  refine tells_of_aw Tryz.func36 rfl rfl fun nx => ?_
  refine stp ?_
  refine aop_tells rfl rfl hf ⟨AVle.refl _, trivial⟩ fun nx2 => ?_
  refine stp ?_
  refine aop_tells rfl rfl ht ⟨AVle.refl _, trivial⟩ fun nx3 => ?_
  refine stp ?_
  refine ⟨cat_of 2 40 (by decide) hts (by decide), ?_⟩
  refine stp ?_
  refine aop_tells rfl rfl hof ⟨AVle.refl _, AVle.refl _, trivial⟩ fun nx4 => ?_
  refine stp ?_
  intro c t1; cases c
  · exact absurd hs (not_of t1)
  · refine stp ?_
    refine ⟨cat_of 4 42 (by decide) (cat_sz 2 40 (by decide) hts) (by decide), ?_⟩
    refine stp ?_
    exact ret_tells rfl (le_str (if_neg Bool.false_ne_true).symm)
def muxK (mx : Bool) (num m : Nat) : Prop := (mx = false ∧ m = 0) ∨ (mx = true ∧ num = 102 ∧ m = 1) ∨ (mx = true ∧ num = 117 ∧ m = 2)
set_option maxHeartbeats 8000000 in
theorem reftext_some (pk pn : Int) (x32 : Bool) (rs : List Rul) (l : List TRow) (r : Rec) (a : Nat) (o : Option Nat) (mx : Bool) (m : Nat) (ou : Bool) (ru : Int) (k n : Nat) (hk : k < 8) (hnk : n ≤ km k) (ha : a < 5) (hof : Tells Tryz.prog 33 [trows l, recA r] (.ag [int (a : Nat), int (optI o), boolA mx]))
    (ho : ∀ j, o = some j → j < l.length ∧ (l.getD j trow0).name.size ≤ 1000000) (hne : ∀ j, o = some j → (l.getD j trow0).name.size ≠ 0) (hm : muxK mx r.num m) (hou : ou = (decide ((a : Int) = 1) && !x32)) (hru : -1 ≤ ru ∧ ru ≤ 1000000) (hrl : Tells Tryz.prog 34 [polA ⟨(pk, pn), x32, rs⟩, trows l, recA r] (int ru)) :
    Tells Tryz.prog 36 [polA ⟨(pk, pn), x32, rs⟩, trows l, recA r, int (kb k + n : Nat)] (strA (reasonT ⟨true, (a : Nat), nmO l o, (m : Nat), ou, ru, kb k + n⟩ (((k + 1 : Nat) : Int), (n : Int)))) := by
  have hle := kb_le hk
  have h5 := km_le hk
  have hf := rfrom_spec (kb k + n) (by omega)
  have ht := reftext_spec k n hk hnk
  have hts := actT_size (k := k) (n := n) (by omega)
  have h0s := txt0_size ha
  rw [fromQ_at hk hnk] at hf
  unfold reasonT
  dsimp only
  generalize hT : actT (((k + 1 : Nat) : Int), (n : Int)) = T at ht hts ⊢
  refine tells_of_aw Tryz.func36 rfl rfl fun nx => ?_
  refine stp ?_
  refine aop_tells rfl rfl hf ⟨AVle.refl _, trivial⟩ fun nx2 => ?_
  refine stp ?_
  refine aop_tells rfl rfl ht ⟨AVle.refl _, trivial⟩ fun nx3 => ?_
  refine stp ?_
  refine ⟨cat_of 2 40 (by decide) hts (by decide), ?_⟩
  refine stp ?_
  refine aop_tells rfl rfl hof ⟨AVle.refl _, AVle.refl _, trivial⟩ fun nx4 => ?_
  refine stp ?_
  refine aw_mixN 6 _ (fun _ => false) (fun i => match i with | 0 => true | _ => false) [0, 1, 2, 3, 4, 5] (by kernel_rfl) (by kernel_rfl) (HB.refl _) ?_
  refine stp ?_
  refine ⟨_, pure_tells rfl rfl rfl names_spec trivial noid_names, ?_⟩
  refine stp ?_
  refine ⟨⟨by omega, by omega⟩, ?_⟩
  refine stp ?_
  refine ⟨inf_cat a, ?_⟩
  refine stpR ?_
  have h1s : (rt1 a l o).size ≤ 1000020 := by
    cases o with
    | none => exact Nat.le_trans (cat_sz 10 1 h0s (by decide)) (by decide)
    | some j => exact Nat.le_trans (cat_sz 10 1000000 h0s (ho j rfl).2) (by decide)
  refine aw_mid2 (fun nx' : Nat => mk 90 [(1, trows l), (4, .bp (0, nx) 0), (6, .bp (1, nx + 1) 0), (9, strA (colB ++ T)), (10, .bp (2, nx4) 0), (11, strA (rt1 a l o))] ⟨[((2, nx4), .c [int (a : Nat), int (optI o), boolA mx]), ((1, nx + 1), .c (recC r)), ((0, nx), .c [int pk, int pn, boolA x32, ruls rs])], [], nx', 3⟩) (fun _ => True) ?_ ?_
  · cases o with
    | none =>
      refine stp ?_
      refine ⟨cat_of 10 1 h0s (by decide) (by decide), ?_⟩
      refine stp ?_
      exact ⟨_, trivial, ele_tell (pm := []) (bx := [((2, nx4), .c [int (a : Nat), int (optI none), boolA mx]), ((1, nx + 1), .c (recC r)), ((0, nx), .c [int pk, int pn, boolA x32, ruls rs])]) _ _ rfl rfl (List.Sublist.refl _) (List.Sublist.refl _) (BxLe.refl _) trivial ⟨AVle.refl _, AVle.refl _, AVle.refl _, AVle.refl _, AVle.refl _, le_str (rfl), trivial⟩⟩
    | some j =>
      have hj := ho j rfl
      refine stp ?_
      refine splitO_eq (b := int j) rfl ?_
      refine stp ?_
      refine ⟨⟨by omega, by omega⟩, ?_⟩
      refine stp ?_
      refine ⟨cat_of 10 1000000 h0s hj.2 (by decide), ?_⟩
      refine stp ?_
      exact ⟨_, trivial, ele_tell (pm := []) (bx := [((2, nx4), .c [int (a : Nat), int (optI (some j)), boolA mx]), ((1, nx + 1), .c (recC r)), ((0, nx), .c [int pk, int pn, boolA x32, ruls rs])]) _ _ rfl rfl (List.Sublist.refl _) (List.Sublist.refl _) (BxLe.refl _) trivial ⟨AVle.refl _, AVle.refl _, AVle.refl _, AVle.refl _, AVle.refl _, le_str (rfl), trivial⟩⟩
  · intro nx5 _
    have h2 := rt2 (a := a) (l := l) (o := o) (m := m) (ou := ou) (ru := ru) (v := kb k + n) hne
    generalize hR1 : rt1 a l o = R1 at h1s h2
    have h2s : (txt2 ⟨true, (a : Nat), nmO l o, (m : Nat), ou, ru, kb k + n⟩).size ≤ 1000060 := by
      rw [← h2]
      refine Nat.le_trans (cat_sz 1000020 20 h1s ?_) (by decide)
      rcases hm with ⟨_, rfl⟩ | ⟨_, _, rfl⟩ | ⟨_, _, rfl⟩ <;> decide
    refine aw_seq ?_
    refine aw_mid (fun nx' : Nat => mk 90 [(1, trows l), (4, .bp (0, nx) 0), (6, .bp (1, nx + 1) 0), (9, strA (colB ++ T)), (10, .bp (2, nx4) 0), (11, strA (R1 ++ (if m = 1 then muxw 1 else ⟨#[]⟩)))] ⟨[((2, nx4), .c [int (a : Nat), int (optI o), boolA mx]), ((1, nx + 1), .c (recC r)), ((0, nx), .c [int pk, int pn, boolA x32, ruls rs])], [], nx', 3⟩) (fun _ => True) ?_ ?_
    · rcases hm with ⟨rfl, rfl⟩ | ⟨rfl, hnum, rfl⟩ | ⟨rfl, hnum, rfl⟩
      · refine stp ?_
        exact ⟨_, trivial, ele_tell (pm := []) (bx := [((2, nx4), .c [int (a : Nat), int (optI o), boolA false]), ((1, nx + 1), .c (recC r)), ((0, nx), .c [int pk, int pn, boolA x32, ruls rs])]) _ _ rfl rfl (List.Sublist.refl _) (List.Sublist.refl _) (BxLe.refl _) trivial ⟨AVle.refl _, AVle.refl _, AVle.refl _, AVle.refl _, AVle.refl _, le_str ((app_nil _).symm), trivial⟩⟩
      · refine stp ?_
        intro c t1; cases c
        · exact absurd t1 (by rw [hnum]; decide)
        · refine stp ?_
          refine ⟨cat_of 1000020 20 h1s (by decide) (by decide), ?_⟩
          refine stp ?_
          exact ⟨_, trivial, ele_tell (pm := []) (bx := [((2, nx4), .c [int (a : Nat), int (optI o), boolA true]), ((1, nx + 1), .c (recC r)), ((0, nx), .c [int pk, int pn, boolA x32, ruls rs])]) _ _ rfl rfl (List.Sublist.refl _) (List.Sublist.refl _) (BxLe.refl _) trivial ⟨AVle.refl _, AVle.refl _, AVle.refl _, AVle.refl _, AVle.refl _, le_str (rfl), trivial⟩⟩
      · refine stp ?_
        intro c t1; cases c
        · refine stp ?_
          exact ⟨_, trivial, ele_tell (pm := []) (bx := [((2, nx4), .c [int (a : Nat), int (optI o), boolA true]), ((1, nx + 1), .c (recC r)), ((0, nx), .c [int pk, int pn, boolA x32, ruls rs])]) _ _ rfl rfl (List.Sublist.refl _) (List.Sublist.refl _) (BxLe.refl _) trivial ⟨AVle.refl _, AVle.refl _, AVle.refl _, AVle.refl _, AVle.refl _, le_str ((app_nil _).symm), trivial⟩⟩
        · exact absurd t1 (by rw [hnum]; decide)
    · intro nx6 _
      have hms : (R1 ++ (if m = 1 then muxw 1 else ⟨#[]⟩)).size ≤ 1000040 := Nat.le_trans (cat_sz 1000020 20 h1s (by split <;> decide)) (by decide)
      refine aw_seq ?_
      refine aw_mid (fun nx' : Nat => mk 90 [(1, trows l), (4, .bp (0, nx) 0), (6, .bp (1, nx + 1) 0), (9, strA (colB ++ T)), (10, .bp (2, nx4) 0), (11, strA (txt2 ⟨true, (a : Nat), nmO l o, (m : Nat), ou, ru, kb k + n⟩))] ⟨[((2, nx4), .c [int (a : Nat), int (optI o), boolA mx]), ((1, nx + 1), .c (recC r)), ((0, nx), .c [int pk, int pn, boolA x32, ruls rs])], [], nx', 3⟩) (fun _ => True) ?_ ?_
      · rcases hm with ⟨rfl, rfl⟩ | ⟨rfl, hnum, rfl⟩ | ⟨rfl, hnum, rfl⟩
        · refine stp ?_
          exact ⟨_, trivial, ele_tell (pm := []) (bx := [((2, nx4), .c [int (a : Nat), int (optI o), boolA false]), ((1, nx + 1), .c (recC r)), ((0, nx), .c [int pk, int pn, boolA x32, ruls rs])]) _ _ rfl rfl (List.Sublist.refl _) (List.Sublist.refl _) (BxLe.refl _) trivial ⟨AVle.refl _, AVle.refl _, AVle.refl _, AVle.refl _, AVle.refl _, le_str (h2), trivial⟩⟩
        · refine stp ?_
          intro c t1; cases c
          · refine stp ?_
            exact ⟨_, trivial, ele_tell (pm := []) (bx := [((2, nx4), .c [int (a : Nat), int (optI o), boolA true]), ((1, nx + 1), .c (recC r)), ((0, nx), .c [int pk, int pn, boolA x32, ruls rs])]) _ _ rfl rfl (List.Sublist.refl _) (List.Sublist.refl _) (BxLe.refl _) trivial ⟨AVle.refl _, AVle.refl _, AVle.refl _, AVle.refl _, AVle.refl _, le_str (h2), trivial⟩⟩
          · exact absurd t1 (by rw [hnum]; decide)
        · refine stp ?_
          intro c t1; cases c
          · exact absurd t1 (by rw [hnum]; decide)
          · refine stp ?_
            refine ⟨cat_of 1000040 20 hms (by decide) (by decide), ?_⟩
            refine stp ?_
            exact ⟨_, trivial, ele_tell (pm := []) (bx := [((2, nx4), .c [int (a : Nat), int (optI o), boolA true]), ((1, nx + 1), .c (recC r)), ((0, nx), .c [int pk, int pn, boolA x32, ruls rs])]) _ _ rfl rfl (List.Sublist.refl _) (List.Sublist.refl _) (BxLe.refl _) trivial ⟨AVle.refl _, AVle.refl _, AVle.refl _, AVle.refl _, AVle.refl _, le_str ((congrArg (· ++ muxw 2) (app_nil R1)).trans h2), trivial⟩⟩
      · intro nx7 _
        generalize hT2 : txt2 ⟨true, (a : Nat), nmO l o, (m : Nat), ou, ru, kb k + n⟩ = T2 at h2s
        refine aw_seq ?_
        refine aw_region ?_
        refine stpR ?_
        refine aop_tells rfl rfl hrl ⟨AVle.refl _, AVle.refl _, AVle.refl _, trivial⟩ fun nx8 => ?_
        (conv => whnf)
        refine aw_seq ?_
        refine aw_mid (fun nx' : Nat => mk 90 [(1, trows l), (4, .bp (0, nx) 0), (6, .bp (1, nx + 1) 0), (9, strA (colB ++ T)), (10, .bp (2, nx4) 0), (11, strA (txt3 ⟨true, (a : Nat), nmO l o, (m : Nat), ou, ru, kb k + n⟩))] ⟨[((2, nx4), .c [int (a : Nat), int (optI o), boolA mx]), ((1, nx + 1), .c (recC r)), ((0, nx), .c [int pk, int pn, boolA x32, ruls rs])], [], nx', 3⟩) (fun _ => True) ?_ ?_
        · cases x32 <;> rcases (by omega : (a : Int) = 1 ∨ ¬ (a : Int) = 1) with h1 | h1
          · obtain rfl : ou = true := by rw [hou, decide_eq_true h1]; rfl
            refine stp ?_
            intro c t1; cases c
            · exact absurd h1 (of_eq1 t1)
            · refine stp ?_
              refine ⟨cat_of 1000060 4 h2s (by decide) (by decide), ?_⟩
              refine stp ?_
              exact ⟨_, trivial, ele_tell (pm := []) (bx := [((2, nx4), .c [int (a : Nat), int (optI o), boolA mx]), ((1, nx + 1), .c (recC r)), ((0, nx), .c [int pk, int pn, boolA false, ruls rs])]) _ _ rfl rfl (List.Sublist.refl _) (List.Sublist.refl _) (BxLe.refl _) trivial ⟨AVle.refl _, AVle.refl _, AVle.refl _, AVle.refl _, AVle.refl _, le_str (by unfold txt3; rw [hT2]; rfl), trivial⟩⟩
          · obtain rfl : ou = false := by rw [hou, decide_eq_false h1]; rfl
            refine stp ?_
            intro c t1; cases c
            · refine stp ?_
              rcases (by omega : ru = -1 ∨ 0 ≤ ru) with rfl | hr0
              · refine stp ?_
                refine ⟨cat_of 1000060 8 h2s (by decide) (by decide), ?_⟩
                refine stp ?_
                exact ⟨_, trivial, ele_tell (pm := []) (bx := [((2, nx4), .c [int (a : Nat), int (optI o), boolA mx]), ((1, nx + 1), .c (recC r)), ((0, nx), .c [int pk, int pn, boolA false, ruls rs])]) _ _ rfl rfl (List.Sublist.refl _) (List.Sublist.refl _) (BxLe.refl _) trivial ⟨AVle.refl _, AVle.refl _, AVle.refl _, AVle.refl _, AVle.refl _, le_str (by unfold txt3; rw [hT2]; rfl), trivial⟩⟩
              · obtain ⟨j, rfl⟩ := Int.eq_ofNat_of_zero_le hr0
                have hdd := digits_spec j (by omega)
                have hd := decB_size (n := j) (by omega)
                refine stp ?_
                refine aop_tells rfl rfl hdd ⟨AVle.refl _, trivial⟩ fun nx9 => ?_
                refine stp ?_
                refine ⟨cat_of 6 20 (by decide) hd (by decide), ?_⟩
                refine stp ?_
                refine ⟨cat_of 1000060 26 h2s (cat_sz 6 20 (by decide) hd) (by decide), ?_⟩
                refine stp ?_
                exact ⟨_, trivial, ele_tell (pm := []) (bx := [((2, nx4), .c [int (a : Nat), int (optI o), boolA mx]), ((1, nx + 1), .c (recC r)), ((0, nx), .c [int pk, int pn, boolA false, ruls rs])]) _ _ rfl rfl (List.Sublist.refl _) (List.Sublist.refl _) (BxLe.refl _) trivial ⟨AVle.refl _, AVle.refl _, AVle.refl _, AVle.refl _, AVle.refl _, le_str (by unfold txt3; rw [hT2]; rfl), trivial⟩⟩
            · exact absurd (of_eq1' t1) h1
          · obtain rfl : ou = false := by rw [hou, Bool.not_true, Bool.and_false]
            refine stp ?_
            intro c t1; cases c
            · refine stp ?_
              rcases (by omega : ru = -1 ∨ 0 ≤ ru) with rfl | hr0
              · refine stp ?_
                refine ⟨cat_of 1000060 8 h2s (by decide) (by decide), ?_⟩
                refine stp ?_
                exact ⟨_, trivial, ele_tell (pm := []) (bx := [((2, nx4), .c [int (a : Nat), int (optI o), boolA mx]), ((1, nx + 1), .c (recC r)), ((0, nx), .c [int pk, int pn, boolA true, ruls rs])]) _ _ rfl rfl (List.Sublist.refl _) (List.Sublist.refl _) (BxLe.refl _) trivial ⟨AVle.refl _, AVle.refl _, AVle.refl _, AVle.refl _, AVle.refl _, le_str (by unfold txt3; rw [hT2]; rfl), trivial⟩⟩
              · obtain ⟨j, rfl⟩ := Int.eq_ofNat_of_zero_le hr0
                have hdd := digits_spec j (by omega)
                have hd := decB_size (n := j) (by omega)
                refine stp ?_
                refine aop_tells rfl rfl hdd ⟨AVle.refl _, trivial⟩ fun nx9 => ?_
                refine stp ?_
                refine ⟨cat_of 6 20 (by decide) hd (by decide), ?_⟩
                refine stp ?_
                refine ⟨cat_of 1000060 26 h2s (cat_sz 6 20 (by decide) hd) (by decide), ?_⟩
                refine stp ?_
                exact ⟨_, trivial, ele_tell (pm := []) (bx := [((2, nx4), .c [int (a : Nat), int (optI o), boolA mx]), ((1, nx + 1), .c (recC r)), ((0, nx), .c [int pk, int pn, boolA true, ruls rs])]) _ _ rfl rfl (List.Sublist.refl _) (List.Sublist.refl _) (BxLe.refl _) trivial ⟨AVle.refl _, AVle.refl _, AVle.refl _, AVle.refl _, AVle.refl _, le_str (by unfold txt3; rw [hT2]; rfl), trivial⟩⟩
            · refine stp ?_
              rcases (by omega : ru = -1 ∨ 0 ≤ ru) with rfl | hr0
              · refine stp ?_
                refine ⟨cat_of 1000060 8 h2s (by decide) (by decide), ?_⟩
                refine stp ?_
                exact ⟨_, trivial, ele_tell (pm := []) (bx := [((2, nx4), .c [int (a : Nat), int (optI o), boolA mx]), ((1, nx + 1), .c (recC r)), ((0, nx), .c [int pk, int pn, boolA true, ruls rs])]) _ _ rfl rfl (List.Sublist.refl _) (List.Sublist.refl _) (BxLe.refl _) trivial ⟨AVle.refl _, AVle.refl _, AVle.refl _, AVle.refl _, AVle.refl _, le_str (by unfold txt3; rw [hT2]; rfl), trivial⟩⟩
              · obtain ⟨j, rfl⟩ := Int.eq_ofNat_of_zero_le hr0
                have hdd := digits_spec j (by omega)
                have hd := decB_size (n := j) (by omega)
                refine stp ?_
                refine aop_tells rfl rfl hdd ⟨AVle.refl _, trivial⟩ fun nx9 => ?_
                refine stp ?_
                refine ⟨cat_of 6 20 (by decide) hd (by decide), ?_⟩
                refine stp ?_
                refine ⟨cat_of 1000060 26 h2s (cat_sz 6 20 (by decide) hd) (by decide), ?_⟩
                refine stp ?_
                exact ⟨_, trivial, ele_tell (pm := []) (bx := [((2, nx4), .c [int (a : Nat), int (optI o), boolA mx]), ((1, nx + 1), .c (recC r)), ((0, nx), .c [int pk, int pn, boolA true, ruls rs])]) _ _ rfl rfl (List.Sublist.refl _) (List.Sublist.refl _) (BxLe.refl _) trivial ⟨AVle.refl _, AVle.refl _, AVle.refl _, AVle.refl _, AVle.refl _, le_str (by unfold txt3; rw [hT2]; rfl), trivial⟩⟩
          · obtain rfl : ou = false := by rw [hou, Bool.not_true, Bool.and_false]
            refine stp ?_
            intro c t1; cases c
            · refine stp ?_
              rcases (by omega : ru = -1 ∨ 0 ≤ ru) with rfl | hr0
              · refine stp ?_
                refine ⟨cat_of 1000060 8 h2s (by decide) (by decide), ?_⟩
                refine stp ?_
                exact ⟨_, trivial, ele_tell (pm := []) (bx := [((2, nx4), .c [int (a : Nat), int (optI o), boolA mx]), ((1, nx + 1), .c (recC r)), ((0, nx), .c [int pk, int pn, boolA true, ruls rs])]) _ _ rfl rfl (List.Sublist.refl _) (List.Sublist.refl _) (BxLe.refl _) trivial ⟨AVle.refl _, AVle.refl _, AVle.refl _, AVle.refl _, AVle.refl _, le_str (by unfold txt3; rw [hT2]; rfl), trivial⟩⟩
              · obtain ⟨j, rfl⟩ := Int.eq_ofNat_of_zero_le hr0
                have hdd := digits_spec j (by omega)
                have hd := decB_size (n := j) (by omega)
                refine stp ?_
                refine aop_tells rfl rfl hdd ⟨AVle.refl _, trivial⟩ fun nx9 => ?_
                refine stp ?_
                refine ⟨cat_of 6 20 (by decide) hd (by decide), ?_⟩
                refine stp ?_
                refine ⟨cat_of 1000060 26 h2s (cat_sz 6 20 (by decide) hd) (by decide), ?_⟩
                refine stp ?_
                exact ⟨_, trivial, ele_tell (pm := []) (bx := [((2, nx4), .c [int (a : Nat), int (optI o), boolA mx]), ((1, nx + 1), .c (recC r)), ((0, nx), .c [int pk, int pn, boolA true, ruls rs])]) _ _ rfl rfl (List.Sublist.refl _) (List.Sublist.refl _) (BxLe.refl _) trivial ⟨AVle.refl _, AVle.refl _, AVle.refl _, AVle.refl _, AVle.refl _, le_str (by unfold txt3; rw [hT2]; rfl), trivial⟩⟩
            · refine stp ?_
              rcases (by omega : ru = -1 ∨ 0 ≤ ru) with rfl | hr0
              · refine stp ?_
                refine ⟨cat_of 1000060 8 h2s (by decide) (by decide), ?_⟩
                refine stp ?_
                exact ⟨_, trivial, ele_tell (pm := []) (bx := [((2, nx4), .c [int (a : Nat), int (optI o), boolA mx]), ((1, nx + 1), .c (recC r)), ((0, nx), .c [int pk, int pn, boolA true, ruls rs])]) _ _ rfl rfl (List.Sublist.refl _) (List.Sublist.refl _) (BxLe.refl _) trivial ⟨AVle.refl _, AVle.refl _, AVle.refl _, AVle.refl _, AVle.refl _, le_str (by unfold txt3; rw [hT2]; rfl), trivial⟩⟩
              · obtain ⟨j, rfl⟩ := Int.eq_ofNat_of_zero_le hr0
                have hdd := digits_spec j (by omega)
                have hd := decB_size (n := j) (by omega)
                refine stp ?_
                refine aop_tells rfl rfl hdd ⟨AVle.refl _, trivial⟩ fun nx9 => ?_
                refine stp ?_
                refine ⟨cat_of 6 20 (by decide) hd (by decide), ?_⟩
                refine stp ?_
                refine ⟨cat_of 1000060 26 h2s (cat_sz 6 20 (by decide) hd) (by decide), ?_⟩
                refine stp ?_
                exact ⟨_, trivial, ele_tell (pm := []) (bx := [((2, nx4), .c [int (a : Nat), int (optI o), boolA mx]), ((1, nx + 1), .c (recC r)), ((0, nx), .c [int pk, int pn, boolA true, ruls rs])]) _ _ rfl rfl (List.Sublist.refl _) (List.Sublist.refl _) (BxLe.refl _) trivial ⟨AVle.refl _, AVle.refl _, AVle.refl _, AVle.refl _, AVle.refl _, le_str (by unfold txt3; rw [hT2]; rfl), trivial⟩⟩
        · intro nx9 _
          have h3s : (txt3 ⟨true, (a : Nat), nmO l o, (m : Nat), ou, ru, kb k + n⟩).size ≤ 1000200 := by
            unfold txt3
            dsimp only
            rw [hT2]
            have hd := decB_size (n := ru.toNat) (by omega)
            split
            · exact Nat.le_trans (cat_sz 1000100 4 (Nat.le_trans h2s (by decide)) (by decide)) (by decide)
            · split
              · exact Nat.le_trans (cat_sz 1000100 8 (Nat.le_trans h2s (by decide)) (by decide)) (by decide)
              · exact Nat.le_trans (cat_sz 1000100 26 (Nat.le_trans h2s (by decide)) (cat_sz 6 20 (by decide) hd)) (by decide)
          generalize hT3 : txt3 ⟨true, (a : Nat), nmO l o, (m : Nat), ou, ru, kb k + n⟩ = T3 at h3s
          refine stp ?_
          refine ⟨cat_of 1000200 42 h3s (cat_sz 2 40 (by decide) hts) (by decide), ?_⟩
          refine stp ?_
          exact ret_tells rfl (le_str (if_pos rfl).symm)
end Go.Proofs.W

namespace Go.Proofs.W
open Go.Vl
set_option maxRecDepth 100000

theorem find_cong {α : Type} {p q : α → Bool} : ∀ {l : List α}, (∀ x ∈ l, p x = q x) → l.find? p = l.find? q
  | [], _ => rfl
  | x :: l, h => by
    rw [List.find?_cons, List.find?_cons, h x (.head _), find_cong fun y hy => h y (.tail _ hy)]
theorem hB_hR {x y : Nat → Nat} {a : Int} {c : Cnd} (hc : rightC c = true) (hxy : ∀ i, x i = seenA a (y i)) : hB x c = hR a y c := by
  obtain ⟨h1, h2, _⟩ := rightC_iff.1 hc
  unfold hB hR
  rw [hc, Bool.true_and]
  obtain ⟨arg, op, mask, value⟩ := c
  dsimp only at h1 h2 ⊢
  obtain rfl | rfl | rfl | rfl | rfl | rfl : arg = 0 ∨ arg = 1 ∨ arg = 2 ∨ arg = 3 ∨ arg = 4 ∨ arg = 5 := by omega
  · rw [← hxy]; rfl
  · rw [← hxy]; rfl
  · rw [← hxy]; rfl
  · rw [← hxy]; rfl
  · rw [← hxy]; rfl
  · rw [← hxy]; rfl
theorem dec_eq {p : Pol} (h : ∀ r ∈ p.rules, ∀ c ∈ r.conds, rightC c = true) (nm : ByteArray) {x y : Nat → Nat} {a : Int} (hxy : ∀ i, x i = seenA a (y i)) : decP p nm x = decR p nm a y := by
  have e : p.rules.find? (fun r => kS r.name nm && letB x r) = p.rules.find? (fun r => kS r.name nm && r.conds.all (hR a y)) := find_cong fun r hr => by
    show (kS r.name nm && r.conds.all (hB x)) = (kS r.name nm && r.conds.all (hR a y))
    refine congrArg (kS r.name nm && ·) ?_
    rw [Bool.eq_iff_iff, List.all_eq_true, List.all_eq_true]
    exact ⟨fun k c hc => by rw [← hB_hR (h r hr c hc) hxy]; exact k c hc, fun k c hc => by rw [hB_hR (h r hr c hc) hxy]; exact k c hc⟩
  unfold decP decR
  rw [e]
  cases p.rules.find? (fun r => kS r.name nm && r.conds.all (hR a y)) <;> rfl
theorem ofI_eq (l : List TRow) (r : Rec) : (selI r.arch r.num < 0 ∧ (ofI l r).some = false) ∨ (0 ≤ selI r.arch r.num ∧ ofI l r = ⟨true, selI r.arch r.num, nameO l (atO l r), muxB r⟩) := by
  unfold ofI selI atO muxB
  cases hs : selO r.arch r.num with
  | none => exact .inl ⟨by decide, rfl⟩
  | some a =>
    refine .inr ⟨Int.natCast_nonneg _, ?_⟩
    dsimp only
    split
    · rename_i h; rw [decide_eq_true h]
    · rename_i h; rw [decide_eq_false h]
/-- A policy judges as it is defined. -/
theorem judge_eq {p : Pol} {l : List TRow} {r : Rec} (hp : rightP p = true) (hl : (tabR l).2 = 0) : codeA (actionP p l r) = judgeQ p l r := by
  unfold actionP judgeQ actionR
  rcases ofI_eq l r with ⟨h1, h2⟩ | ⟨h1, h2⟩
  · rw [h2, if_pos (by rfl), if_pos (by rw [decide_eq_true h1]; rfl)]
    rfl
  · rw [h2]
    dsimp only
    rw [show decide (selI r.arch r.num < 0) = false from decide_eq_false (by omega)]
    by_cases hx : (decide (selI r.arch r.num = 1) && !p.x32) = true
    · rw [if_pos (show (!true || (decide (selI r.arch r.num = 1) && !p.x32)) = true by rw [hx]; rfl), if_pos (show (false || (decide (selI r.arch r.num = 1) && !p.x32)) = true by rw [hx]; rfl)]; rfl
    · rw [Bool.not_eq_true] at hx
      rw [if_neg (show ¬ (!true || (decide (selI r.arch r.num = 1) && !p.x32)) = true by rw [hx]; decide), if_neg (show ¬ (false || (decide (selI r.arch r.num = 1) && !p.x32)) = true by rw [hx]; decide)]
      congr 1
      cases hat : atO l r with
      | none => rw [if_pos (show (nameO l none).size = 0 from rfl)]; rfl
      | some i =>
        have hn := tab_name hl (atO_lt hat)
        rw [if_neg (show ¬ (nameO l (some i)).size = 0 from hn)]
        show _ = if muxB r = true then _ else _
        split
        · rfl
        · refine dec_eq (conds_right hp) _ fun k => ?_
          unfold argI seenA
          by_cases q : selI r.arch r.num = 2
          · rw [if_pos q, if_pos (by rw [q]; rfl)]
          · rw [if_neg q, if_neg (by omega)]
end Go.Proofs.W

namespace Go.Proofs.W
open Go.Vl
set_option maxRecDepth 100000

def recW (num arch : Nat) : Rec := ⟨num, arch, 0, 0, 0, 0, 0, 0, 0⟩
theorem pAw_ok : polOk pAw := by
  refine ⟨by decide, fun r hr => ?_⟩
  rw [List.mem_singleton.1 hr]
  exact ⟨by decide, fun c hc => by cases hc⟩
theorem pAw_ok2 : pAw.ok := by
  refine ⟨by decide, fun r hr => ?_⟩
  rw [List.mem_singleton.1 hr]
  exact ⟨by decide, by decide, fun c hc => by cases hc⟩
end Go.Proofs.W

namespace Go.Proofs.W
open Go.Vl
set_option maxRecDepth 100000

theorem recW_ok {num arch : Nat} (h1 : num < 4294967296) (h2 : arch < 4294967296) : (recW num arch).ok := by unfold recW Rec.ok; exact ⟨h1, h2, Nat.zero_lt_succ _, Nat.zero_lt_succ _, Nat.zero_lt_succ _, Nat.zero_lt_succ _, Nat.zero_lt_succ _, Nat.zero_lt_succ _, Nat.zero_lt_succ _⟩
end Go.Proofs.W

namespace Go.Proofs.W
open Go.Vl
set_option maxRecDepth 100000

theorem noid_rul23 (r : Rul) : NoId (.ag [strA r.name, int r.act.1, int r.act.2, cnds r.conds]) := NoId.ag (by
  intro y hy
  simp only [List.mem_cons, List.not_mem_nil, or_false] at hy
  rcases hy with rfl | rfl | rfl | rfl
  · exact NoId.v _
  · exact NoId.v _
  · exact NoId.v _
  · refine NoId.sl fun i hi c hc => ?_
    simp only [cndA, AV.cells, List.mem_cons, List.not_mem_nil, or_false] at hc
    rcases hc with rfl | rfl | rfl | rfl <;> exact NoId.v _)
theorem bytes_cnd_l23 : Tryz.prog.bytesOf 159 = 32 := by kernel_rfl
theorem bytes_rul_l23 : Tryz.prog.bytesOf 85 = 56 := by kernel_rfl
theorem conds_l23 (c : Cnd) : Tells Tryz.prog 112 [cndA c] (cndA c) := by
  refine tells_of_aw Tryz.func112 rfl rfl fun nx => ?_
  refine stp ?_
  exact ret_tells_all rfl ⟨rfl, trivial⟩ (AVle.refl _)

set_option maxHeartbeats 1000000 in
theorem rule_l23 (nm : ByteArray) (k n : Int) (cs : List Cnd) (hl : cs.length ≤ 1000000) : Tells Tryz.prog 69 [.ag [strA nm, int k, int n, cnds cs]] (.ag [strA nm, int k, int n, cnds cs]) := by
  refine tells_of_aw Tryz.func69 rfl rfl fun nx => ?_
  refine stp ?_
  refine aw_loop (fun s : Nat × Option Nat × Nat => mk 34 [(1, .bp (0, nx) 0), (2, .bp (1, nx + 1) 0), (3, .bp (2, nx + 2) 0), (4, int s.1)] ⟨[((2, nx + 2), .c [strA nm, int k, int n, .os 4 s.1 (fun j => cndA (cs.getD j cnd0)) (nmd s.2.1)]), ((1, nx + 1), .c [strA ⟨#[]⟩, int 0, int 0, .os 0 0 (fun _ => .any) none]), ((0, nx), .c [strA nm, int k, int n, cnds cs])], pmOf (nmd s.2.1) (s.1 * 4), s.2.2, 3⟩) (fun s => s.1 ≤ cs.length ∧ (s.2.1 = none → s.1 = 0)) (fun s => cs.length - s.1) ?_ ?_
  · exact ⟨(0, none, nx + 3), ⟨Nat.zero_le _, fun _ => rfl⟩, ele_tell (pm := []) _ [] rfl rfl (List.Sublist.refl _) (List.Sublist.refl _) ⟨rfl, ⟨AVle.refl _, AVle.refl _, AVle.refl _, AVle.os_nil, trivial⟩, rfl, OwnLe.refl _, rfl, OwnLe.refl _, trivial⟩ trivial ⟨AVle.refl _, AVle.refl _, AVle.refl _, AVle.refl _, trivial⟩⟩
  · rintro ⟨i, oi, nx2⟩ ⟨h3, h4⟩
    dsimp only at h3 h4
    refine stp ?_
    intro c h5; cases c
    · have h6 := not_of h5
      dsimp only at h6
      obtain rfl : i = cs.length := by omega
      refine stp ?_
      exact ret_tells_all rfl ⟨rfl, trivial⟩ (AVle.ags ⟨AVle.refl _, AVle.refl _, AVle.refl _, AVle.os_sl, trivial⟩)
    · have h6 := yes_of h5
      dsimp only at h6
      have hi : i < cs.length := by omega
      have hcall := conds_l23 (cs.getD i cnd0)
      refine stp ?_
      refine aw_mixN 11 [((2, nx + 2), .c [strA nm, int k, int n, .os 4 i (fun j => cndA (cs.getD j cnd0)) (nmd oi)]), ((1, nx + 1), .c [strA ⟨#[]⟩, int 0, int 0, .os 0 0 (fun _ => .any) none]), ((0, nx), .c [strA nm, int k, int n, cnds cs])] (fun i => match i with | 9 => true | _ => false) (fun i => match i with | 7 => true | _ => false) [0, 1, 2, 3, 4, 5, 6, 7, 8, 9, 10] (by kernel_rfl) (by kernel_rfl) (HB.refl _) ?_
      refine stp ?_
      refine ⟨⟨by dsimp only; omega, by dsimp only; omega⟩, ?_⟩
      refine stp ?_
      refine ⟨_, pure_tells rfl rfl rfl hcall ⟨AVle.refl _, trivial⟩ (noid_cndA _), ?_⟩
      refine stp ?_
      rcases oi with _ | id
      · obtain rfl := h4 rfl
        refine ⟨_, eff_append1 (e := 159) (c := 4) (pm := []) (n := 0) (oi := none) (sz := 4) (f := fun j => cndA (cs.getD j cnd0)) (HB.refl _) rfl rfl rfl (.inr ⟨_, rfl⟩) (by kernel_rfl) (by kernel_rfl) (by kernel_rfl) (.inr rfl) (by kernel_rfl) (List.append_nil _).symm (oneRow_one rfl) (by rw [bytes_cnd_l23]; omega) (by omega), fun r h' hr => ?_⟩
        obtain ⟨rfl, rfl⟩ := hr
        refine stp ?_
        refine back (0 + 1, some nx2, nx2 + 1) ⟨by dsimp only; omega, (fun h => by cases h)⟩ (by dsimp only; omega) (ele_tell (pm := [((0, nx2), (0 + 1) * 4)]) _ _ rfl rfl (List.Sublist.refl _) (List.Sublist.refl _) ⟨rfl, ⟨AVle.refl _, AVle.refl _, AVle.refl _, (AVle.os_fun (appF_one (fun k h => absurd h (Nat.not_lt_zero k)) ?_)).trans (AVle.os_nm rfl), trivial⟩, rfl, OwnLe.refl _, rfl, OwnLe.refl _, trivial⟩ ⟨rfl, rfl, trivial⟩ ⟨AVle.refl _, AVle.refl _, AVle.refl _, le_int (wrap_succ (by dsimp only; omega)), trivial⟩)
        rfl
      · refine ⟨_, eff_append1 (e := 159) (c := 4) (pm := []) (n := i) (oi := some (0, id)) (sz := 4) (f := fun j => cndA (cs.getD j cnd0)) (HB.refl _) rfl rfl rfl (.inr ⟨_, rfl⟩) (by kernel_rfl) (by kernel_rfl) (by kernel_rfl) (.inr rfl) (by kernel_rfl) (List.append_nil _).symm (oneRow_one rfl) (by rw [bytes_cnd_l23]; omega) (by omega), fun r h' hr => ?_⟩
        obtain ⟨rfl, rfl⟩ := hr
        refine stp ?_
        refine back (i + 1, some nx2, nx2 + 1) ⟨by dsimp only; omega, (fun h => by cases h)⟩ (by dsimp only; omega) (ele_tell (pm := [((0, nx2), (i + 1) * 4)]) _ _ rfl rfl (List.Sublist.refl _) (List.Sublist.refl _) ⟨rfl, ⟨AVle.refl _, AVle.refl _, AVle.refl _, (AVle.os_fun (appF_one (fun k hk => rfl) ?_)).trans (AVle.os_nm rfl), trivial⟩, rfl, OwnLe.refl _, rfl, OwnLe.refl _, trivial⟩ ⟨rfl, rfl, trivial⟩ ⟨AVle.refl _, AVle.refl _, AVle.refl _, le_int (wrap_succ (by dsimp only; omega)), trivial⟩)
        rfl

set_option maxHeartbeats 1000000 in
theorem oft_l23 (k n : Int) (rs : List Rul) (hl : rs.length ≤ 1000000) (hc : ∀ r ∈ rs, r.conds.length ≤ 1000000) : Tells Tryz.prog 29 [.ag [int k, int n, boolA true, ruls rs]] (.ag [int k, int n, boolA true, ruls rs]) := by
  refine tells_of_aw Tryz.func29 rfl rfl fun nx => ?_
  refine stp ?_
  refine aw_loop (fun s : Nat × Option Nat × Nat => mk 34 [(1, .bp (0, nx) 0), (2, .bp (1, nx + 1) 0), (3, .bp (2, nx + 2) 0), (4, int s.1)] ⟨[((2, nx + 2), .c [int k, int n, boolA true, .os 4 s.1 (fun j => rulA (rs.getD j rul0)) (nmd s.2.1)]), ((1, nx + 1), .c [int 0, int 0, boolA false, .os 0 0 (fun _ => .any) none]), ((0, nx), .c [int k, int n, boolA true, ruls rs])], pmOf (nmd s.2.1) (s.1 * 4), s.2.2, 3⟩) (fun s => s.1 ≤ rs.length ∧ (s.2.1 = none → s.1 = 0)) (fun s => rs.length - s.1) ?_ ?_
  · exact ⟨(0, none, nx + 3), ⟨Nat.zero_le _, fun _ => rfl⟩, ele_tell (pm := []) _ [] rfl rfl (List.Sublist.refl _) (List.Sublist.refl _) ⟨rfl, ⟨AVle.refl _, AVle.refl _, AVle.refl _, AVle.os_nil, trivial⟩, rfl, OwnLe.refl _, rfl, OwnLe.refl _, trivial⟩ trivial ⟨AVle.refl _, AVle.refl _, AVle.refl _, AVle.refl _, trivial⟩⟩
  · rintro ⟨i, oi, nx2⟩ ⟨h3, h4⟩
    dsimp only at h3 h4
    refine stp ?_
    intro c h5; cases c
    · have h6 := not_of h5
      dsimp only at h6
      obtain rfl : i = rs.length := by omega
      refine stp ?_
      exact ret_tells_all rfl ⟨rfl, trivial⟩ (AVle.ags ⟨AVle.refl _, AVle.refl _, AVle.refl _, AVle.os_sl, trivial⟩)
    · have h6 := yes_of h5
      dsimp only at h6
      have hi : i < rs.length := by omega
      have hcall := rule_l23 (rs.getD i rul0).name (rs.getD i rul0).act.1 (rs.getD i rul0).act.2 (rs.getD i rul0).conds (hc _ (by simp [List.getD, hi]))
      refine stp ?_
      refine aw_mixN 11 [((2, nx + 2), .c [int k, int n, boolA true, .os 4 i (fun j => rulA (rs.getD j rul0)) (nmd oi)]), ((1, nx + 1), .c [int 0, int 0, boolA false, .os 0 0 (fun _ => .any) none]), ((0, nx), .c [int k, int n, boolA true, ruls rs])] (fun i => match i with | 9 => true | _ => false) (fun i => match i with | 7 => true | _ => false) [0, 1, 2, 3, 4, 5, 6, 7, 8, 9, 10] (by kernel_rfl) (by kernel_rfl) (HB.refl _) ?_
      refine stp ?_
      refine ⟨⟨by dsimp only; omega, by dsimp only; omega⟩, ?_⟩
      refine stp ?_
      refine ⟨_, pure_tells rfl rfl rfl hcall ⟨AVle.refl _, trivial⟩ (noid_rul23 (rs.getD i rul0)), ?_⟩
      refine stp ?_
      rcases oi with _ | id
      · obtain rfl := h4 rfl
        refine ⟨_, eff_append1 (e := 85) (c := 4) (pm := []) (n := 0) (oi := none) (sz := 4) (f := fun j => rulA (rs.getD j rul0)) (HB.refl _) rfl rfl rfl (.inr ⟨_, rfl⟩) (by kernel_rfl) (by kernel_rfl) (by kernel_rfl) (.inr rfl) (by kernel_rfl) (List.append_nil _).symm (oneRow_one rfl) (by rw [bytes_rul_l23]; omega) (by omega), fun r h' hr => ?_⟩
        obtain ⟨rfl, rfl⟩ := hr
        refine stp ?_
        refine back (0 + 1, some nx2, nx2 + 1) ⟨by dsimp only; omega, (fun h => by cases h)⟩ (by dsimp only; omega) (ele_tell (pm := [((0, nx2), (0 + 1) * 4)]) _ _ rfl rfl (List.Sublist.refl _) (List.Sublist.refl _) ⟨rfl, ⟨AVle.refl _, AVle.refl _, AVle.refl _, (AVle.os_fun (appF_one (fun k h => absurd h (Nat.not_lt_zero k)) ?_)).trans (AVle.os_nm rfl), trivial⟩, rfl, OwnLe.refl _, rfl, OwnLe.refl _, trivial⟩ ⟨rfl, rfl, trivial⟩ ⟨AVle.refl _, AVle.refl _, AVle.refl _, le_int (wrap_succ (by dsimp only; omega)), trivial⟩)
        rfl
      · refine ⟨_, eff_append1 (e := 85) (c := 4) (pm := []) (n := i) (oi := some (0, id)) (sz := 4) (f := fun j => rulA (rs.getD j rul0)) (HB.refl _) rfl rfl rfl (.inr ⟨_, rfl⟩) (by kernel_rfl) (by kernel_rfl) (by kernel_rfl) (.inr rfl) (by kernel_rfl) (List.append_nil _).symm (oneRow_one rfl) (by rw [bytes_rul_l23]; omega) (by omega), fun r h' hr => ?_⟩
        obtain ⟨rfl, rfl⟩ := hr
        refine stp ?_
        refine back (i + 1, some nx2, nx2 + 1) ⟨by dsimp only; omega, (fun h => by cases h)⟩ (by dsimp only; omega) (ele_tell (pm := [((0, nx2), (i + 1) * 4)]) _ _ rfl rfl (List.Sublist.refl _) (List.Sublist.refl _) ⟨rfl, ⟨AVle.refl _, AVle.refl _, AVle.refl _, (AVle.os_fun (appF_one (fun k hk => rfl) ?_)).trans (AVle.os_nm rfl), trivial⟩, rfl, OwnLe.refl _, rfl, OwnLe.refl _, trivial⟩ ⟨rfl, rfl, trivial⟩ ⟨AVle.refl _, AVle.refl _, AVle.refl _, le_int (wrap_succ (by dsimp only; omega)), trivial⟩)
        rfl

set_option maxHeartbeats 1000000 in
theorem off_l23 (k n : Int) (rs : List Rul) (hl : rs.length ≤ 1000000) (hc : ∀ r ∈ rs, r.conds.length ≤ 1000000) : Tells Tryz.prog 29 [.ag [int k, int n, boolA false, ruls rs]] (.ag [int k, int n, boolA false, ruls rs]) := by
  refine tells_of_aw Tryz.func29 rfl rfl fun nx => ?_
  refine stp ?_
  refine aw_loop (fun s : Nat × Option Nat × Nat => mk 34 [(1, .bp (0, nx) 0), (2, .bp (1, nx + 1) 0), (3, .bp (2, nx + 2) 0), (4, int s.1)] ⟨[((2, nx + 2), .c [int k, int n, boolA false, .os 4 s.1 (fun j => rulA (rs.getD j rul0)) (nmd s.2.1)]), ((1, nx + 1), .c [int 0, int 0, boolA false, .os 0 0 (fun _ => .any) none]), ((0, nx), .c [int k, int n, boolA false, ruls rs])], pmOf (nmd s.2.1) (s.1 * 4), s.2.2, 3⟩) (fun s => s.1 ≤ rs.length ∧ (s.2.1 = none → s.1 = 0)) (fun s => rs.length - s.1) ?_ ?_
  · exact ⟨(0, none, nx + 3), ⟨Nat.zero_le _, fun _ => rfl⟩, ele_tell (pm := []) _ [] rfl rfl (List.Sublist.refl _) (List.Sublist.refl _) ⟨rfl, ⟨AVle.refl _, AVle.refl _, AVle.refl _, AVle.os_nil, trivial⟩, rfl, OwnLe.refl _, rfl, OwnLe.refl _, trivial⟩ trivial ⟨AVle.refl _, AVle.refl _, AVle.refl _, AVle.refl _, trivial⟩⟩
  · rintro ⟨i, oi, nx2⟩ ⟨h3, h4⟩
    dsimp only at h3 h4
    refine stp ?_
    intro c h5; cases c
    · have h6 := not_of h5
      dsimp only at h6
      obtain rfl : i = rs.length := by omega
      refine stp ?_
      exact ret_tells_all rfl ⟨rfl, trivial⟩ (AVle.ags ⟨AVle.refl _, AVle.refl _, AVle.refl _, AVle.os_sl, trivial⟩)
    · have h6 := yes_of h5
      dsimp only at h6
      have hi : i < rs.length := by omega
      have hcall := rule_l23 (rs.getD i rul0).name (rs.getD i rul0).act.1 (rs.getD i rul0).act.2 (rs.getD i rul0).conds (hc _ (by simp [List.getD, hi]))
      refine stp ?_
      refine aw_mixN 11 [((2, nx + 2), .c [int k, int n, boolA false, .os 4 i (fun j => rulA (rs.getD j rul0)) (nmd oi)]), ((1, nx + 1), .c [int 0, int 0, boolA false, .os 0 0 (fun _ => .any) none]), ((0, nx), .c [int k, int n, boolA false, ruls rs])] (fun i => match i with | 9 => true | _ => false) (fun i => match i with | 7 => true | _ => false) [0, 1, 2, 3, 4, 5, 6, 7, 8, 9, 10] (by kernel_rfl) (by kernel_rfl) (HB.refl _) ?_
      refine stp ?_
      refine ⟨⟨by dsimp only; omega, by dsimp only; omega⟩, ?_⟩
      refine stp ?_
      refine ⟨_, pure_tells rfl rfl rfl hcall ⟨AVle.refl _, trivial⟩ (noid_rul23 (rs.getD i rul0)), ?_⟩
      refine stp ?_
      rcases oi with _ | id
      · obtain rfl := h4 rfl
        refine ⟨_, eff_append1 (e := 85) (c := 4) (pm := []) (n := 0) (oi := none) (sz := 4) (f := fun j => rulA (rs.getD j rul0)) (HB.refl _) rfl rfl rfl (.inr ⟨_, rfl⟩) (by kernel_rfl) (by kernel_rfl) (by kernel_rfl) (.inr rfl) (by kernel_rfl) (List.append_nil _).symm (oneRow_one rfl) (by rw [bytes_rul_l23]; omega) (by omega), fun r h' hr => ?_⟩
        obtain ⟨rfl, rfl⟩ := hr
        refine stp ?_
        refine back (0 + 1, some nx2, nx2 + 1) ⟨by dsimp only; omega, (fun h => by cases h)⟩ (by dsimp only; omega) (ele_tell (pm := [((0, nx2), (0 + 1) * 4)]) _ _ rfl rfl (List.Sublist.refl _) (List.Sublist.refl _) ⟨rfl, ⟨AVle.refl _, AVle.refl _, AVle.refl _, (AVle.os_fun (appF_one (fun k h => absurd h (Nat.not_lt_zero k)) ?_)).trans (AVle.os_nm rfl), trivial⟩, rfl, OwnLe.refl _, rfl, OwnLe.refl _, trivial⟩ ⟨rfl, rfl, trivial⟩ ⟨AVle.refl _, AVle.refl _, AVle.refl _, le_int (wrap_succ (by dsimp only; omega)), trivial⟩)
        rfl
      · refine ⟨_, eff_append1 (e := 85) (c := 4) (pm := []) (n := i) (oi := some (0, id)) (sz := 4) (f := fun j => rulA (rs.getD j rul0)) (HB.refl _) rfl rfl rfl (.inr ⟨_, rfl⟩) (by kernel_rfl) (by kernel_rfl) (by kernel_rfl) (.inr rfl) (by kernel_rfl) (List.append_nil _).symm (oneRow_one rfl) (by rw [bytes_rul_l23]; omega) (by omega), fun r h' hr => ?_⟩
        obtain ⟨rfl, rfl⟩ := hr
        refine stp ?_
        refine back (i + 1, some nx2, nx2 + 1) ⟨by dsimp only; omega, (fun h => by cases h)⟩ (by dsimp only; omega) (ele_tell (pm := [((0, nx2), (i + 1) * 4)]) _ _ rfl rfl (List.Sublist.refl _) (List.Sublist.refl _) ⟨rfl, ⟨AVle.refl _, AVle.refl _, AVle.refl _, (AVle.os_fun (appF_one (fun k hk => rfl) ?_)).trans (AVle.os_nm rfl), trivial⟩, rfl, OwnLe.refl _, rfl, OwnLe.refl _, trivial⟩ ⟨rfl, rfl, trivial⟩ ⟨AVle.refl _, AVle.refl _, AVle.refl _, le_int (wrap_succ (by dsimp only; omega)), trivial⟩)
        rfl
theorem pol_l23 (p : Pol) (hl : p.rules.length ≤ 1000000) (hc : ∀ r ∈ p.rules, r.conds.length ≤ 1000000) : Tells Tryz.prog 29 [polA p] (polA p) := by
  obtain ⟨⟨k, n⟩, x, rs⟩ := p
  cases x
  · exact off_l23 k n rs hl hc
  · exact oft_l23 k n rs hl hc
end Go.Proofs.W

namespace Go.Proofs.W
open Go.Vl
set_option maxRecDepth 100000

theorem light_l23 (p : Pol) (hl : p.rules.length ≤ maxLen) : Tells Tryz.prog 26 [polA p] (boolA (lightP p)) := by
  obtain ⟨⟨k, n⟩, x, rs⟩ := p
  dsimp only at hl
  refine tells_of_aw Tryz.func26 rfl rfl fun nx => ?_
  refine stp ?_
  intro c g1; cases c
  rotate_left
  · refine stp ?_
    have g1 : ((rs.length : Nat) : Int) > 40 := yes_of g1
    exact ret_tells rfl (le_bool (by show false = (decide (rs.length ≤ 40) && _); rw [decide_eq_false (by omega)]; rfl))
  have g1 : ¬ ((rs.length : Nat) : Int) > 40 := not_of g1
  have h40 : rs.length ≤ 40 := by omega
  refine stp ?_
  refine aw_loop (fun s : Nat × Nat => mk 33 [(1, .bp (0, nx) 0), (3, int s.1)] ⟨[((0, nx), .c [int k, int n, boolA x, ruls rs])], [], s.2, 1⟩) (fun s => s.1 ≤ rs.length ∧ ∀ j, j < s.1 → lightR (rs.getD j rul0) = true) (fun s => rs.length - s.1) ?_ ?_
  · exact ⟨(0, nx + 1), ⟨Nat.zero_le _, fun j h => absurd h (Nat.not_lt_zero _)⟩, ele_tell (pm := []) _ [] rfl rfl (List.Sublist.refl _) (List.Sublist.refl _) ⟨rfl, OwnLe.refl _, trivial⟩ trivial ⟨AVle.refl _, AVle.refl _, trivial⟩⟩
  · rintro ⟨i, nx2⟩ ⟨h3, h4⟩
    dsimp only at h3 h4
    refine stp ?_
    intro c h5; cases c
    · have h6 := not_of h5
      dsimp only at h6
      obtain rfl : i = rs.length := by omega
      refine stp ?_
      refine ret_tells rfl (le_bool ?_)
      show true = (decide (rs.length ≤ 40) && rs.all lightR)
      rw [decide_eq_true h40, Bool.true_and, eq_comm, List.all_eq_true]
      intro r hr
      obtain ⟨j, hj, rfl⟩ := List.getElem_of_mem hr
      have := h4 j hj
      simpa [List.getD, hj] using this
    · have h6 := yes_of h5
      dsimp only at h6
      have hi : i < rs.length := by omega
      have hbad : ∀ b : Bool, lightR (rs.getD i rul0) = false → false = lightP ⟨(k, n), x, rs⟩ := fun b hb => by
        show false = (decide (rs.length ≤ 40) && rs.all lightR)
        rw [decide_eq_true h40, Bool.true_and, eq_comm, List.all_eq_false]
        exact ⟨rs.getD i rul0, by simp [List.getD, hi], by rw [hb]; decide⟩
      refine stp ?_
      refine ⟨⟨by dsimp only; omega, by dsimp only; omega⟩, ?_⟩
      refine stp ?_
      intro c t1; cases c
      · have t1 : ¬ (((rs.getD i rul0).name.size : Nat) : Int) > 60 := not_of t1
        refine stp ?_
        refine ⟨⟨by dsimp only; omega, by dsimp only; omega⟩, ?_⟩
        refine stp ?_
        intro c t2; cases c
        · have t2 : ¬ (((rs.getD i rul0).conds.length : Nat) : Int) > 12 := not_of t2
          refine stp ?_
          refine back (i + 1, nx2) ⟨by dsimp only; omega, fun j hj => ?_⟩ (by dsimp only; omega) (ele_tell (pm := []) _ [] rfl rfl (List.Sublist.refl _) (List.Sublist.refl _) ⟨rfl, OwnLe.refl _, trivial⟩ trivial ⟨AVle.refl _, le_int (wrap_succ (by dsimp only; omega)), trivial⟩)
          dsimp only at hj
          rcases Nat.lt_or_ge j i with h | h
          · exact h4 j h
          · obtain rfl : j = i := by omega
            unfold lightR
            rw [decide_eq_true (by omega), decide_eq_true (by omega)]; rfl
        · have t2 : (((rs.getD i rul0).conds.length : Nat) : Int) > 12 := yes_of t2
          refine stp ?_
          exact ret_tells rfl (le_bool (hbad true (by unfold lightR; rw [decide_eq_false (p := (rs.getD i rul0).conds.length ≤ 12) (by omega), Bool.and_false])))
      · have t1 : (((rs.getD i rul0).name.size : Nat) : Int) > 60 := yes_of t1
        refine stp ?_
        exact ret_tells rfl (le_bool (hbad true (by unfold lightR; rw [decide_eq_false (p := (rs.getD i rul0).name.size ≤ 60) (by omega), Bool.false_and])))
end Go.Proofs.W

namespace Go.Proofs.W
open Go.Vl
set_option maxRecDepth 100000

theorem bytes_rows23 : Tryz.prog.bytesOf 106 = 72 := by kernel_rfl
set_option maxHeartbeats 2000000 in
theorem l23rows_spec (l : List TRow) (hl : l.length ≤ 1000000) : Tells Tryz.prog 30 [trows l] (trows l) := by
  refine tells_of_aw Tryz.func30 rfl rfl fun nx => ?_
  refine stp ?_
  refine aw_loop (fun s : Nat × Option Nat × Nat => mk 36 [(0, trows l), (3, .os 8 s.1 (fun j => trowA (l.getD j trow0)) (nmd s.2.1)), (4, int s.1)] ⟨[], pmOf (nmd s.2.1) (s.1 * 8), s.2.2, 1⟩) (fun s => s.1 ≤ l.length ∧ (s.2.1 = none → s.1 = 0)) (fun s => l.length - s.1) ?_ ?_
  · exact ⟨(0, none, nx), ⟨Nat.zero_le _, fun _ => rfl⟩, ele_tell (pm := []) _ [] rfl rfl (List.Sublist.refl _) (List.Sublist.refl _) trivial trivial ⟨AVle.refl _, AVle.os_nil, AVle.refl _, trivial⟩⟩
  · rintro ⟨i, oi, nx2⟩ ⟨h3, h4⟩
    dsimp only at h3 h4
    refine stp ?_
    intro c h5; cases c
    · have h6 := not_of h5
      dsimp only at h6
      obtain rfl : i = l.length := by omega
      rcases oi with _ | id
      all_goals
        refine stp ?_
        exact ret_tells rfl AVle.os_sl
    · have h6 := yes_of h5
      dsimp only at h6
      have hi : i < l.length := by omega
      refine stp ?_
      refine aw_mixN 25 _ (fun i => match i with | 23 => true | _ => false) (fun i => match i with | 10 => true | _ => false) [0, 1, 2, 3, 4, 5, 6, 7, 8, 9, 10, 11, 12, 13, 14, 15, 16, 17, 18, 19, 20, 21, 22, 23, 24] (by kernel_rfl) (by kernel_rfl) (HB.refl _) ?_
      refine stp ?_
      refine ⟨⟨by dsimp only; omega, by dsimp only; omega⟩, ?_⟩
      refine stp ?_
      refine ⟨⟨by dsimp only; omega, by dsimp only; omega⟩, ?_⟩
      refine stp ?_
      refine ⟨arr5 (l.getD i trow0), pure_apure rfl rfl (by first | trivial | exact ⟨rfl, Nat.le_of_ble_eq_true rfl⟩), ?_⟩
      refine stp ?_
      refine ⟨⟨by dsimp only; omega, by dsimp only; omega⟩, ?_⟩
      refine stp ?_
      refine ⟨⟨by dsimp only; omega, by dsimp only; omega⟩, ?_⟩
      refine stp ?_
      rcases oi with _ | id
      · obtain rfl := h4 rfl
        refine ⟨_, eff_append1 (e := 106) (c := 8) (pm := []) (n := 0) (oi := none) (sz := 8) (f := fun j => trowA (l.getD j trow0)) (HB.refl _) rfl rfl rfl (.inr ⟨_, rfl⟩) (by kernel_rfl) (by kernel_rfl) (by kernel_rfl) (.inr rfl) (by kernel_rfl) (List.append_nil _).symm (oneRow_one rfl) (by rw [bytes_rows23]; omega) (by omega), fun r h' hr => ?_⟩
        obtain ⟨rfl, rfl⟩ := hr
        refine stp ?_
        refine back (0 + 1, some nx2, nx2 + 1) ⟨by dsimp only; omega, (fun h => by cases h)⟩ (by dsimp only; omega) (ele_tell (pm := [((0, nx2), (0 + 1) * 8)]) _ _ rfl rfl (List.Sublist.refl _) (List.Sublist.refl _) trivial ⟨rfl, rfl, trivial⟩ ⟨AVle.refl _, (AVle.os_fun (appF_one (fun k hk => absurd hk (Nat.not_lt_zero k)) ?_)).trans (AVle.os_nm rfl), le_int (wrap_succ (by dsimp only; omega)), trivial⟩)
        rfl
      · refine ⟨_, eff_append1 (e := 106) (c := 8) (pm := []) (n := i) (oi := some (0, id)) (sz := 8) (f := fun j => trowA (l.getD j trow0)) (HB.refl _) rfl rfl rfl (.inr ⟨_, rfl⟩) (by kernel_rfl) (by kernel_rfl) (by kernel_rfl) (.inr rfl) (by kernel_rfl) (List.append_nil _).symm (oneRow_one rfl) (by rw [bytes_rows23]; omega) (by omega), fun r h' hr => ?_⟩
        obtain ⟨rfl, rfl⟩ := hr
        refine stp ?_
        refine back (i + 1, some nx2, nx2 + 1) ⟨by dsimp only; omega, (fun h => by cases h)⟩ (by dsimp only; omega) (ele_tell (pm := [((0, nx2), (i + 1) * 8)]) _ _ rfl rfl (List.Sublist.refl _) (List.Sublist.refl _) trivial ⟨rfl, rfl, trivial⟩ ⟨AVle.refl _, (AVle.os_fun (appF_one (fun k hk => rfl) ?_)).trans (AVle.os_nm rfl), le_int (wrap_succ (by dsimp only; omega)), trivial⟩)
        rfl
theorem few23_spec (l : List TRow) (hl : l.length ≤ maxLen) (hn : ∀ r ∈ l, r.name.size ≤ maxLen) : Tells Tryz.prog 27 [trows l] (boolA (fewB l)) := by
  refine tells_of_aw Tryz.func27 rfl rfl fun nx => ?_
  refine stp ?_
  by_cases hf : l.length ≤ 40
  rotate_left
  · refine stp ?_
    intro c h1; cases c
    · exact absurd (not_of h1) (by first | omega | (dsimp only; omega))
    refine stp ?_
    exact ret_tells rfl (le_bool (by unfold fewB; rw [decide_eq_false hf]; rfl))
  · refine stp ?_
    intro c h1; cases c
    rotate_left
    · exact absurd (yes_of h1) (by first | omega | (dsimp only; omega))
    refine stp ?_
    refine aw_loop (fun s : Nat × Nat => mk 20 [(0, trows l), (3, int s.1)] ⟨[], [], s.2, 0⟩) (fun s => s.1 ≤ l.length ∧ ∀ j, j < s.1 → (l.getD j trow0).name.size ≤ 60) (fun s => l.length - s.1) ?_ ?_
    · exact ⟨(0, nx), ⟨Nat.zero_le _, fun j hj => absurd hj (Nat.not_lt_zero j)⟩, ele_mk rfl rfl ⟨AVle.refl _, AVle.refl _, trivial⟩⟩
    · rintro ⟨i, nx2⟩ ⟨h3, h4⟩
      dsimp only at h3 h4
      refine stp ?_
      intro c h5; cases c
      · have h6 := not_of h5
        dsimp only at h6
        obtain rfl : i = l.length := by omega
        refine stp ?_
        refine ret_tells rfl (le_bool ?_)
        unfold fewB
        rw [decide_eq_true hf]
        symm
        simp only [Bool.true_and, Bool.not_eq_true', List.any_eq_false, decide_eq_true_eq]
        intro r hr
        obtain ⟨j, hj, rfl⟩ := List.mem_iff_getElem.1 hr
        have := h4 j hj
        simp [List.getD, hj] at this
        omega
      · have h6 := yes_of h5
        dsimp only at h6
        have hi : i < l.length := by omega
        have hnm := hn (l.getD i trow0) (by simp [List.getD, hi])
        refine stp ?_
        refine ⟨⟨by dsimp only; omega, by dsimp only; omega⟩, ?_⟩
        refine stp ?_
        intro c h7; cases c
        · have h7 := not_of h7
          dsimp only at h7
          rw [Int.toNat_natCast] at h7
          refine stp ?_
          exact back (i + 1, nx2) ⟨hi, fun j hj => by dsimp only at hj; rcases Nat.lt_or_ge j i with q | q; exact h4 j q; rw [show j = i by omega]; omega⟩ (by dsimp only; omega) (ele_mk rfl rfl ⟨AVle.refl _, le_int (wrap_succ (by dsimp only; omega)), trivial⟩)
        · have h7 := yes_of h7
          dsimp only at h7
          rw [Int.toNat_natCast] at h7
          refine stp ?_
          refine ret_tells rfl (le_bool ?_)
          unfold fewB
          symm
          rw [Bool.and_eq_false_iff]
          right
          simp only [Bool.not_eq_false', List.any_eq_true, decide_eq_true_eq]
          exact ⟨l.getD i trow0, by simp [List.getD, hi], by omega⟩
theorem record23_spec (r : Rec) : Tells Tryz.prog 31 [recA r] (recA r) := by
  refine tells_of_aw Tryz.func31 rfl rfl fun nx => ?_
  refine stp ?_
  exact ret_tells_all rfl ⟨rfl, trivial⟩ (AVle.refl _)
end Go.Proofs.W

namespace Go.Proofs.W
open Go.Vl
set_option maxRecDepth 100000

/- The reason is as it is defined. -/
def muxQ (r : Rec) : Int := if muxB r then kindI r.num else 0
def outQ (p : Pol) (r : Rec) : Bool := decide (selI r.arch r.num = 1) && !p.x32
def wQ (p : Pol) (l : List TRow) (r : Rec) : Rsn := ⟨decide (0 ≤ selI r.arch r.num), if selI r.arch r.num < 0 then 0 else selI r.arch r.num, nmO l (atO l r), muxQ r, outQ p r, ruleQ p l r, judgeQ p l r⟩
theorem nameO_nm (l : List TRow) (o : Option Nat) : nameO l o = nmO l o := by cases o <;> rfl
theorem idx_cong {α : Type} {p q : α → Bool} : ∀ {l : List α}, (∀ x ∈ l, p x = q x) → l.findIdx? p = l.findIdx? q
  | [], _ => rfl
  | x :: l, h => by
    rw [List.findIdx?_cons, List.findIdx?_cons, h x (.head _), idx_cong fun y hy => h y (.tail _ hy)]
theorem why_eq {p : Pol} {l : List TRow} {r : Rec} (hp : rightP p = true) (hl : (tabR l).2 = 0) : whyR p l r = (wQ p l r, 0) := by
  have hj : judgeR p l r = (judgeQ p l r, 0) := by
    unfold judgeR
    rw [if_neg (by rw [hp]; decide), if_neg (by omega), judge_eq hp hl]
  unfold whyR
  rw [hj, if_neg (by simp)]
  dsimp only
  refine congrArg (·, 0) ?_
  unfold wQ
  rcases ofI_eq l r with ⟨h1, h2⟩ | ⟨h1, h2⟩
  · have h3 : ofI l r = call0 ∧ atO l r = none ∧ muxB r = false := by
      unfold ofI atO muxB selI at *
      cases hs : selO r.arch r.num with
      | none => exact ⟨rfl, rfl, rfl⟩
      | some a => rw [hs] at h1; exact absurd h1 (by simp)
    rw [h3.1, h3.2.1, if_pos h1, decide_eq_false (by omega)]
    unfold call0
    rw [whyC_none]
    unfold muxW muxQ outQ ruleQ
    rw [h3.2.2, decide_eq_true h1, decide_eq_false (by omega : ¬ selI r.arch r.num = 1)]
    rfl
  · rw [h2, if_neg (by omega), decide_eq_true h1]
    cases hx : (decide (selI r.arch r.num = 1) && !p.x32) with
    | true =>
      rw [whyC_out hx]
      unfold ruleQ outQ
      rw [hx, Bool.or_true, if_pos rfl, nameO_nm]
      rfl
    | false =>
      cases hat : atO l r with
      | none =>
        rw [whyC_emp hx rfl]
        unfold ruleQ outQ
        rw [hx, hat, decide_eq_false (by omega), Bool.or_false, if_neg Bool.false_ne_true]
        rfl
      | some i =>
        have hn : (nameO l (some i)).size ≠ 0 := tab_name hl (atO_lt hat)
        rw [whyC_deep hx hn rfl]
        unfold ruleQ outQ
        rw [hx, hat, decide_eq_false (by omega), Bool.or_false, if_neg Bool.false_ne_true]
        dsimp only
        rw [show p.rules.findIdx? (whyB ⟨true, selI r.arch r.num, nameO l (some i), muxB r⟩ (argI (selI r.arch r.num).toNat r)) = p.rules.findIdx? (qR (muxB r) (l.getD i trow0).name (selI r.arch r.num) r.arg) from idx_cong fun q hq => ?_]
        · rfl
        · show (kS q.name (l.getD i trow0).name && (muxB r || q.conds.all (hB (argI (selI r.arch r.num).toNat r)))) = (kS q.name (l.getD i trow0).name && (muxB r || q.conds.all (hR (selI r.arch r.num) r.arg)))
          refine congrArg (fun b => kS q.name (l.getD i trow0).name && (muxB r || b)) ?_
          have hxy : ∀ k, argI (selI r.arch r.num).toNat r k = seenA (selI r.arch r.num) (r.arg k) := fun k => by
            unfold argI seenA
            by_cases q : selI r.arch r.num = 2
            · rw [if_pos q, if_pos (by rw [q]; rfl)]
            · rw [if_neg q, if_neg (by omega)]
          rw [Bool.eq_iff_iff, List.all_eq_true, List.all_eq_true]
          exact ⟨fun k c hc => by rw [← hB_hR (conds_right hp q hq c hc) hxy]; exact k c hc, fun k c hc => by rw [hB_hR (conds_right hp q hq c hc) hxy]; exact k c hc⟩
theorem mux_k (r : Rec) : ∃ m : Nat, muxQ r = m ∧ m ≤ 2 ∧ muxK (muxB r) r.num m ∧ (muxB r = true → muxQ r = IntKind.i64.wrap (1 + IntKind.i64.wrap ((IntKind.i64.wrap (IntKind.i64.wrap (r.num : Int) - 102)).tdiv 15))) := by
  cases hm : muxB r with
  | false => exact ⟨0, by unfold muxQ; rw [hm]; rfl, by decide, .inl ⟨rfl, rfl⟩, fun h => by cases h⟩
  | true =>
    have hmm := hm
    unfold muxB at hm
    cases hs : selO r.arch r.num with
    | none => rw [hs] at hm; cases hm
    | some a =>
      rw [hs] at hm
      have hk : 0 < kindO a r.num := of_decide_eq_true hm
      unfold kindO at hk
      split at hk
      · unfold kindI at hk
        by_cases h1 : r.num = 102
        · skip
          have e : muxQ r = 1 := by unfold muxQ; rw [hmm]; unfold kindI; rw [if_pos h1]; rfl
          exact ⟨1, e, by decide, .inr (.inl ⟨rfl, h1, rfl⟩), fun _ => by rw [e, h1]; decide⟩
        · rw [if_neg h1] at hk
          by_cases h2 : r.num = 117
          · skip
            have e : muxQ r = 2 := by unfold muxQ; rw [hmm]; unfold kindI; rw [if_neg h1, if_pos h2]; rfl
            exact ⟨2, e, by decide, .inr (.inr ⟨rfl, h2, rfl⟩), fun _ => by rw [e, h2]; decide⟩
          · rw [if_neg h2] at hk; omega
      · omega
theorem codeA_parts {a : A2} (h : right9 a.1 a.2 = true) : ∃ k n, k < 8 ∧ n ≤ km k ∧ codeA a = kb k + n := by
  obtain ⟨k, n, h1, h2, h3, h4⟩ := right_parts h
  refine ⟨k, n, h3, h4, ?_⟩
  unfold codeA
  rw [h1, h2, Int.toNat_natCast, Int.toNat_natCast]
  rfl
theorem judgeQ_parts {p : Pol} {l : List TRow} {r : Rec} (hp : rightP p = true) (hl : (tabR l).2 = 0) : ∃ k n, k < 8 ∧ n ≤ km k ∧ judgeQ p l r = kb k + n := by
  rw [← judge_eq hp hl]
  exact codeA_parts (action_right hp l r)
theorem optI_rng {i : Option Nat} {m : Nat} (h : ∀ j, i = some j → j < m) (hm : m ≤ 1000000) : -1 ≤ optI i ∧ optI i ≤ 1000000 := by
  cases i with
  | none => exact ⟨Int.le_refl _, by decide⟩
  | some j =>
    have := h j rfl
    show -1 ≤ (j : Int) ∧ (j : Int) ≤ 1000000
    omega
theorem ruleW_rng {mx : Bool} {rs : List Rul} {i : Option Nat} {m : Nat} (h : ∀ j, i = some j → j < m) (hm : m ≤ 1000000) : -1 ≤ ruleW mx rs i ∧ ruleW mx rs i ≤ 1000000 := by
  have h2 := optI_rng h hm
  unfold ruleW
  generalize optI i = v at h2
  split
  all_goals split <;> omega
theorem ruleQ_rng {p : Pol} {l : List TRow} {r : Rec} (h : p.rules.length ≤ 1000000) : -1 ≤ ruleQ p l r ∧ ruleQ p l r ≤ 1000000 := by
  unfold ruleQ
  split
  · omega
  · cases atO l r with
    | none => exact ⟨Int.le_refl _, (by decide : (-1 : Int) ≤ 1000000)⟩
    | some a => exact ruleW_rng (fun j hj => idx_lt' hj) h
end Go.Proofs.W

namespace Go.Proofs.W
open Go.Vl
set_option maxRecDepth 100000

theorem noid_rsn (x : Rsn) (e : Int) : NoId (.tup [rsnA x, int e]) := NoId.tup (by
  intro y hy
  simp only [List.mem_cons, List.not_mem_nil, or_false] at hy
  rcases hy with rfl | rfl
  · refine NoId.ag fun z hz => ?_
    unfold rsnC at hz
    simp only [List.mem_cons, List.not_mem_nil, or_false] at hz
    rcases hz with rfl | rfl | rfl | rfl | rfl | rfl | rfl <;> exact NoId.v _
  · exact NoId.v _)
def readB : ByteArray := ⟨#[114, 101, 97, 100]⟩
def rsnAw : Rsn := ⟨true, 0, readB, 0, false, 0, 2147418112⟩
theorem awWhy : whyR pAw builtL (recW 0 3221225534) = (rsnAw, 0) := by kernel_rfl
def awText : ByteArray := ⟨#[120, 56, 54, 95, 54, 52, 32, 114, 101, 97, 100, 32, 114, 117, 108, 101, 32, 48, 58, 32, 97, 108, 108, 111, 119]⟩
theorem awReason : reasonT ⟨true, ((0 : Nat) : Int), readB, ((0 : Nat) : Int), false, 0, kb 7 + 0⟩ (((7 + 1 : Nat) : Int), ((0 : Nat) : Int)) = awText := by
  unfold reasonT txt3 txt2 txt1 actT
  dsimp only
  rw [show decB (Int.toNat 0) = ⟨#[48]⟩ from decB_lt (by decide)]
  decide +kernel
set_option maxHeartbeats 8000000 in
theorem awake23_spec : Tells Tryz.prog 32 [] (boolA true) := by
  have hb := builtin_spec
  have h1 := why_spec pAw builtL (recW 0 3221225534) pAw_ok pAw_ok2 built_len built_names (recW_ok (by decide) (by decide))
  rw [awWhy] at h1
  have h2 := jtext_spec true 0 readB 0 false 0 7 0 (by decide) (by decide) (by decide) (by decide) (by decide) (by decide)
  rw [awReason] at h2
  generalize builtL = B at hb h1
  refine tells_of_aw Tryz.func32 rfl rfl fun nx => ?_
  refine stp ?_
  refine aop_tells rfl rfl parse_spec ⟨AVle.refl _, trivial⟩ fun nx2 => ?_
  refine stp ?_
  refine aw_mixN 9 _ (fun i => match i with | 7 => true | 8 => true | _ => false) (fun i => match i with | 1 => true | 3 => true | _ => false) [0, 1, 2, 3, 4, 5, 6, 7, 8] (by kernel_rfl) (by kernel_rfl) (HB.refl _) ?_
  refine stp ?_
  refine ⟨_, pure_tells rfl rfl rfl hb trivial (noid_trows _), ?_⟩
  refine stp ?_
  refine ⟨_, pure_tells rfl rfl rfl h1 ⟨AVle.refl _, AVle.refl _, AVle.refl _, trivial⟩ (noid_rsn _ _), ?_⟩
  refine stp ?_
  refine ⟨_, eff_alloc rfl rfl z_rsn (HB.one rfl), fun r' h' hr => ?_⟩
  obtain ⟨rfl, rfl⟩ := hr
  (conv => whnf)
  refine ⟨_, eff_store (i := (1, nx2 + 1)) (off := 0) (cs := rsnC rsn0) rfl rfl rfl rfl rfl rfl rfl (by kernel_rfl) (by kernel_rfl) (by show 0 + 7 ≤ 7; omega) (HB.one rfl), fun r' h' hr => ?_⟩
  obtain rfl := hr
  refine stp ?_
  refine aop_tells rfl rfl h2 ⟨AVle.refl _, trivial⟩ fun nx3 => ?_
  refine stp ?_
  intro c hc
  obtain rfl : c = true := hc.trans (beq_self_eq_true awText.toList)
  refine stp ?_
  exact ret_tells rfl (AVle.refl _)
end Go.Proofs.W

namespace Go.Proofs.W
open Go.Vl
set_option maxRecDepth 100000

theorem light17_ok {p : Pol} (h : lightP p = true) : p.rules.length ≤ 40 ∧ ∀ r ∈ p.rules, r.conds.length ≤ 12 := by
  unfold lightP at h
  simp only [Bool.and_eq_true, decide_eq_true_eq, List.all_eq_true] at h
  refine ⟨h.1, fun r hr => ?_⟩
  have := h.2 r hr
  unfold lightR at this
  simp only [Bool.and_eq_true, decide_eq_true_eq] at this
  exact this.2
theorem polOk_of {p : Pol} (hp : p.ok) (h : lightP p = true) : polOk p := by
  obtain ⟨h1, h2⟩ := light17_ok h
  exact ⟨by omega, fun r hr => ⟨by have := h2 r hr; omega, (hp.2 r hr).2.2⟩⟩
theorem noid_cnds17 (l : List Cnd) : NoId (cnds l) := NoId.sl fun i _ c hc => by
  have hc : c ∈ (cndA (l.getD i cnd0)).cells := hc
  unfold cndA AV.cells at hc
  simp only [List.mem_cons, List.not_mem_nil, or_false] at hc
  rcases hc with rfl | rfl | rfl | rfl <;> exact NoId.v _
theorem noid_ruls17 (L : List Rul) : NoId (ruls L) := NoId.sl fun i _ c hc => by
  have hc : c ∈ (rulA (L.getD i rul0)).cells := hc
  unfold rulA AV.cells at hc
  simp only [List.mem_cons, List.not_mem_nil, or_false] at hc
  rcases hc with rfl | rfl | rfl | rfl
  · exact NoId.v _
  · exact NoId.v _
  · exact NoId.v _
  · exact noid_cnds17 _
theorem noid_pol17 (p : Pol) : NoId (polA p) := NoId.ag (by
  intro y hy
  simp only [List.mem_cons, List.not_mem_nil, or_false] at hy
  rcases hy with rfl | rfl | rfl | rfl
  · exact NoId.v _
  · exact NoId.v _
  · exact NoId.v _
  · exact noid_ruls17 _)
end Go.Proofs.W

namespace Go.Proofs.W
open Go.Vl
set_option maxRecDepth 100000

theorem judge_cases (p : Pol) (l : List TRow) (r : Rec) : (rightP p = false ∧ judgeR p l r = (0, 13)) ∨ (rightP p = true ∧ (tabR l).2 ≠ 0 ∧ judgeR p l r = (0, 18)) ∨ (rightP p = true ∧ (tabR l).2 = 0 ∧ judgeR p l r = (judgeQ p l r, 0) ∧ judgeQ p l r < 4294967296) := by
  unfold judgeR
  cases hp : rightP p with
  | false => exact .inl ⟨rfl, by rw [if_pos rfl]⟩
  | true =>
    refine .inr ?_
    by_cases hl : (tabR l).2 = 0
    · refine .inr ⟨rfl, hl, ?_, ?_⟩
      · rw [if_neg (by decide), if_neg (fun q => q hl), judge_eq hp hl]
      · rw [← judge_eq hp hl]; exact codeA_lt (action_right hp l r)
    · exact .inl ⟨rfl, hl, by rw [if_neg (by decide), if_pos hl]⟩
theorem noid_rec17 (r : Rec) : NoId (recA r) := NoId.ag (by
  intro y hy
  unfold recC at hy
  simp only [List.mem_cons, List.not_mem_nil, or_false] at hy
  rcases hy with rfl | rfl | rfl | rfl | rfl | rfl | rfl | rfl | rfl <;> exact NoId.v _)
end Go.Proofs.W

namespace Go.Proofs.W
open Go.Vl
set_option maxRecDepth 100000

theorem why_bad {p : Pol} {l : List TRow} {r : Rec} {e : Int} (h : judgeR p l r = (0, e)) (he : e ≠ 0) : whyR p l r = (rsn0, e) := by
  unfold whyR
  rw [h, if_pos he]
theorem wrap_u32 {v : Nat} (h : v < 4294967296) : IntKind.u32.wrap (v : Int) = (v : Int) := by simp [IntKind.wrap, IntKind.signed, IntKind.bits]; omega
theorem rsn0_eq : (rsn0.some == false && (rsn0.abi == 0 && (rsn0.name.toList == ByteArray.toList { data := #[] } && (rsn0.mux == 0 && (rsn0.out == false && (rsn0.rule == 0 && ((rsn0.code : Int) == 0 && true))))))) = true := by
  unfold rsn0
  simp
theorem rsn_eq (so : Bool) (ab : Int) (nm : ByteArray) (mu : Int) (ou : Bool) (ru : Int) (v : Int) : (so == so && (ab == ab && (nm.toList == nm.toList && (mu == mu && (ou == ou && (ru == ru && (v == v && true))))))) = true := by simp
set_option maxHeartbeats 16000000 in
theorem jr_bad1 (k n : Int) (x32 : Bool) (rs : List Rul) (l : List TRow) (r : Rec) (hlt : Tells Tryz.prog 26 [polA ⟨(k, n), x32, rs⟩] (boolA true)) (hfew : Tells Tryz.prog 27 [trows l] (boolA true)) (hof : Tells Tryz.prog 29 [polA ⟨(k, n), x32, rs⟩] (polA ⟨(k, n), x32, rs⟩)) (hrw : Tells Tryz.prog 30 [trows l] (trows l)) (hrc : Tells Tryz.prog 31 [recA r] (recA r)) (hawk : Tells Tryz.prog 32 [] (boolA true))
    (hwy : Tells Tryz.prog 28 [polA ⟨(k, n), x32, rs⟩, trows l, recA r] (.tup [rsnA rsn0, int 13])) (hrt : Tells Tryz.prog 10 [polA ⟨(k, n), x32, rs⟩] (boolA false)) : Tells Tryz.prog 7 [polA ⟨(k, n), x32, rs⟩, trows l, recA r] (boolA true) := by
  refine tells_of_aw Tryz.func7 rfl rfl fun nx => ?_
  refine stp ?_
  refine aop_tells rfl rfl hlt ⟨AVle.refl _, trivial⟩ fun nx5 => ?_
  refine stp ?_
  refine aop_tells rfl rfl hfew ⟨AVle.refl _, trivial⟩ fun nx6 => ?_
  refine stp ?_
  refine aw_mixN 12 _ (fun i => match i with | 10 => true | 11 => true | _ => false) (fun i => match i with | 1 => true | 3 => true | 5 => true | 6 => true | _ => false) [0, 1, 2, 3, 4, 5, 6, 7, 8, 9, 10, 11] (by kernel_rfl) (by kernel_rfl) (HB.refl _) ?_
  refine stp ?_
  refine ⟨_, pure_tells rfl rfl rfl hof ⟨AVle.refl _, trivial⟩ (noid_pol17 _), ?_⟩
  refine stp ?_
  refine ⟨_, pure_tells rfl rfl rfl hrw ⟨AVle.refl _, trivial⟩ (noid_trows _), ?_⟩
  refine stp ?_
  refine ⟨_, pure_tells rfl rfl rfl hrc ⟨AVle.refl _, trivial⟩ (noid_rec17 _), ?_⟩
  refine stp ?_
  refine ⟨_, pure_tells rfl rfl rfl hwy ⟨AVle.refl _, AVle.refl _, AVle.refl _, trivial⟩ (noid_rsn _ _), ?_⟩
  refine stp ?_
  refine ⟨_, eff_alloc rfl rfl z_rsn (HB.cons rfl (HB.one rfl)), fun r' h' hr => ?_⟩
  obtain ⟨rfl, rfl⟩ := hr
  (conv => whnf)
  refine ⟨_, eff_store (i := (2, nx6)) (off := 0) (cs := rsnC rsn0) rfl rfl rfl rfl rfl rfl rfl (by kernel_rfl) (by kernel_rfl) (by show 0 + 7 ≤ 7; omega) (HB.cons rfl (HB.one rfl)), fun r' h' hr => ?_⟩
  obtain rfl := hr
  refine stp ?_
  refine aop_tells rfl rfl hrt ⟨AVle.refl _, trivial⟩ fun nx7 => ?_
  refine stp ?_
  intro c hc
  cases c
  · exact absurd (hc.trans rsn0_eq) (by decide)
  refine stp ?_
  refine aop_tells rfl rfl hawk trivial fun nx9 => ?_
  refine stp ?_
  exact ret_tells rfl (AVle.refl _)
set_option maxHeartbeats 16000000 in
theorem jr_bad2 (k n : Int) (x32 : Bool) (rs : List Rul) (l : List TRow) (r : Rec) (i11 e11 : Int) (he : ¬ e11 = 0) (hlt : Tells Tryz.prog 26 [polA ⟨(k, n), x32, rs⟩] (boolA true)) (hfew : Tells Tryz.prog 27 [trows l] (boolA true)) (hof : Tells Tryz.prog 29 [polA ⟨(k, n), x32, rs⟩] (polA ⟨(k, n), x32, rs⟩)) (hrw : Tells Tryz.prog 30 [trows l] (trows l)) (hrc : Tells Tryz.prog 31 [recA r] (recA r)) (hawk : Tells Tryz.prog 32 [] (boolA true))
    (hwy : Tells Tryz.prog 28 [polA ⟨(k, n), x32, rs⟩, trows l, recA r] (.tup [rsnA rsn0, int 18])) (hrt : Tells Tryz.prog 10 [polA ⟨(k, n), x32, rs⟩] (boolA true)) (h11 : Tells Tryz.prog 21 [trows l] (.tup [int i11, int e11])) : Tells Tryz.prog 7 [polA ⟨(k, n), x32, rs⟩, trows l, recA r] (boolA true) := by
  refine tells_of_aw Tryz.func7 rfl rfl fun nx => ?_
  refine stp ?_
  refine aop_tells rfl rfl hlt ⟨AVle.refl _, trivial⟩ fun nx5 => ?_
  refine stp ?_
  refine aop_tells rfl rfl hfew ⟨AVle.refl _, trivial⟩ fun nx6 => ?_
  refine stp ?_
  refine aw_mixN 12 _ (fun i => match i with | 10 => true | 11 => true | _ => false) (fun i => match i with | 1 => true | 3 => true | 5 => true | 6 => true | _ => false) [0, 1, 2, 3, 4, 5, 6, 7, 8, 9, 10, 11] (by kernel_rfl) (by kernel_rfl) (HB.refl _) ?_
  refine stp ?_
  refine ⟨_, pure_tells rfl rfl rfl hof ⟨AVle.refl _, trivial⟩ (noid_pol17 _), ?_⟩
  refine stp ?_
  refine ⟨_, pure_tells rfl rfl rfl hrw ⟨AVle.refl _, trivial⟩ (noid_trows _), ?_⟩
  refine stp ?_
  refine ⟨_, pure_tells rfl rfl rfl hrc ⟨AVle.refl _, trivial⟩ (noid_rec17 _), ?_⟩
  refine stp ?_
  refine ⟨_, pure_tells rfl rfl rfl hwy ⟨AVle.refl _, AVle.refl _, AVle.refl _, trivial⟩ (noid_rsn _ _), ?_⟩
  refine stp ?_
  refine ⟨_, eff_alloc rfl rfl z_rsn (HB.cons rfl (HB.one rfl)), fun r' h' hr => ?_⟩
  obtain ⟨rfl, rfl⟩ := hr
  (conv => whnf)
  refine ⟨_, eff_store (i := (2, nx6)) (off := 0) (cs := rsnC rsn0) rfl rfl rfl rfl rfl rfl rfl (by kernel_rfl) (by kernel_rfl) (by show 0 + 7 ≤ 7; omega) (HB.cons rfl (HB.one rfl)), fun r' h' hr => ?_⟩
  obtain rfl := hr
  refine stp ?_
  refine aop_tells rfl rfl hrt ⟨AVle.refl _, trivial⟩ fun nx7 => ?_
  refine stp ?_
  refine aop_tells rfl rfl h11 ⟨AVle.refl _, trivial⟩ fun nx8 => ?_
  refine stp ?_
  intro c t1; cases c
  · exact absurd (by simpa using t1.symm) he
  refine stp ?_
  intro c hc
  cases c
  · exact absurd (hc.trans rsn0_eq) (by decide)
  refine stp ?_
  refine aop_tells rfl rfl hawk trivial fun nx9 => ?_
  refine stp ?_
  exact ret_tells rfl (AVle.refl _)
theorem bxR (l : List (Vl.Id × Own)) : BxLe l l := BxLe.refl l
set_option maxHeartbeats 16000000 in
theorem jr_good (k n : Int) (x32 : Bool) (rs : List Rul) (l : List TRow) (r : Rec) (i11 : Int) (s : Int) (o : Option Nat) (mx : Bool) (so : Bool) (ab : Int) (nm : ByteArray) (mu : Int) (ou : Bool) (ru : Int) (v : Nat) (T : ByteArray) (hlt : Tells Tryz.prog 26 [polA ⟨(k, n), x32, rs⟩] (boolA true)) (hfew : Tells Tryz.prog 27 [trows l] (boolA true)) (hof : Tells Tryz.prog 29 [polA ⟨(k, n), x32, rs⟩] (polA ⟨(k, n), x32, rs⟩)) (hrw : Tells Tryz.prog 30 [trows l] (trows l)) (hrc : Tells Tryz.prog 31 [recA r] (recA r)) (hawk : Tells Tryz.prog 32 [] (boolA true))
    (hwy : Tells Tryz.prog 28 [polA ⟨(k, n), x32, rs⟩, trows l, recA r] (.tup [rsnA ⟨so, ab, nm, mu, ou, ru, v⟩, int 0])) (hrt : Tells Tryz.prog 10 [polA ⟨(k, n), x32, rs⟩] (boolA true)) (h11 : Tells Tryz.prog 21 [trows l] (.tup [int i11, int 0])) (hof12 : Tells Tryz.prog 33 [trows l, recA r] (.ag [int s, int (optI o), boolA mx])) (hrj : Tells Tryz.prog 22 [polA ⟨(k, n), x32, rs⟩, trows l, recA r] (int (v : Nat))) (hrl : Tells Tryz.prog 34 [polA ⟨(k, n), x32, rs⟩, trows l, recA r] (int ru))
    (hjt : Tells Tryz.prog 35 [rsnA ⟨so, ab, nm, mu, ou, ru, v⟩] (strA T)) (hrx : Tells Tryz.prog 36 [polA ⟨(k, n), x32, rs⟩, trows l, recA r, int (v : Nat)] (strA T)) (hv : v < 4294967296) (hso : decide (s ≥ 0) = so) (hab : (if 0 > s then 0 else s) = ab) (hnm : nmO l o = nm) (hmu0 : mx = false → mu = 0) (hmu1 : mx = true → mu = IntKind.i64.wrap (1 + IntKind.i64.wrap ((IntKind.i64.wrap (IntKind.i64.wrap (r.num : Int) - 102)).tdiv 15))) (hou : (decide (s = 1) && !x32) = ou) (ho : ∀ j, o = some j → j < l.length) :
    Tells Tryz.prog 7 [polA ⟨(k, n), x32, rs⟩, trows l, recA r] (boolA true) := by
  refine tells_of_aw Tryz.func7 rfl rfl fun nx => ?_
  refine stp ?_
  refine aop_tells rfl rfl hlt ⟨AVle.refl _, trivial⟩ fun nx5 => ?_
  refine stp ?_
  refine aop_tells rfl rfl hfew ⟨AVle.refl _, trivial⟩ fun nx6 => ?_
  refine stp ?_
  refine aw_mixN 12 _ (fun i => match i with | 10 => true | 11 => true | _ => false) (fun i => match i with | 1 => true | 3 => true | 5 => true | 6 => true | _ => false) [0, 1, 2, 3, 4, 5, 6, 7, 8, 9, 10, 11] (by kernel_rfl) (by kernel_rfl) (HB.refl _) ?_
  refine stp ?_
  refine ⟨_, pure_tells rfl rfl rfl hof ⟨AVle.refl _, trivial⟩ (noid_pol17 _), ?_⟩
  refine stp ?_
  refine ⟨_, pure_tells rfl rfl rfl hrw ⟨AVle.refl _, trivial⟩ (noid_trows _), ?_⟩
  refine stp ?_
  refine ⟨_, pure_tells rfl rfl rfl hrc ⟨AVle.refl _, trivial⟩ (noid_rec17 _), ?_⟩
  refine stp ?_
  refine ⟨_, pure_tells rfl rfl rfl hwy ⟨AVle.refl _, AVle.refl _, AVle.refl _, trivial⟩ (noid_rsn _ _), ?_⟩
  refine stp ?_
  refine ⟨_, eff_alloc rfl rfl z_rsn (HB.cons rfl (HB.one rfl)), fun r' h' hr => ?_⟩
  obtain ⟨rfl, rfl⟩ := hr
  (conv => whnf)
  refine ⟨_, eff_store (i := (2, nx6)) (off := 0) (cs := rsnC rsn0) rfl rfl rfl rfl rfl rfl rfl (by kernel_rfl) (by kernel_rfl) (by show 0 + 7 ≤ 7; omega) (HB.cons rfl (HB.one rfl)), fun r' h' hr => ?_⟩
  obtain rfl := hr
  refine stp ?_
  refine aop_tells rfl rfl hrt ⟨AVle.refl _, trivial⟩ fun nx7 => ?_
  refine stp ?_
  refine aop_tells rfl rfl h11 ⟨AVle.refl _, trivial⟩ fun nx8 => ?_
  refine stp ?_
  refine aop_tells rfl rfl hof12 ⟨AVle.refl _, AVle.refl _, trivial⟩ fun nxA => ?_
  refine stp ?_
  refine aop_tells rfl rfl hrj ⟨AVle.refl _, AVle.refl _, AVle.refl _, trivial⟩ fun nxB => ?_
  refine stpR ?_
  refine aw_mid (fun nx' : Nat => mk 129 [(1, trows l), (3, .bp (0, nx) 0), (5, .bp (1, nx + 1) 0), (7, .bp (2, nx6) 0), (8, int 0), (11, .bp (3, nxA) 0), (12, int v), (13, .bp (4, nxB) 0)] ⟨[((4, nxB), .c (rsnC ⟨so, ab, ⟨#[]⟩, 0, ou, ru, v⟩)), ((3, nxA), .c [int s, int (optI o), boolA mx]), ((2, nx6), .c (rsnC ⟨so, ab, nm, mu, ou, ru, v⟩)), ((1, nx + 1), .c (recC r)), ((0, nx), .c [int k, int n, boolA x32, ruls rs])], [], nx', 5⟩) (fun _ => True) ?_ ?_
  · have hh := hab
    by_cases h1 : s = 1
    · have hb : (s == 1) = true := by rw [h1]; rfl
      have ho1 : (!x32) = ou := by rw [← hou, decide_eq_true h1, Bool.true_and]
      refine aw_mixN 22 _ (fun i => match i with | 21 => true | _ => false) (fun i => match i with | 3 => true | 8 => true | 14 => true | _ => false) [0, 1, 2, 3, 4, 5, 6, 7, 8, 9, 10, 11, 12, 13, 14, 15, 16, 17, 18, 19, 20, 21] (by kernel_rfl) (by kernel_rfl) (HB.refl _) ?_
      refine stp ?_
      refine ⟨_, pure_tells rfl rfl rfl hrl ⟨AVle.refl _, AVle.refl _, AVle.refl _, trivial⟩ (NoId.v _), ?_⟩
      refine stp ?_
      refine ⟨.v (.bool so), pure_bool rfl rfl trivial hso, ?_⟩
      refine stp ?_
      refine ⟨.v (.bool true), pure_bool rfl rfl trivial hb, ?_⟩
      refine stp ?_
      refine ⟨_, pure_yes rfl rfl rfl rfl (by first | trivial | exact ⟨rfl, Nat.le_of_ble_eq_true rfl⟩), ?_⟩
      refine stp ?_
      refine ⟨_, pure_yes rfl rfl rfl rfl (by first | trivial | exact ⟨rfl, Nat.le_of_ble_eq_true rfl⟩), ?_⟩
      refine stp ?_
      refine ⟨_, pure_yes rfl rfl rfl rfl (by first | trivial | exact ⟨rfl, Nat.le_of_ble_eq_true rfl⟩), ?_⟩
      refine stp ?_
      refine ⟨_, eff_alloc rfl rfl z_rsn (HB.cons rfl (HB.cons rfl (HB.cons rfl (HB.one rfl)))), fun r'' h'' hr2 => ?_⟩
      obtain ⟨rfl, rfl⟩ := hr2
      refine stp ?_
      exact ⟨_, trivial, ele_tell (pm := []) (bx := [((4, nxB), .c (rsnC ⟨so, ab, ⟨#[]⟩, 0, ou, ru, v⟩)), ((3, nxA), .c [int s, int (optI o), boolA mx]), ((2, nx6), .c (rsnC ⟨so, ab, nm, mu, ou, ru, v⟩)), ((1, nx + 1), .c (recC r)), ((0, nx), .c [int k, int n, boolA x32, ruls rs])]) _ _ rfl rfl (List.Sublist.refl _) (List.Sublist.refl _) ⟨rfl, ⟨AVle.refl _, le_int hab, AVle.refl _, AVle.refl _, le_bool ho1, AVle.refl _, le_int (wrap_u32 hv), trivial⟩, bxR _⟩ trivial ⟨AVle.refl _, AVle.refl _, AVle.refl _, AVle.refl _, AVle.refl _, AVle.refl _, AVle.refl _, AVle.refl _, trivial⟩⟩
    · have hb : (s == 1) = false := by rw [beq_eq_false_iff_ne]; exact h1
      have ho1 : false = ou := by rw [← hou, decide_eq_false h1, Bool.false_and]
      refine aw_mixN 22 _ (fun i => match i with | 21 => true | _ => false) (fun i => match i with | 3 => true | 8 => true | 14 => true | _ => false) [0, 1, 2, 3, 4, 5, 6, 7, 8, 9, 10, 11, 12, 13, 14, 15, 16, 17, 18, 19, 20, 21] (by kernel_rfl) (by kernel_rfl) (HB.refl _) ?_
      refine stp ?_
      refine ⟨_, pure_tells rfl rfl rfl hrl ⟨AVle.refl _, AVle.refl _, AVle.refl _, trivial⟩ (NoId.v _), ?_⟩
      refine stp ?_
      refine ⟨.v (.bool so), pure_bool rfl rfl trivial hso, ?_⟩
      refine stp ?_
      refine ⟨.v (.bool false), pure_bool rfl rfl trivial hb, ?_⟩
      refine stp ?_
      refine ⟨_, pure_no rfl rfl rfl, ?_⟩
      refine stp ?_
      refine ⟨_, pure_no rfl rfl rfl, ?_⟩
      refine stp ?_
      refine ⟨_, pure_no rfl rfl rfl, ?_⟩
      refine stp ?_
      refine ⟨_, eff_alloc rfl rfl z_rsn (HB.cons rfl (HB.cons rfl (HB.cons rfl (HB.one rfl)))), fun r'' h'' hr2 => ?_⟩
      obtain ⟨rfl, rfl⟩ := hr2
      refine stp ?_
      exact ⟨_, trivial, ele_tell (pm := []) (bx := [((4, nxB), .c (rsnC ⟨so, ab, ⟨#[]⟩, 0, ou, ru, v⟩)), ((3, nxA), .c [int s, int (optI o), boolA mx]), ((2, nx6), .c (rsnC ⟨so, ab, nm, mu, ou, ru, v⟩)), ((1, nx + 1), .c (recC r)), ((0, nx), .c [int k, int n, boolA x32, ruls rs])]) _ _ rfl rfl (List.Sublist.refl _) (List.Sublist.refl _) ⟨rfl, ⟨AVle.refl _, le_int hab, AVle.refl _, AVle.refl _, le_bool ho1, AVle.refl _, le_int (wrap_u32 hv), trivial⟩, bxR _⟩ trivial ⟨AVle.refl _, AVle.refl _, AVle.refl _, AVle.refl _, AVle.refl _, AVle.refl _, AVle.refl _, AVle.refl _, trivial⟩⟩
  · intro nxC _
    refine aw_seq ?_
    refine aw_mid (fun nx' : Nat => mk 129 [(1, trows l), (3, .bp (0, nx) 0), (5, .bp (1, nx + 1) 0), (7, .bp (2, nx6) 0), (8, int 0), (11, .bp (3, nxA) 0), (12, int v), (13, .bp (4, nxB) 0)] ⟨[((4, nxB), .c (rsnC ⟨so, ab, nm, 0, ou, ru, v⟩)), ((3, nxA), .c [int s, int (optI o), boolA mx]), ((2, nx6), .c (rsnC ⟨so, ab, nm, mu, ou, ru, v⟩)), ((1, nx + 1), .c (recC r)), ((0, nx), .c [int k, int n, boolA x32, ruls rs])], [], nx', 5⟩) (fun _ => True) ?_ ?_
    · cases o with
      | none =>
        refine stp ?_
        exact ⟨_, trivial, ele_tell (pm := []) (bx := [((4, nxB), .c (rsnC ⟨so, ab, nm, 0, ou, ru, v⟩)), ((3, nxA), .c [int s, int (optI none), boolA mx]), ((2, nx6), .c (rsnC ⟨so, ab, nm, mu, ou, ru, v⟩)), ((1, nx + 1), .c (recC r)), ((0, nx), .c [int k, int n, boolA x32, ruls rs])]) _ _ rfl rfl (List.Sublist.refl _) (List.Sublist.refl _) ⟨rfl, ⟨AVle.refl _, AVle.refl _, le_str hnm, AVle.refl _, AVle.refl _, AVle.refl _, AVle.refl _, trivial⟩, bxR _⟩ trivial ⟨AVle.refl _, AVle.refl _, AVle.refl _, AVle.refl _, AVle.refl _, AVle.refl _, AVle.refl _, AVle.refl _, trivial⟩⟩
      | some j =>
        have hj := ho j rfl
        refine stp ?_
        refine splitO_eq (b := int j) rfl ?_
        refine stp ?_
        refine ⟨⟨by omega, by omega⟩, ?_⟩
        refine stp ?_
        exact ⟨_, trivial, ele_tell (pm := []) (bx := [((4, nxB), .c (rsnC ⟨so, ab, nm, 0, ou, ru, v⟩)), ((3, nxA), .c [int s, int (optI (some j)), boolA mx]), ((2, nx6), .c (rsnC ⟨so, ab, nm, mu, ou, ru, v⟩)), ((1, nx + 1), .c (recC r)), ((0, nx), .c [int k, int n, boolA x32, ruls rs])]) _ _ rfl rfl (List.Sublist.refl _) (List.Sublist.refl _) ⟨rfl, ⟨AVle.refl _, AVle.refl _, le_str hnm, AVle.refl _, AVle.refl _, AVle.refl _, AVle.refl _, trivial⟩, bxR _⟩ trivial ⟨AVle.refl _, AVle.refl _, AVle.refl _, AVle.refl _, AVle.refl _, AVle.refl _, AVle.refl _, AVle.refl _, trivial⟩⟩
    · intro nxD _
      refine aw_seq ?_
      refine aw_mid (fun nx' : Nat => mk 129 [(1, trows l), (3, .bp (0, nx) 0), (5, .bp (1, nx + 1) 0), (7, .bp (2, nx6) 0), (8, int 0), (11, .bp (3, nxA) 0), (12, int v), (13, .bp (4, nxB) 0)] ⟨[((4, nxB), .c (rsnC ⟨so, ab, nm, mu, ou, ru, v⟩)), ((3, nxA), .c [int s, int (optI o), boolA mx]), ((2, nx6), .c (rsnC ⟨so, ab, nm, mu, ou, ru, v⟩)), ((1, nx + 1), .c (recC r)), ((0, nx), .c [int k, int n, boolA x32, ruls rs])], [], nx', 5⟩) (fun _ => True) ?_ ?_
      · cases mx with
        | false =>
          refine stp ?_
          exact ⟨_, trivial, ele_tell (pm := []) (bx := [((4, nxB), .c (rsnC ⟨so, ab, nm, mu, ou, ru, v⟩)), ((3, nxA), .c [int s, int (optI o), boolA false]), ((2, nx6), .c (rsnC ⟨so, ab, nm, mu, ou, ru, v⟩)), ((1, nx + 1), .c (recC r)), ((0, nx), .c [int k, int n, boolA x32, ruls rs])]) _ _ rfl rfl (List.Sublist.refl _) (List.Sublist.refl _) ⟨rfl, ⟨AVle.refl _, AVle.refl _, AVle.refl _, le_int (hmu0 rfl).symm, AVle.refl _, AVle.refl _, AVle.refl _, trivial⟩, bxR _⟩ trivial ⟨AVle.refl _, AVle.refl _, AVle.refl _, AVle.refl _, AVle.refl _, AVle.refl _, AVle.refl _, AVle.refl _, trivial⟩⟩
        | true =>
          refine stp ?_
          exact ⟨_, trivial, ele_tell (pm := []) (bx := [((4, nxB), .c (rsnC ⟨so, ab, nm, mu, ou, ru, v⟩)), ((3, nxA), .c [int s, int (optI o), boolA true]), ((2, nx6), .c (rsnC ⟨so, ab, nm, mu, ou, ru, v⟩)), ((1, nx + 1), .c (recC r)), ((0, nx), .c [int k, int n, boolA x32, ruls rs])]) _ _ rfl rfl (List.Sublist.refl _) (List.Sublist.refl _) ⟨rfl, ⟨AVle.refl _, AVle.refl _, AVle.refl _, le_int (hmu1 rfl).symm, AVle.refl _, AVle.refl _, AVle.refl _, trivial⟩, bxR _⟩ trivial ⟨AVle.refl _, AVle.refl _, AVle.refl _, AVle.refl _, AVle.refl _, AVle.refl _, AVle.refl _, AVle.refl _, trivial⟩⟩
      · intro nxE _
        refine stp ?_
        refine aw_mixN 20 _ (fun _ => false) (fun i => match i with | 9 => true | 14 => true | 18 => true | _ => false) [0, 1, 2, 3, 4, 5, 6, 7, 8, 9, 10, 11, 12, 13, 14, 15, 16, 17, 18, 19] (by kernel_rfl) (by kernel_rfl) (HB.refl _) ?_
        refine stp ?_
        refine ⟨_, pure_yes rfl rfl rfl rfl (by first | trivial | exact ⟨rfl, Nat.le_of_ble_eq_true rfl⟩), ?_⟩
        refine stp ?_
        refine ⟨_, pure_yes rfl rfl rfl rfl (by first | trivial | exact ⟨rfl, Nat.le_of_ble_eq_true rfl⟩), ?_⟩
        refine stp ?_
        refine ⟨.v (.bool true), pure_yesB rfl rfl rfl rfl ⟨by kernel_rfl, by kernel_rfl⟩ (rsn_eq so ab nm mu ou ru v), ?_⟩
        refine stp ?_
        refine ⟨_, pure_yes rfl rfl rfl rfl (by first | trivial | exact ⟨rfl, Nat.le_of_ble_eq_true rfl⟩), ?_⟩
        refine stp ?_
        refine ⟨_, pure_yesT rfl rfl rfl rfl rfl hjt ⟨AVle.refl _, trivial⟩ (NoId.v _), ?_⟩
        refine stp ?_
        refine ⟨_, pure_yes rfl rfl rfl rfl (by first | trivial | exact ⟨rfl, Nat.le_of_ble_eq_true rfl⟩), ?_⟩
        refine stp ?_
        refine ⟨_, pure_yes rfl rfl rfl rfl (by first | trivial | exact ⟨rfl, Nat.le_of_ble_eq_true rfl⟩), ?_⟩
        refine stp ?_
        refine ⟨_, pure_yes rfl rfl rfl rfl (by first | trivial | exact ⟨rfl, Nat.le_of_ble_eq_true rfl⟩), ?_⟩
        refine stp ?_
        refine ⟨_, pure_yes rfl rfl rfl rfl (by first | trivial | exact ⟨rfl, Nat.le_of_ble_eq_true rfl⟩), ?_⟩
        refine stp ?_
        refine ⟨_, pure_yesT rfl rfl rfl rfl rfl hrx ⟨AVle.refl _, AVle.refl _, AVle.refl _, AVle.refl _, trivial⟩ (NoId.v _), ?_⟩
        refine stp ?_
        refine ⟨.v (.bool true), pure_yesB rfl rfl rfl rfl trivial (beq_self_eq_true T.toList), ?_⟩
        refine stp ?_
        refine ⟨_, pure_yesT rfl rfl rfl rfl rfl hawk trivial (NoId.v _), ?_⟩
        refine stp ?_
        exact ret_tells rfl (AVle.refl _)
theorem sel_cases (arch num : Nat) : selI arch num < 0 ∨ ∃ a : Nat, selI arch num = a ∧ a < 5 := by
  unfold selI
  cases hs : selO arch num with
  | none => exact .inl (by decide)
  | some a => exact .inr ⟨a, rfl, selO_lt hs⟩
set_option maxHeartbeats 4000000 in
theorem judgereasons_law (p : Pol) (l : List TRow) (r : Rec) (hp : p.ok) (hl : l.length ≤ maxLen) (hn : ∀ q ∈ l, q.name.size ≤ maxLen) (hr : r.ok) : Tells Tryz.prog 7 [polA p, trows l, recA r] (boolA true) := by
  have hlt := light_l23 p hp.1
  have hfew := few23_spec l hl hn
  have hawk := awake23_spec
  obtain ⟨⟨k, n⟩, x32, rs⟩ := p
  cases hlp : lightP ⟨(k, n), x32, rs⟩ with
  | false =>
    rw [hlp] at hlt
    refine tells_of_aw Tryz.func7 rfl rfl fun nx => ?_
    refine stp ?_
    refine aop_tells rfl rfl hlt ⟨AVle.refl _, trivial⟩ fun nx5 => ?_
    refine stp ?_
    exact ret_tells rfl (AVle.refl _)
  | true =>
    rw [hlp] at hlt
    have hpo := polOk_of hp hlp
    cases hfl : fewB l with
    | false =>
      rw [hfl] at hfew
      refine tells_of_aw Tryz.func7 rfl rfl fun nx => ?_
      refine stp ?_
      refine aop_tells rfl rfl hlt ⟨AVle.refl _, trivial⟩ fun nx5 => ?_
      refine stp ?_
      refine aop_tells rfl rfl hfew ⟨AVle.refl _, trivial⟩ fun nx6 => ?_
      refine stp ?_
      exact ret_tells rfl (AVle.refl _)
    | true =>
      rw [hfl] at hfew
      obtain ⟨hl40, hn60⟩ := few_le hfl
      have hof := pol_l23 ⟨(k, n), x32, rs⟩ hpo.1 (fun r hr => (hpo.2 r hr).1)
      have hrw := l23rows_spec l (by omega)
      have hrc := record23_spec r
      have hwy := why_spec ⟨(k, n), x32, rs⟩ l r hpo hp (by omega) hn hr
      have hrt := right14_spec ⟨(k, n), x32, rs⟩
      have h11 := ref11right_spec l (by omega)
      have hcs := judge_cases ⟨(k, n), x32, rs⟩ l r
      rcases hcs with ⟨hR, hJ⟩ | ⟨hR, hT, hJ⟩ | ⟨hR, hT, hJ, hv⟩
      · rw [why_bad hJ (by decide)] at hwy
        rw [hR] at hrt
        exact jr_bad1 k n x32 rs l r hlt hfew hof hrw hrc hawk hwy hrt
      · rw [why_bad hJ (by decide)] at hwy
        rw [hR] at hrt
        exact jr_bad2 k n x32 rs l r _ _ (fun e => hT ((tab_right l).2 e)) hlt hfew hof hrw hrc hawk hwy hrt h11
      · rw [why_eq hR hT] at hwy
        rw [hR] at hrt
        rw [(tab_right l).1 hT] at h11
        have ho12 := of12_spec l r hr (by omega)
        have hrj := refjudge_spec ⟨(k, n), x32, rs⟩ l r hpo hR (by omega) hr
        have hrl := refrule_spec ⟨(k, n), x32, rs⟩ l r hpo hR (by omega) hr
        have hrg := ruleQ_rng (p := ⟨(k, n), x32, rs⟩) (l := l) (r := r) hpo.1
        have hlo := fun j => atO_lt (l := l) (r := r) (i := j)
        obtain ⟨m, hm1, hm2, hm3, hm4⟩ := mux_k r
        obtain ⟨k9, n9, hk9, hn9, hj9⟩ := judgeQ_parts (p := ⟨(k, n), x32, rs⟩) (l := l) (r := r) hR hT
        have hns : (nmO l (atO l r)).size ≤ 1000000 := by
          cases ha : atO l r with
          | none => exact Nat.zero_le _
          | some j =>
            have hj := hlo j ha
            exact Nat.le_trans (hn60 _ (by simp [List.getD, hj] : l.getD j trow0 ∈ l)) (by decide)
        have hmu0 : muxB r = false → muxQ r = 0 := fun h => by unfold muxQ; rw [h]; rfl
        unfold of12A at ho12
        unfold wQ outQ at hwy
        rcases sel_cases r.arch r.num with hs | ⟨a, hs, ha⟩
        · have ht1 := jtext_spec false 0 (nmO l (atO l r)) m (decide (selI r.arch r.num = 1) && !x32) (ruleQ ⟨(k, n), x32, rs⟩ l r) k9 n9 (by decide) hm2 hns hrg hk9 hn9
          have ht2 := reftext_none k n x32 rs l r (selI r.arch r.num) (optI (atO l r)) (muxB r) k9 n9 hk9 hn9 hs ho12 (nmO l (atO l r)) ((0 : Nat) : Int) (m : Int) (ruleQ ⟨(k, n), x32, rs⟩ l r) (decide (selI r.arch r.num = 1) && !x32) (kb k9 + n9)
          rw [← hj9, ← hm1] at ht1 ht2
          rw [if_pos hs, decide_eq_false (by omega : ¬ 0 ≤ selI r.arch r.num)] at hwy
          exact jr_good k n x32 rs l r _ _ _ _ _ _ _ _ _ _ _ _ hlt hfew hof hrw hrc hawk hwy hrt h11 ho12 hrj hrl ht1 ht2 hv (decide_eq_false (by omega)) (if_pos hs) rfl hmu0 hm4 rfl hlo
        · have ht1 := jtext_spec true a (nmO l (atO l r)) m (decide (selI r.arch r.num = 1) && !x32) (ruleQ ⟨(k, n), x32, rs⟩ l r) k9 n9 ha hm2 hns hrg hk9 hn9
          rw [hs] at ho12
          have ht2 := reftext_some k n x32 rs l r a (atO l r) (muxB r) m (decide (selI r.arch r.num = 1) && !x32) (ruleQ ⟨(k, n), x32, rs⟩ l r) k9 n9 hk9 hn9 ha ho12 (fun j hj => ⟨hlo j hj, by have := hns; rw [hj] at this; exact this⟩) (fun j hj => tab_name hT (hlo j hj)) hm3 (by rw [hs]) hrg hrl
          rw [← hj9, ← hm1] at ht1 ht2
          rw [hs, if_neg (by omega), decide_eq_true (by omega : (0 : Int) ≤ a)] at hwy
          rw [hs] at ht1 ht2
          exact jr_good k n x32 rs l r _ _ _ _ _ _ _ _ _ _ _ _ hlt hfew hof hrw hrc hawk hwy hrt h11 ho12 hrj hrl ht1 ht2 hv (decide_eq_true (by omega)) (if_neg (by omega)) rfl hmu0 hm4 rfl hlo
end Go.Proofs.W
