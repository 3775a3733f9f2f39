import Derived.Test.YtghikejaadkalaaGreatDoorD
import Derived.Test.YtghikejaadkalaaGreatDoorC
import Derived.KernelRfl
import Derived.Test.YtghikejaadkalaaGreatDoorProg
import Derived.Shelf.SortM.Plain
import Derived.Shelf.SortM.SortNone
import Derived.Shelf.SlGeneric
import Derived.Ground.SlgmProg
import Derived.Sort.Walk0
import Derived.Shelf.Strings.Search1
import Derived.Shelf.Strings.FieldsFuncGrows
import Derived.Ground.NamesProg
import Derived.Shelf.Lay
import Derived.Shelf.Small.Bits
import Derived.Lib.ItoaNum
import Derived.Sort.LotA
set_option linter.unusedVariables false
set_option linter.unusedSimpArgs false
namespace Go.Proofs.W
open Go.Vl
set_option maxRecDepth 100000

structure CallR where
  some : Bool
  abi : Int
  name : ByteArray
  muxed : Bool
def callC (c : CallR) : List AV := [boolA c.some, int c.abi, strA c.name, boolA c.muxed]
def callA (c : CallR) : AV := .ag (callC c)
def call0 : CallR := ⟨false, 0, ⟨#[]⟩, false⟩
def selO (arch num : Nat) : Option Nat := (infN.find? (selB arch (withB num))).map (·.1)
theorem selA_eq (arch num : Nat) : selA arch num = match selO arch num with
    | some a => .tup [int a, boolA true]
    | none => .tup [int 0, boolA false] := by
  unfold selA selO
  cases infN.find? (selB arch (withB num)) <;> rfl
theorem selO_lt {arch num a : Nat} (h : selO arch num = some a) : a < 5 := by
  unfold selO at h
  obtain ⟨x, hx, rfl⟩ := Option.map_eq_some_iff.1 h
  have := List.mem_of_find?_eq_some hx
  simp only [infN, List.mem_cons, List.not_mem_nil, or_false] at this
  rcases this with rfl | rfl | rfl | rfl | rfl <;> decide
def kindO (a num : Nat) : Nat := if a = 2 then kindI num else 0
/-- Which call a record is. -/
def ofI (l : List TRow) (r : Rec) : CallR := match selO r.arch r.num with
  | none => call0
  | some a => if 0 < kindO a r.num then ⟨true, a, nameO l (l.findIdx? (subB (kindO a r.num) ((r.a0 % 4294967296 : Nat) : Int))), true⟩
    else ⟨true, a, nameO l (l.findIdx? (nameB5 a ((ownI a r.num : Nat) : Int))), false⟩
theorem int2 {a : Nat} : ((a : Int) == 2) = decide (a = 2) := by
  rw [Bool.eq_iff_iff]; simp; omega
set_option maxHeartbeats 4000000 in
theorem muxof_spec (l : List TRow) (r : Rec) (hr : r.ok) (hl : l.length ≤ 1000000000) : Tells Tryz.prog 24 [trows l, recA r] (callA (ofI l r)) := by
  have hs := select_spec r.arch r.num hr.2.1 hr.1
  rw [selA_eq] at hs
  unfold ofI
  cases hso : selO r.arch r.num with
  | none =>
    rw [hso] at hs
    refine tells_of_aw Tryz.func24 rfl rfl fun nx => ?_
    refine stp ?_
    refine aop_tells rfl rfl hs ⟨AVle.refl _, AVle.refl _, trivial⟩ fun nx2 => ?_
    refine stp ?_
    exact ret_tells_all rfl ⟨rfl, trivial⟩ (AVle.refl _)
  | some a =>
    rw [hso] at hs
    dsimp only at hs ⊢
    have ha := selO_lt hso
    have hk := muxkind_spec r.num
    have hm := fun k => muxed_spec l k r hl
    have hd := direct_spec l a ha r hr hl
    by_cases e : a = 2
    · have ek : kindO a r.num = kindI r.num := if_pos e
      rw [ek]
      have hm := hm (kindI r.num)
      generalize kindI r.num = k at hk hm ⊢
      by_cases hk0 : 0 < k
      · rw [if_pos hk0]
        have hd0 : decide ((k : Int) > 0) = true := decide_eq_true (by omega)
        refine tells_of_aw Tryz.func24 rfl rfl fun nx => ?_
        refine stp ?_
        refine aop_tells rfl rfl hs ⟨AVle.refl _, AVle.refl _, trivial⟩ fun nx2 => ?_
        refine stp ?_
        intro c hc
        have hc2 : c = decide (a = 2) := hc.trans int2
        clear hc
        have hc3 : c = true := hc2.trans (decide_eq_true e)
        clear hc2; subst hc3
        refine stpR ?_
        refine aw_region ?_
        refine stpR ?_
        refine aop_tells rfl rfl hk ⟨AVle.refl _, trivial⟩ fun nx3 => ?_
        refine stpR ?_
        refine aw_freeze (n := 41) (nx := nx3) (nn := 6) (pm := []) (bx := [((4, nx2 + 1), .c (callC ⟨true, a, ⟨#[]⟩, false⟩)), ((2, nx + 2), .c (callC call0))]) (L := [(2, .rp [trows l]), (3, .rp (recC r)), (4, .bp (2, nx + 2) 0), (5, .rp [int a]), (7, .bp (4, nx2 + 1) 0), (8, .rp [int k])]) (df := some []) [((5, nx2 + 2), .c [int k]), ((3, nx2), .c [int a]), ((1, nx + 1), .c (recC r)), ((0, nx), .c [trows l])] rfl rfl rfl (.cons _ ((List.Perm.swap _ _ _).trans (.cons _ (List.perm_append_comm (l₁ := [_, _]) (l₂ := [_, _]))))) (List.Sublist.refl _) ⟨Frz.bp (.tail _ (.tail _ (.tail _ (.head _)))) rfl, Frz.bp (.tail _ (.tail _ (.head _))) rfl, Frz.refl _, Frz.bp (.tail _ (.head _)) rfl, Frz.refl _, Frz.bp (.head _) rfl, trivial⟩ ?_
        refine stp ?_
        (conv => whnf)
        refine lit_eq hd0 ?_
        refine stp ?_
        refine aop_tells rfl rfl hm ⟨AVle.refl _, AVle.refl _, AVle.refl _, trivial⟩ fun nx4 => ?_
        refine stp ?_
        exact ret_tells_all rfl ⟨rfl, trivial⟩ (AVle.refl _)
      · obtain rfl : k = 0 := by omega
        rw [if_neg hk0]
        refine tells_of_aw Tryz.func24 rfl rfl fun nx => ?_
        refine stp ?_
        refine aop_tells rfl rfl hs ⟨AVle.refl _, AVle.refl _, trivial⟩ fun nx2 => ?_
        refine stp ?_
        intro c hc
        have hc2 : c = decide (a = 2) := hc.trans int2
        clear hc
        have hc3 : c = true := hc2.trans (decide_eq_true e)
        clear hc2; subst hc3
        refine stpR ?_
        refine aw_region ?_
        refine stpR ?_
        refine aop_tells rfl rfl hk ⟨AVle.refl _, trivial⟩ fun nx3 => ?_
        refine stpR ?_
        refine aw_freeze (n := 41) (nx := nx3) (nn := 6) (pm := []) (bx := [((4, nx2 + 1), .c (callC ⟨true, a, ⟨#[]⟩, false⟩)), ((2, nx + 2), .c (callC call0))]) (L := [(2, .rp [trows l]), (3, .rp (recC r)), (4, .bp (2, nx + 2) 0), (5, .rp [int a]), (7, .bp (4, nx2 + 1) 0), (8, .rp [int ((0 : Nat) : Int)])]) (df := some []) [((5, nx2 + 2), .c [int ((0 : Nat) : Int)]), ((3, nx2), .c [int a]), ((1, nx + 1), .c (recC r)), ((0, nx), .c [trows l])] rfl rfl rfl (.cons _ ((List.Perm.swap _ _ _).trans (.cons _ (List.perm_append_comm (l₁ := [_, _]) (l₂ := [_, _]))))) (List.Sublist.refl _) ⟨Frz.bp (.tail _ (.tail _ (.tail _ (.head _)))) rfl, Frz.bp (.tail _ (.tail _ (.head _))) rfl, Frz.refl _, Frz.bp (.tail _ (.head _)) rfl, Frz.refl _, Frz.bp (.head _) rfl, trivial⟩ ?_
        refine stp ?_
        refine aop_tells rfl rfl hd ⟨AVle.refl _, AVle.refl _, AVle.refl _, trivial⟩ fun nx4 => ?_
        refine stp ?_
        exact ret_tells_all rfl ⟨rfl, trivial⟩ (AVle.refl _)
    · have ek : kindO a r.num = 0 := if_neg e
      rw [ek, if_neg (by decide)]
      refine tells_of_aw Tryz.func24 rfl rfl fun nx => ?_
      refine stp ?_
      refine aop_tells rfl rfl hs ⟨AVle.refl _, AVle.refl _, trivial⟩ fun nx2 => ?_
      refine stp ?_
      intro c hc
      have hc2 : c = decide (a = 2) := hc.trans int2
      clear hc
      have hc3 : c = false := hc2.trans (decide_eq_false e)
      clear hc2; subst hc3
      refine stpR ?_
      refine aw_freeze (n := 41) (nx := nx2 + 3) (nn := 6) (pm := []) (bx := [((4, nx2 + 1), .c (callC ⟨true, a, ⟨#[]⟩, false⟩)), ((2, nx + 2), .c (callC call0))]) (L := [(2, .rp [trows l]), (3, .rp (recC r)), (4, .bp (2, nx + 2) 0), (5, .rp [int a]), (7, .bp (4, nx2 + 1) 0), (8, .rp [int 0])]) (df := some []) [((5, nx2 + 2), .c [int 0]), ((3, nx2), .c [int a]), ((1, nx + 1), .c (recC r)), ((0, nx), .c [trows l])] rfl rfl rfl (.cons _ ((List.Perm.swap _ _ _).trans (.cons _ (List.perm_append_comm (l₁ := [_, _]) (l₂ := [_, _]))))) (List.Sublist.refl _) ⟨Frz.bp (.tail _ (.tail _ (.tail _ (.head _)))) rfl, Frz.bp (.tail _ (.tail _ (.head _))) rfl, Frz.refl _, Frz.bp (.tail _ (.head _)) rfl, Frz.refl _, Frz.bp (.head _) rfl, trivial⟩ ?_
      refine stp ?_
      refine aop_tells rfl rfl hd ⟨AVle.refl _, AVle.refl _, AVle.refl _, trivial⟩ fun nx4 => ?_
      refine stp ?_
      exact ret_tells_all rfl ⟨rfl, trivial⟩ (AVle.refl _)
end Go.Proofs.W

namespace Go.Proofs.W
open Go.Vl
set_option maxRecDepth 100000

theorem splitV_to {a b : AV} {K : AV → Prop} (h : a = b) (hk : splitV b K) : splitV a K := h ▸ hk
end Go.Proofs.W

namespace Go.Proofs.W
open Go.Vl
set_option maxRecDepth 100000

/- Maps by names, of anything: how they are looked up, how they grow; frozen with what they point to. -/
def kS (s t : ByteArray) : Bool := s.toList == t.toList
theorem kS_eq {s t : ByteArray} : kS s t = true ↔ s = t := by
  unfold kS
  rw [beq_iff_eq, Lib.toList_data, Lib.toList_data]
  constructor
  · intro h
    obtain ⟨⟨a⟩⟩ := s
    obtain ⟨⟨b⟩⟩ := t
    simpa using h
  · rintro rfl; rfl
section
variable {α : Type} {nm : α → ByteArray} {val : α → AV}
end
end Go.Proofs.W

namespace Go.Proofs.W
open Go.Vl
set_option maxRecDepth 100000

/-- What is gathered of a name, and where it stands. -/
structure Ent where
  name : ByteArray
  m : Nat
  a : Nat → Nat
  b : Nat → Bool
  st : Nat
/-- What is gathered, without places. -/
structure Gat where
  name : ByteArray
  m : Nat
  a : Nat → Nat
  b : Nat → Bool
end Go.Proofs.W

namespace Go.Proofs.W
open Go.Vl
set_option maxRecDepth 100000

theorem size0 {s : ByteArray} : (s.toList == (⟨#[]⟩ : ByteArray).toList) = decide (s.size = 0) := by
  rw [Lib.toList_data, Lib.toList_data, Bool.eq_iff_iff, beq_iff_eq, decide_eq_true_iff]
  obtain ⟨⟨a⟩⟩ := s
  show a = [] ↔ a.length = 0
  exact List.length_eq_zero_iff.symm
theorem ofI_abi {l : List TRow} {r : Rec} (h : ¬ (ofI l r).name.size = 0) : (ofI l r).abi.toNat < 5 ∧ (ofI l r).abi = ((ofI l r).abi.toNat : Int) := by
  unfold ofI at h ⊢
  cases hs : selO r.arch r.num with
  | none => rw [hs] at h; exact absurd rfl h
  | some a =>
    have ha := selO_lt hs
    dsimp only
    split
    · exact ⟨by simpa using ha, by simp⟩
    · exact ⟨by simpa using ha, by simp⟩
theorem noid_arr {x : Nat → Nat} : NoId (arrA x) := by unfold arrA; exact NoId.ag (by intro y hy; simp at hy; rcases hy with rfl | rfl | rfl | rfl | rfl | rfl <;> exact NoId.v _)
end Go.Proofs.W

namespace Go.Proofs.W
open Go.Vl
set_option maxRecDepth 100000

end Go.Proofs.W

namespace Go.Proofs
open Go.Shelf
shelf_lay_g SlLaysM.n6 Slgm 6 at Tryz 127 as Tryz.laysM6
end Go.Proofs
namespace Go.Proofs.W
open Go.Vl Go.Shelf
set_option maxRecDepth 100000

end Go.Proofs.W

namespace Go.Proofs.W
open Go.Vl
set_option maxRecDepth 100000

abbrev Seen := List (Int × Int)
def numsR (r : TRow) (S : Seen) : Nat → Option Seen
  | 0 => some S
  | k + 1 => match numsR r S k with
    | none => none
    | some S => if r.num k = -1 then some S else if ((k : Int), r.num k) ∈ S then none else some (S ++ [((k : Int), r.num k)])
def muxR (r : TRow) (S : Seen) : Option Seen := if r.mux = 0 then some S else if (5 + r.mux, r.sub) ∈ S then none else some (S ++ [(5 + r.mux, r.sub)])
def leB (s t : ByteArray) : Bool := Op.bytesLess s.toList t.toList || s.toList == t.toList
def rowE (l : List TRow) (i : Nat) (S : Seen) : Except Int Seen :=
  if nameB (l.getD i trow0).name.data.toList = false then .error 13
  else if 0 < i ∧ leB (l.getD i trow0).name (l.getD (i - 1) trow0).name = true then .error 15
  else if rangedR (l.getD i trow0) = false then .error 16
  else if (l.getD i trow0).a2 = 102 ∨ (l.getD i trow0).a2 = 117 then .error 17
  else match numsR (l.getD i trow0) S 5 with
    | none => .error 15
    | some S => match muxR (l.getD i trow0) S with
      | none => .error 15
      | some S => .ok S
def rowsS (l : List TRow) : Nat → Except (Nat × Int) Seen
  | 0 => .ok []
  | k + 1 => match rowsS l k with
    | .error e => .error e
    | .ok S => match rowE l k S with
      | .error e => .error (k, e)
      | .ok S => .ok S
def tabR (l : List TRow) : Int × Int := if 400 < l.length then (0, 3) else match rowsS l l.length with
  | .error e => ((e.1 : Int), e.2)
  | .ok _ => (0, 0)
theorem rowsS_err {l : List TRow} {k : Nat} {e : Nat × Int} (h : rowsS l k = .error e) : ∀ {m : Nat}, k ≤ m → rowsS l m = .error e := by
  intro m hm
  induction m with
  | zero => obtain rfl : k = 0 := by omega
            exact h
  | succ m ih =>
    rcases Nat.lt_or_ge m k with q | q
    · rw [show m + 1 = k by omega]; exact h
    · unfold rowsS; rw [ih q]
theorem tab_err {l : List TRow} {i : Nat} {S : Seen} {e : Int} (hl : ¬ 400 < l.length) (hi : i < l.length) (h : rowsS l i = .ok S) (he : rowE l i S = .error e) : tabR l = ((i : Int), e) := by
  have h1 : rowsS l (i + 1) = .error (i, e) := by unfold rowsS; rw [h]; dsimp only; rw [he]
  unfold tabR
  rw [if_neg hl, rowsS_err h1 hi]
theorem tab_ok {l : List TRow} {S : Seen} (hl : ¬ 400 < l.length) (h : rowsS l l.length = .ok S) : tabR l = (0, 0) := by
  unfold tabR
  rw [if_neg hl, h]
theorem rows_next {l : List TRow} {i : Nat} {S S' : Seen} (h : rowsS l i = .ok S) (he : rowE l i S = .ok S') : rowsS l (i + 1) = .ok S' := by
  unfold rowsS; rw [h]; dsimp only; rw [he]
theorem nums_skip {r : TRow} {S S' : Seen} {k : Nat} (h : numsR r S k = some S') (hn : r.num k = -1) : numsR r S (k + 1) = some S' := by
  unfold numsR; rw [h]; dsimp only; rw [if_pos hn]
theorem nums_in {r : TRow} {S S' : Seen} {k : Nat} (h : numsR r S k = some S') (hn : ¬ r.num k = -1) (hm : ((k : Int), r.num k) ∈ S') : numsR r S (k + 1) = none := by
  unfold numsR; rw [h]; dsimp only; rw [if_neg hn, if_pos hm]
theorem nums_new {r : TRow} {S S' : Seen} {k : Nat} (h : numsR r S k = some S') (hn : ¬ r.num k = -1) (hm : ¬ ((k : Int), r.num k) ∈ S') : numsR r S (k + 1) = some (addA ((k : Int), r.num k) S') := by
  unfold numsR addA; rw [h]; dsimp only; rw [if_neg hn, if_neg hm, if_neg hm]
theorem nums_none {r : TRow} {S : Seen} {k : Nat} (h : numsR r S k = none) : ∀ {m : Nat}, k ≤ m → numsR r S m = none := by
  intro m hm
  induction m with
  | zero => obtain rfl : k = 0 := by omega
            exact h
  | succ m ih =>
    rcases Nat.lt_or_ge m k with q | q
    · rw [show m + 1 = k by omega]; exact h
    · unfold numsR; rw [ih q]
def ordB (l : List TRow) (i : Nat) : Bool := decide (0 < i) && leB (l.getD i trow0).name (l.getD (i - 1) trow0).name
theorem ord_iff {l : List TRow} {i : Nat} : ordB l i = true ↔ 0 < i ∧ leB (l.getD i trow0).name (l.getD (i - 1) trow0).name = true := by unfold ordB; simp
theorem rowE_13 {l : List TRow} {i : Nat} {S : Seen} (h : nameB (l.getD i trow0).name.data.toList = false) : rowE l i S = .error 13 := if_pos h
theorem rowE_15 {l : List TRow} {i : Nat} {S : Seen} (h : nameB (l.getD i trow0).name.data.toList = true) (h2 : ordB l i = true) : rowE l i S = .error 15 := by
  unfold rowE; rw [if_neg (by rw [h]; decide), if_pos (ord_iff.1 h2)]
theorem rowE_16 {l : List TRow} {i : Nat} {S : Seen} (h : nameB (l.getD i trow0).name.data.toList = true) (h2 : ordB l i = false) (h3 : rangedR (l.getD i trow0) = false) : rowE l i S = .error 16 := by
  unfold rowE; rw [if_neg (by rw [h]; decide), if_neg (by rw [← ord_iff, h2]; decide), if_pos h3]
theorem rowE_17 {l : List TRow} {i : Nat} {S : Seen} (h : nameB (l.getD i trow0).name.data.toList = true) (h2 : ordB l i = false) (h3 : rangedR (l.getD i trow0) = true) (h4 : (l.getD i trow0).a2 = 102 ∨ (l.getD i trow0).a2 = 117) : rowE l i S = .error 17 := by
  unfold rowE; rw [if_neg (by rw [h]; decide), if_neg (by rw [← ord_iff, h2]; decide), if_neg (by rw [h3]; decide), if_pos h4]
theorem rowE_rest {l : List TRow} {i : Nat} {S : Seen} (h : nameB (l.getD i trow0).name.data.toList = true) (h2 : ordB l i = false) (h3 : rangedR (l.getD i trow0) = true) (h4 : ¬ ((l.getD i trow0).a2 = 102 ∨ (l.getD i trow0).a2 = 117)) : rowE l i S = match numsR (l.getD i trow0) S 5 with
    | none => .error 15
    | some S => match muxR (l.getD i trow0) S with
      | none => .error 15
      | some S => .ok S := by
  unfold rowE; rw [if_neg (by rw [h]; decide), if_neg (by rw [← ord_iff, h2]; decide), if_neg (by rw [h3]; decide), if_neg h4]
theorem ranged_mux {r : TRow} (h : rangedR r = true) (h0 : ¬ r.mux = 0) : r.mux = 1 ∨ r.mux = 2 := by
  unfold rangedR at h
  rw [if_neg h0] at h
  simp only [Bool.and_eq_true, Bool.or_eq_true, decide_eq_true_eq] at h
  exact h.2.1.1
set_option maxHeartbeats 4000000 in
theorem tabright_spec (l : List TRow) (hl : l.length ≤ 1000000) (hn : ∀ r ∈ l, r.name.size ≤ maxLen) : Tells Tryz.prog 23 [trows l] (.tup [int (tabR l).1, int (tabR l).2]) := by
  refine tells_of_aw Tryz.func23 rfl rfl fun nx => ?_
  refine stp ?_
  intro c g4; cases c
  rotate_left
  · have g4 : 400 < l.length := by have := yes_of g4; omega
    have e : tabR l = (0, 3) := by unfold tabR; rw [if_pos g4]
    rw [e]
    refine stp ?_
    exact ret_tells rfl (AVle.refl _)
  have g4 : ¬ 400 < l.length := by have := not_of g4; omega
  refine stp ?_
  refine aw_loop (fun y : Nat × Seen × Nat => mk 88 [(0, trows l), (2, int 0), (3, int 0), (4, .om (0, nx)), (14, trows l), (15, int l.length), (16, int y.1)] ⟨[((0, nx), .mp (y.2.1.map entA))], [], y.2.2, 1⟩) (fun y => y.1 ≤ l.length ∧ rowsS l y.1 = .ok y.2.1) (fun y => l.length - y.1) ?_ ?_
  · exact ⟨(0, [], nx + 1), ⟨Nat.zero_le _, rfl⟩, ele_tell _ _ rfl rfl (List.Sublist.refl _) (List.Sublist.refl _) (BxLe.refl _) trivial ⟨AVle.refl _, AVle.refl _, AVle.refl _, AVle.refl _, AVle.refl _, AVle.refl _, AVle.refl _, trivial⟩⟩
  · rintro ⟨i, S, nx1⟩ ⟨h1, h2⟩
    dsimp only at h1 h2
    refine stp ?_
    intro c g; cases c
    · have g := not_of g
      try dsimp only at g
      have hi : i = l.length := by omega
      subst hi
      rw [tab_ok g4 h2]
      refine stp ?_
      exact ret_tells rfl (AVle.refl _)
    · have g := yes_of g
      try dsimp only at g
      have hi : i < l.length := by omega
      have hmem : l.getD i trow0 ∈ l := by simp [List.getD, hi]
      have hnm := named_spec (l.getD i trow0).name (Nat.le_trans (hn _ hmem) (by decide))
      have hrg := ranged_spec (l.getD i trow0)
      have herr := fun e => tab_err (e := e) g4 hi h2
      have hnext := fun S' => rows_next (S' := S') h2
      refine stp ?_
      refine ⟨⟨by first | omega | (dsimp only; omega), by first | omega | (dsimp only; omega)⟩, ?_⟩
      refine stp ?_
      cases hb : nameB (l.getD i trow0).name.data.toList with
      | false =>
        rw [hb] at hnm
        refine aop_tells rfl rfl hnm ⟨AVle.refl _, trivial⟩ fun nx2 => ?_
        refine stp ?_
        rw [herr 13 (rowE_13 hb)]
        exact ret_tells rfl (AVle.refl _)
      | true =>
        rw [hb] at hnm
        refine aop_tells rfl rfl hnm ⟨AVle.refl _, trivial⟩ fun nx2 => ?_
        refine stp ?_
        refine aw_mid (fun y : Nat => mk 88 [(0, trows l), (2, int 0), (3, int 0), (4, .om (0, nx)), (5, int i), (6, .bp (1, nx1) 0), (7, int (l.getD i trow0).a2), (14, trows l), (15, int l.length), (16, int i), (30, boolA (ordB l i))] ⟨[((1, nx1), .c (trowC (l.getD i trow0))), ((0, nx), .mp (S.map entA))], [], y, 2⟩) (fun _ => True) ?_ ?_
        · by_cases h0 : 0 < i
          · have hd : decide ((i : Int) > 0) = true := decide_eq_true (by omega)
            have hi1 : IntKind.i64.wrap ((i : Int) - 1) = ((i - 1 : Nat) : Int) := by rw [wrap_id (by omega) (by omega)]; omega
            (refine aw_draw 13 ?_ ?_ ?_ ?_; (· kernel_rfl); (· kernel_rfl); (· kernel_rfl))
            refine stp ?_
            (conv => whnf)
            refine lit_eq hd ?_
            refine stp ?_
            refine ⟨⟨ixge (i := i - 1) hi1, ixlt (i := i - 1) hi1 (by omega)⟩, splitO_eq (b := .rp (trowC (l.getD (i - 1) trow0))) (congrArg (fun z : Int => AV.rp (trowC (l.getD z.toNat trow0))) hi1) ?_⟩
            refine stp ?_
            intro c hc
            have hc2 : c = ordB l i := hc.trans (by unfold ordB; rw [decide_eq_true h0, Bool.true_and]; rfl)
            clear hc
            rw [← hc2]
            clear hc2
            cases c
            all_goals
              refine stp ?_
              exact ⟨nx2, trivial, ele_tell _ _ rfl rfl (List.Sublist.refl _) (List.Sublist.refl _) (BxLe.refl _) trivial ⟨AVle.refl _, AVle.refl _, AVle.refl _, AVle.refl _, AVle.refl _, AVle.refl _, AVle.refl _, AVle.refl _, AVle.refl _, AVle.refl _, AVle.refl _, trivial⟩⟩
          · have hd : decide ((i : Int) > 0) = false := decide_eq_false (by omega)
            have hq : ordB l i = false := by unfold ordB; rw [decide_eq_false h0]; rfl
            rw [hq]
            (refine aw_draw 13 ?_ ?_ ?_ ?_; (· kernel_rfl); (· kernel_rfl); (· kernel_rfl))
            refine stp ?_
            (conv => whnf)
            refine lit_eq hd ?_
            refine stp ?_
            exact ⟨nx2, trivial, ele_tell _ _ rfl rfl (List.Sublist.refl _) (List.Sublist.refl _) (BxLe.refl _) trivial ⟨AVle.refl _, AVle.refl _, AVle.refl _, AVle.refl _, AVle.refl _, AVle.refl _, AVle.refl _, AVle.refl _, AVle.refl _, AVle.refl _, AVle.refl _, trivial⟩⟩
        · rintro nx3 -
          cases hq : ordB l i with
          | true =>
            refine stp ?_
            rw [herr 15 (rowE_15 hb hq)]
            exact ret_tells rfl (AVle.refl _)
          | false =>
            refine stp ?_
            refine splitO_eq (b := trowA (l.getD i trow0)) rfl ?_
            refine stp ?_
            cases hr : rangedR (l.getD i trow0) with
            | false =>
              rw [hr] at hrg
              refine aop_tells rfl rfl hrg ⟨AVle.refl _, trivial⟩ fun nx4 => ?_
              refine stp ?_
              rw [herr 16 (rowE_16 hb hq hr)]
              exact ret_tells rfl (AVle.refl _)
            | true =>
              rw [hr] at hrg
              refine aop_tells rfl rfl hrg ⟨AVle.refl _, trivial⟩ fun nx4 => ?_
              refine stp ?_
              intro c t1; cases c
              rotate_left
              · have t1 : (l.getD i trow0).a2 = 102 := by simpa using t1.symm
                refine stp ?_
                rw [herr 17 (rowE_17 hb hq hr (.inl t1))]
                exact ret_tells rfl (AVle.refl _)
              have t1 : ¬ (l.getD i trow0).a2 = 102 := by simpa using t1.symm
              refine stp ?_
              intro c t2; cases c
              rotate_left
              · have t2 : (l.getD i trow0).a2 = 117 := by simpa using t2.symm
                refine stp ?_
                rw [herr 17 (rowE_17 hb hq hr (.inr t2))]
                exact ret_tells rfl (AVle.refl _)
              have t2 : ¬ (l.getD i trow0).a2 = 117 := by simpa using t2.symm
              have hrest := rowE_rest (S := S) hb hq hr (fun h => h.elim t1 t2)
              refine stp ?_
              refine aw_midB (fun y : Seen × Nat => mk 88 [(0, trows l), (2, int 0), (3, int 0), (4, .om (0, nx)), (5, int i), (6, .bp (1, nx1) 0), (14, trows l), (15, int l.length), (16, int i)] ⟨[((1, nx1), .c (trowC (l.getD i trow0))), ((0, nx), .mp (y.1.map entA))], [], y.2, 2⟩) (fun y => numsR (l.getD i trow0) S 5 = some y.1) ?_ ?_
              · refine aw_loop (fun y : Nat × Seen × Nat => mk 88 [(0, trows l), (2, int 0), (3, int 0), (4, .om (0, nx)), (5, int i), (6, .bp (1, nx1) 0), (14, trows l), (15, int l.length), (16, int i), (59, arr5 (l.getD i trow0)), (60, int y.1)] ⟨[((1, nx1), .c (trowC (l.getD i trow0))), ((0, nx), .mp (y.2.1.map entA))], [], y.2.2, 2⟩) (fun y => y.1 ≤ 5 ∧ numsR (l.getD i trow0) S y.1 = some y.2.1) (fun y => 5 - y.1) ?_ ?_
                · exact ⟨(0, S, nx4), ⟨Nat.zero_le _, rfl⟩, ele_tell _ _ rfl rfl (List.Sublist.refl _) (List.Sublist.refl _) (BxLe.refl _) trivial ⟨AVle.refl _, AVle.refl _, AVle.refl _, AVle.refl _, AVle.refl _, AVle.refl _, AVle.refl _, AVle.refl _, AVle.refl _, AVle.refl _, AVle.refl _, trivial⟩⟩
                · rintro ⟨k, S', nx5⟩ ⟨hk, hS⟩
                  dsimp only at hk hS
                  rcases k with _ | _ | _ | _ | _ | _ | k
                  · refine stp ?_
                    intro c t; cases c
                    · have t : (l.getD i trow0).num 0 = -1 := by show (l.getD i trow0).a0 = -1; simpa using t.symm
                      refine stp ?_
                      exact back (0 + 1, S', nx5) ⟨by dsimp only; omega, nums_skip hS t⟩ (by dsimp only; omega) (ele_tell _ _ rfl rfl (List.Sublist.refl _) (List.Sublist.refl _) (BxLe.refl _) trivial ⟨AVle.refl _, AVle.refl _, AVle.refl _, AVle.refl _, AVle.refl _, AVle.refl _, AVle.refl _, AVle.refl _, AVle.refl _, AVle.refl _, AVle.refl _, trivial⟩)
                    · have t : ¬ (l.getD i trow0).num 0 = -1 := by show ¬ (l.getD i trow0).a0 = -1; simpa using t.symm
                      refine stp ?_
                      refine aop_callF (xs := [.om (0, nx), int ((0 : Nat) : Int), int ((l.getD i trow0).num 0)]) [((1, nx1), .c (trowC (l.getD i trow0)))] [] 2 rfl rfl rfl rfl ⟨AVle.refl _, AVle.refl _, AVle.refl _, trivial⟩ (met_spec nx nx5 0 S' ((0 : Nat) : Int) ((l.getD i trow0).num 0)) (BxLe.refl _) (PmEq.refl _) rfl fun r h' hq2 => ?_
                      obtain ⟨nx6, nn6, rfl, rfl⟩ := hq2
                      by_cases hm : (((0 : Nat) : Int), (l.getD i trow0).num 0) ∈ S'
                      · have hnone := nums_none (nums_in hS t hm) (show 0 + 1 ≤ 5 by decide)
                        rw [hnone] at hrest
                        rw [decide_eq_true hm]
                        refine stp ?_
                        rw [herr 15 hrest]
                        exact ret_tells rfl (AVle.refl _)
                      · have hnew := nums_new hS t hm
                        rw [decide_eq_false hm]
                        refine stp ?_
                        exact back (0 + 1, addA (((0 : Nat) : Int), (l.getD i trow0).num 0) S', nx6) ⟨by dsimp only; omega, hnew⟩ (by dsimp only; omega) (ele_tell _ _ rfl rfl (List.Sublist.refl _) (List.Sublist.refl _) (BxLe.refl _) trivial ⟨AVle.refl _, AVle.refl _, AVle.refl _, AVle.refl _, AVle.refl _, AVle.refl _, AVle.refl _, AVle.refl _, AVle.refl _, AVle.refl _, AVle.refl _, trivial⟩)
                  · refine stp ?_
                    intro c t; cases c
                    · have t : (l.getD i trow0).num 1 = -1 := by show (l.getD i trow0).a1 = -1; simpa using t.symm
                      refine stp ?_
                      exact back (1 + 1, S', nx5) ⟨by dsimp only; omega, nums_skip hS t⟩ (by dsimp only; omega) (ele_tell _ _ rfl rfl (List.Sublist.refl _) (List.Sublist.refl _) (BxLe.refl _) trivial ⟨AVle.refl _, AVle.refl _, AVle.refl _, AVle.refl _, AVle.refl _, AVle.refl _, AVle.refl _, AVle.refl _, AVle.refl _, AVle.refl _, AVle.refl _, trivial⟩)
                    · have t : ¬ (l.getD i trow0).num 1 = -1 := by show ¬ (l.getD i trow0).a1 = -1; simpa using t.symm
                      refine stp ?_
                      refine aop_callF (xs := [.om (0, nx), int ((1 : Nat) : Int), int ((l.getD i trow0).num 1)]) [((1, nx1), .c (trowC (l.getD i trow0)))] [] 2 rfl rfl rfl rfl ⟨AVle.refl _, AVle.refl _, AVle.refl _, trivial⟩ (met_spec nx nx5 0 S' ((1 : Nat) : Int) ((l.getD i trow0).num 1)) (BxLe.refl _) (PmEq.refl _) rfl fun r h' hq2 => ?_
                      obtain ⟨nx6, nn6, rfl, rfl⟩ := hq2
                      by_cases hm : (((1 : Nat) : Int), (l.getD i trow0).num 1) ∈ S'
                      · have hnone := nums_none (nums_in hS t hm) (show 1 + 1 ≤ 5 by decide)
                        rw [hnone] at hrest
                        rw [decide_eq_true hm]
                        refine stp ?_
                        rw [herr 15 hrest]
                        exact ret_tells rfl (AVle.refl _)
                      · have hnew := nums_new hS t hm
                        rw [decide_eq_false hm]
                        refine stp ?_
                        exact back (1 + 1, addA (((1 : Nat) : Int), (l.getD i trow0).num 1) S', nx6) ⟨by dsimp only; omega, hnew⟩ (by dsimp only; omega) (ele_tell _ _ rfl rfl (List.Sublist.refl _) (List.Sublist.refl _) (BxLe.refl _) trivial ⟨AVle.refl _, AVle.refl _, AVle.refl _, AVle.refl _, AVle.refl _, AVle.refl _, AVle.refl _, AVle.refl _, AVle.refl _, AVle.refl _, AVle.refl _, trivial⟩)
                  · refine stp ?_
                    intro c t; cases c
                    · have t : (l.getD i trow0).num 2 = -1 := by show (l.getD i trow0).a2 = -1; simpa using t.symm
                      refine stp ?_
                      exact back (2 + 1, S', nx5) ⟨by dsimp only; omega, nums_skip hS t⟩ (by dsimp only; omega) (ele_tell _ _ rfl rfl (List.Sublist.refl _) (List.Sublist.refl _) (BxLe.refl _) trivial ⟨AVle.refl _, AVle.refl _, AVle.refl _, AVle.refl _, AVle.refl _, AVle.refl _, AVle.refl _, AVle.refl _, AVle.refl _, AVle.refl _, AVle.refl _, trivial⟩)
                    · have t : ¬ (l.getD i trow0).num 2 = -1 := by show ¬ (l.getD i trow0).a2 = -1; simpa using t.symm
                      refine stp ?_
                      refine aop_callF (xs := [.om (0, nx), int ((2 : Nat) : Int), int ((l.getD i trow0).num 2)]) [((1, nx1), .c (trowC (l.getD i trow0)))] [] 2 rfl rfl rfl rfl ⟨AVle.refl _, AVle.refl _, AVle.refl _, trivial⟩ (met_spec nx nx5 0 S' ((2 : Nat) : Int) ((l.getD i trow0).num 2)) (BxLe.refl _) (PmEq.refl _) rfl fun r h' hq2 => ?_
                      obtain ⟨nx6, nn6, rfl, rfl⟩ := hq2
                      by_cases hm : (((2 : Nat) : Int), (l.getD i trow0).num 2) ∈ S'
                      · have hnone := nums_none (nums_in hS t hm) (show 2 + 1 ≤ 5 by decide)
                        rw [hnone] at hrest
                        rw [decide_eq_true hm]
                        refine stp ?_
                        rw [herr 15 hrest]
                        exact ret_tells rfl (AVle.refl _)
                      · have hnew := nums_new hS t hm
                        rw [decide_eq_false hm]
                        refine stp ?_
                        exact back (2 + 1, addA (((2 : Nat) : Int), (l.getD i trow0).num 2) S', nx6) ⟨by dsimp only; omega, hnew⟩ (by dsimp only; omega) (ele_tell _ _ rfl rfl (List.Sublist.refl _) (List.Sublist.refl _) (BxLe.refl _) trivial ⟨AVle.refl _, AVle.refl _, AVle.refl _, AVle.refl _, AVle.refl _, AVle.refl _, AVle.refl _, AVle.refl _, AVle.refl _, AVle.refl _, AVle.refl _, trivial⟩)
                  · refine stp ?_
                    intro c t; cases c
                    · have t : (l.getD i trow0).num 3 = -1 := by show (l.getD i trow0).a3 = -1; simpa using t.symm
                      refine stp ?_
                      exact back (3 + 1, S', nx5) ⟨by dsimp only; omega, nums_skip hS t⟩ (by dsimp only; omega) (ele_tell _ _ rfl rfl (List.Sublist.refl _) (List.Sublist.refl _) (BxLe.refl _) trivial ⟨AVle.refl _, AVle.refl _, AVle.refl _, AVle.refl _, AVle.refl _, AVle.refl _, AVle.refl _, AVle.refl _, AVle.refl _, AVle.refl _, AVle.refl _, trivial⟩)
                    · have t : ¬ (l.getD i trow0).num 3 = -1 := by show ¬ (l.getD i trow0).a3 = -1; simpa using t.symm
                      refine stp ?_
                      refine aop_callF (xs := [.om (0, nx), int ((3 : Nat) : Int), int ((l.getD i trow0).num 3)]) [((1, nx1), .c (trowC (l.getD i trow0)))] [] 2 rfl rfl rfl rfl ⟨AVle.refl _, AVle.refl _, AVle.refl _, trivial⟩ (met_spec nx nx5 0 S' ((3 : Nat) : Int) ((l.getD i trow0).num 3)) (BxLe.refl _) (PmEq.refl _) rfl fun r h' hq2 => ?_
                      obtain ⟨nx6, nn6, rfl, rfl⟩ := hq2
                      by_cases hm : (((3 : Nat) : Int), (l.getD i trow0).num 3) ∈ S'
                      · have hnone := nums_none (nums_in hS t hm) (show 3 + 1 ≤ 5 by decide)
                        rw [hnone] at hrest
                        rw [decide_eq_true hm]
                        refine stp ?_
                        rw [herr 15 hrest]
                        exact ret_tells rfl (AVle.refl _)
                      · have hnew := nums_new hS t hm
                        rw [decide_eq_false hm]
                        refine stp ?_
                        exact back (3 + 1, addA (((3 : Nat) : Int), (l.getD i trow0).num 3) S', nx6) ⟨by dsimp only; omega, hnew⟩ (by dsimp only; omega) (ele_tell _ _ rfl rfl (List.Sublist.refl _) (List.Sublist.refl _) (BxLe.refl _) trivial ⟨AVle.refl _, AVle.refl _, AVle.refl _, AVle.refl _, AVle.refl _, AVle.refl _, AVle.refl _, AVle.refl _, AVle.refl _, AVle.refl _, AVle.refl _, trivial⟩)
                  · refine stp ?_
                    intro c t; cases c
                    · have t : (l.getD i trow0).num 4 = -1 := by show (l.getD i trow0).a4 = -1; simpa using t.symm
                      refine stp ?_
                      exact back (4 + 1, S', nx5) ⟨by dsimp only; omega, nums_skip hS t⟩ (by dsimp only; omega) (ele_tell _ _ rfl rfl (List.Sublist.refl _) (List.Sublist.refl _) (BxLe.refl _) trivial ⟨AVle.refl _, AVle.refl _, AVle.refl _, AVle.refl _, AVle.refl _, AVle.refl _, AVle.refl _, AVle.refl _, AVle.refl _, AVle.refl _, AVle.refl _, trivial⟩)
                    · have t : ¬ (l.getD i trow0).num 4 = -1 := by show ¬ (l.getD i trow0).a4 = -1; simpa using t.symm
                      refine stp ?_
                      refine aop_callF (xs := [.om (0, nx), int ((4 : Nat) : Int), int ((l.getD i trow0).num 4)]) [((1, nx1), .c (trowC (l.getD i trow0)))] [] 2 rfl rfl rfl rfl ⟨AVle.refl _, AVle.refl _, AVle.refl _, trivial⟩ (met_spec nx nx5 0 S' ((4 : Nat) : Int) ((l.getD i trow0).num 4)) (BxLe.refl _) (PmEq.refl _) rfl fun r h' hq2 => ?_
                      obtain ⟨nx6, nn6, rfl, rfl⟩ := hq2
                      by_cases hm : (((4 : Nat) : Int), (l.getD i trow0).num 4) ∈ S'
                      · have hnone := nums_none (nums_in hS t hm) (show 4 + 1 ≤ 5 by decide)
                        rw [hnone] at hrest
                        rw [decide_eq_true hm]
                        refine stp ?_
                        rw [herr 15 hrest]
                        exact ret_tells rfl (AVle.refl _)
                      · have hnew := nums_new hS t hm
                        rw [decide_eq_false hm]
                        refine stp ?_
                        exact back (4 + 1, addA (((4 : Nat) : Int), (l.getD i trow0).num 4) S', nx6) ⟨by dsimp only; omega, hnew⟩ (by dsimp only; omega) (ele_tell _ _ rfl rfl (List.Sublist.refl _) (List.Sublist.refl _) (BxLe.refl _) trivial ⟨AVle.refl _, AVle.refl _, AVle.refl _, AVle.refl _, AVle.refl _, AVle.refl _, AVle.refl _, AVle.refl _, AVle.refl _, AVle.refl _, AVle.refl _, trivial⟩)
                  · refine stp ?_
                    exact ⟨(S', nx5), hS, ele_tell _ _ rfl rfl (List.Sublist.refl _) (List.Sublist.refl _) (BxLe.refl _) trivial ⟨AVle.refl _, AVle.refl _, AVle.refl _, AVle.refl _, AVle.refl _, AVle.refl _, AVle.refl _, AVle.refl _, AVle.refl _, trivial⟩⟩
                  · omega
              · rintro ⟨S5, nx5⟩ hS
                dsimp only at hS
                refine stp ?_
                intro c t; cases c
                · have t : (l.getD i trow0).mux = 0 := by simpa using t.symm
                  have hmx : muxR (l.getD i trow0) S5 = some S5 := if_pos t
                  rw [hS] at hrest
                  dsimp only at hrest
                  rw [hmx] at hrest
                  have h3 := hnext S5 hrest
                  refine stp ?_
                  exact back (i + 1, S5, nx5) ⟨hi, h3⟩ (by dsimp only; omega) (ele_tell _ _ rfl rfl (.cons _ (List.Sublist.refl _)) (List.Sublist.refl _) (BxLe.refl _) trivial ⟨AVle.refl _, AVle.refl _, AVle.refl _, AVle.refl _, AVle.refl _, AVle.refl _, le_int (wrap_succ (by first | omega | (dsimp only; omega))), trivial⟩)
                · have t : ¬ (l.getD i trow0).mux = 0 := by simpa using t.symm
                  have h12 := ranged_mux hr t
                  have hw : IntKind.i64.wrap (5 + (l.getD i trow0).mux) = 5 + (l.getD i trow0).mux := wrap_id (by omega) (by omega)
                  refine stp ?_
                  refine aop_callF (xs := [.om (0, nx), int (5 + (l.getD i trow0).mux), int (l.getD i trow0).sub]) [((1, nx1), .c (trowC (l.getD i trow0)))] [] 2 rfl rfl rfl rfl ⟨AVle.refl _, le_int hw, AVle.refl _, trivial⟩ (met_spec nx nx5 0 S5 (5 + (l.getD i trow0).mux) (l.getD i trow0).sub) (BxLe.refl _) (PmEq.refl _) rfl fun r h' hq2 => ?_
                  obtain ⟨nx6, nn6, rfl, rfl⟩ := hq2
                  rw [hS] at hrest
                  dsimp only at hrest
                  by_cases hm : (5 + (l.getD i trow0).mux, (l.getD i trow0).sub) ∈ S5
                  · have hmx : muxR (l.getD i trow0) S5 = none := by unfold muxR; rw [if_neg t, if_pos hm]
                    rw [hmx] at hrest
                    rw [decide_eq_true hm]
                    refine stp ?_
                    rw [herr 15 hrest]
                    exact ret_tells rfl (AVle.refl _)
                  · have hmx : muxR (l.getD i trow0) S5 = some (addA (5 + (l.getD i trow0).mux, (l.getD i trow0).sub) S5) := by unfold muxR addA; rw [if_neg t, if_neg hm, if_neg hm]
                    rw [hmx] at hrest
                    have h3 := hnext _ hrest
                    rw [decide_eq_false hm]
                    refine stp ?_
                    exact back (i + 1, addA (5 + (l.getD i trow0).mux, (l.getD i trow0).sub) S5, nx6) ⟨hi, h3⟩ (by dsimp only; omega) (ele_tell _ _ rfl rfl (.cons _ (List.Sublist.refl _)) (List.Sublist.refl _) (BxLe.refl _) trivial ⟨AVle.refl _, AVle.refl _, AVle.refl _, AVle.refl _, AVle.refl _, AVle.refl _, le_int (wrap_succ (by first | omega | (dsimp only; omega))), trivial⟩)
end Go.Proofs.W

namespace Go.Proofs
open Go.Shelf
shelf_lay Lays.n106 Nm 106 at Tryz as Tryz.lays106
end Go.Proofs
namespace Go.Proofs.W
open Go.Vl Go.Shelf
set_option maxRecDepth 100000

theorem ltStr_tot' : ∀ x y : List UInt8, Go.Sort.ltStr x y = false → Go.Sort.ltStr y x = false → x = y := fun x y h1 h2 => by
  simp only [Go.Sort.ltStr, decide_eq_false_iff_not, List.not_lt] at h1 h2
  exact List.le_antisymm h2 h1
theorem leB_no {s t : ByteArray} (h : leB s t = false) : Go.Sort.ltStr t.data.toList s.data.toList = true := by
  unfold leB at h
  rw [Bool.or_eq_false_iff, Go.Proofs.bytesLess_eq, Lib.toList_data, Lib.toList_data] at h
  cases hl : Go.Sort.ltStr t.data.toList s.data.toList with
  | true => rfl
  | false =>
    have e := ltStr_tot' _ _ hl h.1
    rw [e] at h; simp at h
end Go.Proofs.W

namespace Go.Proofs.W
open Go.Vl
set_option maxRecDepth 100000

end Go.Proofs.W

namespace Go.Proofs
open Go.Shelf
shelf_lay Lays.n217 Nm 217 at Tryz as Tryz.lays217
shelf_lay Lays.n229 Nm 229 at Tryz as Tryz.lays229
end Go.Proofs
namespace Go.Proofs.W
open Go.Vl Go.Shelf
set_option maxRecDepth 100000

def i32 (n : Int) : AV := .v (.int .i32 n)
def blankB (x : Nat) : Bool := decide (x = 32) || decide (x = 9) || decide (x = 13)
theorem blank_spec (x : Nat) : Tells Tryz.prog 135 [i32 x] (boolA (blankB x)) := by
  have hb : blankB x = (((x : Int) == 32) || (((x : Int) == 9) || ((x : Int) == 13))) := by
    unfold blankB
    rw [show ((x : Int) == 32) = decide (x = 32) by rw [Bool.eq_iff_iff]; simp; omega, show ((x : Int) == 9) = decide (x = 9) by rw [Bool.eq_iff_iff]; simp; omega, show ((x : Int) == 13) = decide (x = 13) by rw [Bool.eq_iff_iff]; simp; omega, Bool.or_assoc]
  refine tells_of_aw Tryz.func135 rfl rfl fun nx => ?_
  refine stp ?_
  intro c hc
  have hc2 : c = ((x : Int) == 32) := hc
  clear hc
  rw [← hc2] at hb
  clear hc2
  cases c
  · refine stp ?_
    intro c hc
    have hc2 : c = ((x : Int) == 9) := hc
    clear hc
    rw [← hc2, Bool.false_or] at hb
    clear hc2
    cases c
    · refine stp ?_
      intro c hc
      have hc2 : c = ((x : Int) == 13) := hc
      clear hc
      rw [← hc2, Bool.false_or] at hb
      refine stp ?_
      exact ret_tells rfl (le_bool (by exact hb.symm))
    · refine stp ?_
      exact ret_tells rfl (le_bool (by exact hb.symm))
  · refine stp ?_
    exact ret_tells rfl (le_bool (by exact hb.symm))
def lineOk (s : ByteArray) : Prop := ∀ i, i < s.size → (s.get! i).toNat < 128 ∧ (blankB (s.get! i).toNat = true ∨ (32 ≤ (s.get! i).toNat ∧ (s.get! i).toNat ≤ 126))
set_option maxHeartbeats 2000000 in
theorem plain_spec (s : ByteArray) (hs : lineOk s) (hl : s.size ≤ 1000000) : Tells Tryz.prog 133 [strA s] (boolA true) := by
  refine tells_of_aw Tryz.func133 rfl rfl fun nx => ?_
  refine stp ?_
  refine aop_rangeS rfl Tryz.underlying9 rfl ?_
  refine stp ?_
  refine aw_loop (fun y : Nat × Nat => mk 21 [(0, strA s), (6, .bp (0, nx) 0)] ⟨[((0, nx), .si s y.1)], [], y.2, 1⟩) (fun y => y.1 ≤ s.size) (fun y => s.size - y.1) ?_ ?_
  · exact ⟨(0, nx + 1), Nat.zero_le _, ele_tell (pm := []) (bx := [((0, nx), .si s 0)]) _ _ rfl rfl (List.Sublist.refl _) (List.Sublist.refl _) (BxLe.refl _) trivial ⟨AVle.refl _, AVle.refl _, trivial⟩⟩
  · rintro ⟨i, nx1⟩ h1
    dsimp only at h1
    refine stp ?_
    by_cases hi : i < s.size
    · obtain ⟨q1, q2⟩ := hs i hi
      have hd := decode_lo q1
      have hbl := blank_spec (s.get! i).toNat
      generalize (s.get! i).toNat = x at q1 q2 hd hbl
      refine aop_nextSA rfl rfl rfl hi hd ?_
      refine stp ?_
      refine aop_tells rfl rfl hbl ⟨AVle.refl _, trivial⟩ fun nx2 => ?_
      cases hb : blankB x with
      | true =>
        refine stp ?_
        exact back (i + 1, nx2) hi (by dsimp only; omega) (ele_tell (pm := []) (bx := [((0, nx), .si s (i + 1))]) _ _ rfl rfl (List.Sublist.refl _) (List.Sublist.refl _) (BxLe.refl _) trivial ⟨AVle.refl _, AVle.refl _, trivial⟩)
      | false =>
        rw [hb] at q2
        have h32 : 32 ≤ x ∧ x ≤ 126 := q2.resolve_left (by decide)
        refine stp ?_
        (intro c hc; obtain rfl : c = false := hc.trans (by first | exact decide_eq_false (by omega) | (simp; omega)); refine stp ?_)
        (intro c hc; obtain rfl : c = false := hc.trans (by first | exact decide_eq_false (by omega) | (simp; omega)); refine stp ?_)
        exact back (i + 1, nx2) hi (by dsimp only; omega) (ele_tell (pm := []) (bx := [((0, nx), .si s (i + 1))]) _ _ rfl rfl (List.Sublist.refl _) (List.Sublist.refl _) (BxLe.refl _) trivial ⟨AVle.refl _, AVle.refl _, trivial⟩)
    · refine aop_nextS0 rfl rfl rfl hi ?_
      refine stp ?_
      exact ret_tells rfl (AVle.refl _)
end Go.Proofs.W

namespace Go.Proofs.W
open Go.Vl Go.Shelf
set_option maxRecDepth 100000

theorem lidx_spec (s : ByteArray) (c : Int) : Tells Tryz.prog 155 [.v (.string s), .v (.int .u8 c)] (.v (.int .i64 (Lib.indexByte s.data.toList c.toNat.toUInt8))) :=
  tells_of_calls (vs := [.string s, .int .u8 c]) ⟨_, Tryz.func155, rfl, rfl⟩ fun w => (Any.stringslite_IndexByte Tryz.lays217 s c w).mono fun e w' ⟨h1, h2⟩ => ⟨h1, by subst h2; exact ⟨rfl, rfl, rfl, Nat.le_refl _, fun _ _ => rfl⟩⟩
theorem fields_spec (s : ByteArray) (hs : s.size ≤ 1000000) : Tells Tryz.prog 134 [strA s, .fn (.func 135) [] []] (.sl 1 (Lib.goFieldsP blankB s).length fun k => .v (((Lib.goFieldsP blankB s).map Value.string).getD k undef)) := by
  have h := tells_of_row (P := Tryz.prog) (f := 134) (ars := [strA s, .fn (.func 135) [] []]) (vs := [.string s, .func (.func 135) #[] #[]]) (xs := (Lib.goFieldsP blankB s).map Value.string) (t := 9) ⟨_, Tryz.func134, rfl, rfl⟩ (fun w X g us h1 h2 => by
    match us, h1 with
    | [a, b], _ =>
      have ha := h2 0 _ a rfl rfl
      have hb := fn_le _ _ _ _ (h2 1 _ b rfl rfl)
      generalize a = a' at ha
      generalize b = b' at hb
      cases ha
      cases hb
      rfl) (fun w hk => by
    rw [List.length_map]
    exact Any.strings_FieldsFunc_grows Tryz.lays229 135 #[] (fun args w => enters_of Tryz.func135 (by kernel_rfl) rfl args w) blankB s w (by omega) (pred_of_tells (fun x _ => blank_spec x) w hk) (by kernel_rfl) (by kernel_rfl))
  rw [List.length_map] at h
  exact h
set_option maxHeartbeats 1000000 in
theorem idx1_spec (s : ByteArray) (b : UInt8) (hne : ((⟨#[b]⟩ : ByteArray).toList == s.toList) = false) : Tells Tryz.prog 247 [strA s, strA ⟨#[b]⟩] (int (Lib.indexByte s.data.toList b)) := by
  have hi := lidx_spec s (b.toNat : Int)
  have hbb : ((b.toNat : Int).toNat.toUInt8) = b := by simp
  rw [hbb] at hi
  refine tells_of_aw Tryz.func247 rfl rfl fun nx => ?_
  refine stp ?_
  intro c hc
  obtain rfl : c = false := hc.trans hne
  refine stp ?_
  (conv => whnf)
  refine ⟨⟨by decide, (show (0 : Int) < 1 by decide)⟩, ?_⟩
  refine stp ?_
  refine aop_tells rfl rfl hi ⟨AVle.refl _, AVle.refl _, trivial⟩ fun nx2 => ?_
  refine stp ?_
  exact ret_tells rfl (AVle.refl _)
set_option maxHeartbeats 1000000 in
theorem cut0_spec (s : ByteArray) (b : UInt8) (hne : ((⟨#[b]⟩ : ByteArray).toList == s.toList) = false) (h : Lib.indexByte s.data.toList b = -1) : Tells Tryz.prog 172 [strA s, strA ⟨#[b]⟩] (.tup [strA s, strA ⟨#[]⟩, boolA false]) := by
  have hi := idx1_spec s b hne
  rw [h] at hi
  have hc : Tells Tryz.prog 224 [strA s, strA ⟨#[b]⟩] (.tup [strA s, strA ⟨#[]⟩, boolA false]) := by
    refine tells_of_aw Tryz.func224 rfl rfl fun nx => ?_
    refine stp ?_
    refine aop_tells rfl rfl hi ⟨AVle.refl _, AVle.refl _, trivial⟩ fun nx2 => ?_
    refine stp ?_
    exact ret_tells_all rfl trivial (AVle.refl _)
  refine tells_of_aw Tryz.func172 rfl rfl fun nx => ?_
  refine stp ?_
  refine aop_tells rfl rfl hc ⟨AVle.refl _, AVle.refl _, trivial⟩ fun nx2 => ?_
  refine stp ?_
  exact ret_tells_all rfl trivial (AVle.refl _)
theorem index_spec (s : ByteArray) (b : UInt8) (hne : ((⟨#[b]⟩ : ByteArray).toList == s.toList) = false) : Tells Tryz.prog 246 [strA s, strA ⟨#[b]⟩] (int (Lib.indexByte s.data.toList b)) := by
  have hi := idx1_spec s b hne
  refine tells_of_aw Tryz.func246 rfl rfl fun nx => ?_
  refine stp ?_
  refine aop_tells rfl rfl hi ⟨AVle.refl _, AVle.refl _, trivial⟩ fun nx2 => ?_
  refine stp ?_
  exact ret_tells rfl (AVle.refl _)
end Go.Proofs.W

namespace Go.Proofs.W
open Go.Vl Go.Shelf
set_option maxRecDepth 100000

def lineA : ByteArray := ⟨#[100, 101, 102, 97, 117, 108, 116, 32, 107, 105, 108, 108]⟩
def lineB : ByteArray := ⟨#[114, 101, 97, 100, 32, 97, 108, 108, 111, 119]⟩
def textAB : ByteArray := ⟨#[100, 101, 102, 97, 117, 108, 116, 32, 107, 105, 108, 108, 10, 114, 101, 97, 100, 32, 97, 108, 108, 111, 119]⟩
theorem lines_spec (s : ByteArray) : Tells Tryz.prog 132 [strA s] (.fn (.func 170) [] [.rp [strA s]]) := by
  refine tells_of_aw Tryz.func132 rfl rfl fun nx => ?_
  (repeat ((conv=>whnf);first|refine ω0 ?_|refine ω1 ?_|refine ω2 ?_|refine ω3 ?_|refine ω4 rfl ?_|refine ω5 rfl ?_|refine ω6 ?_|refine ω7 ?_|refine ⟨rfl,?_⟩|refine ⟨trivial,?_⟩|refine ⟨⟨rfl,Nat.le_of_ble_eq_true rfl⟩,?_⟩|refine ⟨⟨by kernel_rfl,by kernel_rfl⟩,?_⟩|refine ⟨by decide,?_⟩|refine lit_true ?_|refine lit_false ?_))
  refine AW.le (ele_freeze (L := [(2, .fn (.func 170) [] [.rp [strA s]])]) (bx := []) (pm := []) (nn := 1) [((0, nx), .c [strA s])] rfl rfl (List.Sublist.refl _) .slnil ⟨Frz.fn trivial ⟨Frz.bp (.head _) rfl, trivial⟩, trivial⟩) ?_
  refine stp ?_
  exact ret_tells rfl (AVle.refl _)
def splitB (a : Nat) (s sep : ByteArray) : List (Vl.Id × Own) := [((12, a + 2), .c [int 0]), ((11, a + 1), .c [strA sep]), ((10, a), .c [strA s])]
def splitF (a : Nat) : AV := .fn (.func 245) [] [.bp (11, a + 1) 0, .bp (10, a) 0, .bp (12, a + 2) 0]
theorem splits_spec (s sep : ByteArray) (nx : Nat) : ECall Tryz.prog 223 [strA s, strA sep, int 0] ⟨[], [], nx, 10⟩ fun r h' => r = splitF nx ∧ h' = ⟨splitB nx s sep, [], nx + 3, 13⟩ := by
  refine ecall_of_aw Tryz.func223 rfl rfl ?_
  refine stp ?_
  exact ret_is rfl ⟨rfl, rfl⟩
theorem splitseq_spec (s sep : ByteArray) (nx : Nat) : ECall Tryz.prog 171 [strA s, strA sep] ⟨[], [], nx, 10⟩ fun r h' => r = splitF nx ∧ h' = ⟨splitB nx s sep, [], nx + 3, 13⟩ := by
  refine ecall_of_aw Tryz.func171 rfl rfl ?_
  refine stp ?_
  refine aop_callP (xs := [strA s, strA sep, int 0]) [] [] 13 rfl rfl rfl rfl ⟨AVle.refl _, AVle.refl _, AVle.refl _, trivial⟩ (splits_spec s sep nx) (BxLe.refl _) (PmEq.refl _) rfl fun r h' hq => ?_
  obtain ⟨rfl, rfl⟩ := hq
  refine stp ?_
  exact ret_is rfl ⟨rfl, rfl⟩
def cutT : Nat → ByteArray
  | 0 => textAB
  | _ => lineB
set_option maxHeartbeats 2000000 in
theorem split_iter (a : Nat) : IterAll Tryz.prog 245 [] [.bp (11, a + 1) 0, .bp (10, a) 0, .bp (12, a + 2) 0] (fun s : ByteArray => [strA s]) [lineA, lineB] (splitB a textAB ⟨#[10]⟩) := by
  intro i σ Cb Cp I hc s0 nx nn h0
  refine ECall.wk (ecall_of_aw Tryz.func245 rfl rfl ?_)
  have hi0 := index_spec textAB 10 (by rw [Lib.toList_data, Lib.toList_data]; decide)
  have hi1 := index_spec lineB 10 (by rw [Lib.toList_data, Lib.toList_data]; decide)
  rw [show Lib.indexByte textAB.data.toList 10 = 12 by decide] at hi0
  rw [show Lib.indexByte lineB.data.toList 10 = -1 by decide] at hi1
  refine stp ?_
  refine aw_loop (fun y : Nat × σ × Nat => mk 52 [(0, .yl i), (1, .bp (11, a + 1) 0), (2, .bp (10, a) 0), (3, .bp (12, a + 2) 0)] ⟨splitB a (cutT y.1) ⟨#[10]⟩ ++ Cb y.2.1, Cp y.2.1, y.2.2, nn⟩) (fun y => y.1 ≤ 1 ∧ I ([lineA].take y.1) y.2.1) (fun y => 1 - y.1) ?_ ?_
  · exact ⟨(0, s0, nx), ⟨Nat.zero_le _, h0⟩, ele_tell _ _ rfl rfl (List.Sublist.refl _) (List.Sublist.refl _) (BxLe.refl _) (PmEq.refl _) ⟨AVle.refl _, AVle.refl _, AVle.refl _, AVle.refl _, trivial⟩⟩
  · rintro ⟨k, s, nx1⟩ ⟨k1, hI⟩
    dsimp only at k1 hI
    obtain rfl | rfl : k = 0 ∨ k = 1 := by omega
    · refine stp ?_
      refine aop_tells rfl rfl hi0 ⟨AVle.refl _, AVle.refl _, trivial⟩ fun nx2 => ?_
      refine stp ?_
      (conv => whnf)
      refine ⟨⟨by decide, (by decide : (12 : Int) ≤ 23)⟩, splitO_eq (b := strA lineA) (by kernel_rfl) ?_⟩
      refine stp ?_
      refine aop_hand (pre := []) (x := lineA) (post := [lineB]) (s := s) (splitB a textAB ⟨#[10]⟩) [] rfl rfl rfl hc rfl hI ⟨AVle.refl _, trivial⟩ (fun s' nx' hI' => ?_) (fun s' nx' hJ => hJ.elim)
      refine stp ?_
      exact back (1, s', nx') ⟨Nat.le_refl _, hI'⟩ (by dsimp only; omega) (ele_tell (bx := splitB a lineB ⟨#[10]⟩ ++ Cb s') _ _ rfl rfl (List.Sublist.refl _) (List.Sublist.refl _) ⟨rfl, OwnLe.refl _, rfl, OwnLe.refl _, rfl, ⟨AVle.of_eq (by kernel_rfl), trivial⟩, BxLe.refl _⟩ (PmEq.refl _) ⟨AVle.refl _, AVle.refl _, AVle.refl _, AVle.refl _, trivial⟩)
    · refine stp ?_
      refine aop_tells rfl rfl hi1 ⟨AVle.refl _, AVle.refl _, trivial⟩ fun nx2 => ?_
      refine stp ?_
      refine aop_hand (pre := [lineA]) (x := lineB) (post := []) (s := s) (splitB a lineB ⟨#[10]⟩) [] rfl rfl rfl hc rfl hI ⟨AVle.refl _, trivial⟩ (fun s' nx' hI' => ?_) (fun s' nx' hJ => hJ.elim)
      refine stp ?_
      refine ret_is rfl ⟨_, ⟨Cb s', Cp s', nx', 0⟩, AVle.refl _, ?_, s', hI', rfl, rfl⟩
      exact hle_tell _ _ rfl (List.sublist_append_right _ _) (List.Sublist.refl _) (BxLe.refl _) (PmEq.refl _)
end Go.Proofs.W

namespace Go.Proofs.W
open Go.Vl Go.Shelf
set_option maxRecDepth 100000

def lineE (p : ByteArray × Nat) : List AV := [int p.2, strA p.1]
theorem two_cases {pre post : List ByteArray} {x : ByteArray} (h : [lineA, lineB] = pre ++ x :: post) : (pre = [] ∧ x = lineA ∧ post = [lineB]) ∨ (pre = [lineA] ∧ x = lineB ∧ post = []) := by
  match pre, h with
  | [], h => cases h; exact .inl ⟨rfl, rfl, rfl⟩
  | [_], h => cases h; exact .inr ⟨rfl, rfl, rfl⟩
  | _ :: _ :: pre, h => simp at h
theorem cutA : Tells Tryz.prog 172 [strA lineA, strA ⟨#[35]⟩] (.tup [strA lineA, strA ⟨#[]⟩, boolA false]) := cut0_spec lineA 35 (by rw [Lib.toList_data, Lib.toList_data]; decide) (by decide)
theorem cutB : Tells Tryz.prog 172 [strA lineB, strA ⟨#[35]⟩] (.tup [strA lineB, strA ⟨#[]⟩, boolA false]) := cut0_spec lineB 35 (by rw [Lib.toList_data, Lib.toList_data]; decide) (by decide)
set_option maxHeartbeats 4000000 in
theorem lines_iter : IterAll Tryz.prog 170 [] [.rp [strA textAB]] lineE [(lineA, 1), (lineB, 2)] [] := by
  intro i σ Cb Cp I hc s0 nx nn h0
  refine ECall.wk (ecall_of_aw Tryz.func170 rfl rfl ?_)
  refine AW.le (E' := mk 21 [(0, .yl i), (1, .rp [strA textAB])] ⟨Cb s0, Cp s0, nx, 0⟩ (some [])) (ele_tell _ _ rfl rfl (List.Sublist.refl _) (List.Sublist.refl _) (BxLe.refl _) (PmEq.refl _) ⟨AVle.refl _, AVle.refl _, trivial⟩) ?_
  refine stp ?_
  refine aop_callP (xs := [strA textAB, strA ⟨#[10]⟩]) (bx1 := []) (pm1 := []) (((1, nx + 1), .c [int 0]) :: ((0, nx), .c [.yl i]) :: Cb s0) (Cp s0) 13 rfl rfl rfl (List.append_nil _).symm ⟨AVle.refl _, AVle.refl _, trivial⟩ (splitseq_spec textAB ⟨#[10]⟩ (nx + 2)) (BxLe.refl _) (PmEq.refl _) rfl fun r h' hq => ?_
  obtain ⟨rfl, rfl⟩ := hq
  refine stpR ?_
  refine AW.le (E' := mk 21 [(2, .bp (0, nx) 0), (3, .bp (1, nx + 1) 0), (6, splitF (nx + 2))] ⟨splitB (nx + 2) textAB ⟨#[10]⟩ ++ (((1, nx + 1), .c [int 0]) :: ((0, nx), .c [.yl i]) :: Cb s0), Cp s0, nx + 5, 13⟩ (some [])) (ele_tell _ _ rfl rfl (List.Sublist.refl _) (List.Sublist.refl _) (BxLe.refl _) (by rw [List.append_nil]; exact PmEq.refl _) ⟨AVle.refl _, AVle.refl _, AVle.refl _, trivial⟩) ?_
  refine stpR ?_
  refine aw_forO (σ := σ × Nat) (e := fun s : ByteArray => [strA s]) (xs := [lineA, lineB]) (first' := []) (caps' := [.bp (11, nx + 2 + 1) 0, .bp (10, nx + 2) 0, .bp (12, nx + 2 + 2) 0]) (splitB (nx + 2) textAB ⟨#[10]⟩) (fun y => ((1, nx + 1), .c [int y.2]) :: ((0, nx), .c [.yl i]) :: Cb y.1) (fun y => Cp y.1) (fun pre y => y.2 = pre.length ∧ I (pre.zipIdx 1) y.1) (s0, 0) rfl rfl (split_iter (nx + 2)) (LeL.refl _) (LeL.refl _) rfl rfl ⟨rfl, h0⟩ (fun _ => rfl) ?_ ?_
  · rintro pre x post ⟨s, n⟩ nx3 nn3 hx ⟨hn, hI⟩
    dsimp only at hn hI
    have hcut : Tells Tryz.prog 172 [strA x, strA ⟨#[35]⟩] (.tup [strA x, strA ⟨#[]⟩, boolA false]) := by
      rcases two_cases hx with ⟨_, rfl, _⟩ | ⟨_, rfl, _⟩
      · exact cutA
      · exact cutB
    have hlen : pre.length ≤ 1 := by rcases two_cases hx with ⟨rfl, _⟩ | ⟨rfl, _⟩ <;> decide
    have hX : [(lineA, 1), (lineB, 2)] = pre.zipIdx 1 ++ (x, n + 1) :: post.zipIdx (pre.length + 2) := by
      rw [hn]
      rcases two_cases hx with ⟨rfl, rfl, rfl⟩ | ⟨rfl, rfl, rfl⟩ <;> rfl
    have hI2 : (pre ++ [x]).zipIdx 1 = pre.zipIdx 1 ++ [(x, n + 1)] := by
      rw [hn]
      rcases two_cases hx with ⟨rfl, rfl, rfl⟩ | ⟨rfl, rfl, rfl⟩ <;> rfl
    refine stpR ?_
    refine aw_region ?_
    refine stp ?_
    refine aop_tells rfl rfl hcut ⟨AVle.refl _, AVle.refl _, trivial⟩ fun nx4 => ?_
    refine stp ?_
    refine aop_hand (pre := pre.zipIdx 1) (x := (x, n + 1)) (post := post.zipIdx (pre.length + 2)) (s := s) [_, _, _, _] [] rfl rfl rfl hc hX hI ⟨le_int (wrap_succ (by omega)), AVle.refl _, trivial⟩ (fun s' nx' hI' => ?_) (fun s' nx' hJ => hJ.elim)
    refine stp ?_
    refine ⟨(s', n + 1), .inl ⟨rfl, by simp [hn], by rw [hI2]; exact hI'⟩, ?_, rfl⟩
    have e : IntKind.i64.wrap ((n : Int) + 1) = ((n + 1 : Nat) : Int) := wrap_succ (by omega)
    show _ = _ :: _ :: ((1, nx + 1), Own.c [int ((n + 1 : Nat) : Int)]) :: ((0, nx), Own.c [.yl i]) :: Cb s'
    rw [← e]
    rfl
  · rintro ⟨s', n⟩ nx3 nn3 ⟨hn, hI⟩
    dsimp only at hn hI
    refine stp ?_
    refine ret_is rfl ⟨_, ⟨Cb s', Cp s', nx3, 0⟩, AVle.refl _, ?_, s', hI, rfl, rfl⟩
    exact hle_tell _ _ rfl (.cons _ (.cons _ (.cons _ (List.Sublist.refl _)))) (List.Sublist.refl _) (BxLe.refl _) (PmEq.refl _)
end Go.Proofs.W

namespace Go.Proofs.W
open Go.Vl Go.Shelf
set_option maxRecDepth 100000

def wDefault : ByteArray := ⟨#[100, 101, 102, 97, 117, 108, 116]⟩
def wKill : ByteArray := ⟨#[107, 105, 108, 108]⟩
def wRead : ByteArray := ⟨#[114, 101, 97, 100]⟩
def wAllow : ByteArray := ⟨#[97, 108, 108, 111, 119]⟩
def strsA (l : List ByteArray) : AV := .sl 1 l.length fun k => .v ((l.map Value.string).getD k undef)
def lineV (p : Nat × List ByteArray) : AV := .ag [int p.1, strsA p.2]
def linesA (L : List (Nat × List ByteArray)) : AV := .sl 2 L.length fun k => lineV (L.getD k (0, []))
def fieldsL (s : ByteArray) : List ByteArray := Lib.goFieldsP blankB s
theorem fieldsA : fieldsL lineA = [wDefault, wKill] := by decide +kernel
theorem fieldsB : fieldsL lineB = [wRead, wAllow] := by decide +kernel
theorem plainA : lineOk lineA := by
  intro i hi
  have hi : i < 12 := hi
  rcases (by omega : i = 0 ∨ i = 1 ∨ i = 2 ∨ i = 3 ∨ i = 4 ∨ i = 5 ∨ i = 6 ∨ i = 7 ∨ i = 8 ∨ i = 9 ∨ i = 10 ∨ i = 11) with rfl | rfl | rfl | rfl | rfl | rfl | rfl | rfl | rfl | rfl | rfl | rfl <;> decide
theorem plainB : lineOk lineB := by
  intro i hi
  have hi : i < 10 := hi
  rcases (by omega : i = 0 ∨ i = 1 ∨ i = 2 ∨ i = 3 ∨ i = 4 ∨ i = 5 ∨ i = 6 ∨ i = 7 ∨ i = 8 ∨ i = 9) with rfl | rfl | rfl | rfl | rfl | rfl | rfl | rfl | rfl | rfl <;> decide
def outL (L : List (ByteArray × Nat)) : List (Nat × List ByteArray) := L.map fun p => (p.2, fieldsL p.1)
def rowL (L : List (ByteArray × Nat)) (k : Nat) : AV := lineV ((outL L).getD k (0, []))
theorem bytes_line : Tryz.prog.bytesOf 155 = 32 := by kernel_rfl
theorem pair_cases {pre post : List (ByteArray × Nat)} {x : ByteArray × Nat} (h : [(lineA, 1), (lineB, 2)] = pre ++ x :: post) : (pre = [] ∧ x = (lineA, 1)) ∨ (pre = [(lineA, 1)] ∧ x = (lineB, 2)) := by
  match pre, h with
  | [], h => cases h; exact .inl ⟨rfl, rfl⟩
  | [_], h => cases h; exact .inr ⟨rfl, rfl⟩
  | _ :: _ :: pre, h => simp at h
set_option maxHeartbeats 4000000 in
theorem lexlines_spec : Tells Tryz.prog 89 [strA textAB] (.tup [linesA (outL [(lineA, 1), (lineB, 2)]), int 0, int 0]) := by
  refine tells_of_aw Tryz.func89 rfl rfl fun nx => ?_
  refine stp ?_
  refine aop_tells rfl rfl (lines_spec textAB) ⟨AVle.refl _, trivial⟩ fun nx2 => ?_
  refine stpR ?_
  refine AW.le (E' := mk 32 [(2, .bp (0, nx) 0), (3, .bp (1, nx + 1) 0), (4, .bp (2, nx + 2) 0), (5, .bp (3, nx + 3) 0), (13, .fn (.func 170) [] [.rp [strA textAB]])] ⟨[((3, nx + 3), .c [.os 2 0 (rowL []) none]), ((2, nx + 2), .c [int 0]), ((1, nx + 1), .c [int 0]), ((0, nx), .c [.os 0 0 (fun _ => .any) none])], [], nx2, 4⟩ (some [])) (ele_tell _ _ rfl rfl (List.Sublist.refl _) (List.Sublist.refl _) ⟨rfl, ⟨AVle.os_nil, trivial⟩, BxLe.refl _⟩ trivial ⟨AVle.refl _, AVle.refl _, AVle.refl _, AVle.refl _, AVle.refl _, trivial⟩) ?_
  refine stpR ?_
  refine aw_forO (σ := Nat × (Nat → AV) × Option Vl.Id) (e := lineE) (xs := [(lineA, 1), (lineB, 2)]) (first' := []) (caps' := [.rp [strA textAB]]) [] (fun y => [((3, nx + 3), .c [.os 2 y.1 y.2.1 y.2.2]), ((2, nx + 2), .c [int 0]), ((1, nx + 1), .c [int 0]), ((0, nx), .c [.os 0 0 (fun _ => .any) none])]) (fun y => pmOf y.2.2 (y.1 * 2)) (fun pre y => y.1 = pre.length ∧ (∀ k, k < y.1 → y.2.1 k = rowL pre k) ∧ (y.2.2 = none → pre = [])) (0, rowL [], none) rfl rfl lines_iter (LeL.refl _) (LeL.refl _) rfl rfl ⟨rfl, fun _ _ => rfl, fun _ => rfl⟩ (fun _ => rfl) ?_ ?_
  · rintro pre x post ⟨L, f, oi⟩ nx3 nn3 hx ⟨hL, hf0, ho⟩
    dsimp only at hL hf0 ho
    subst hL
    rcases pair_cases hx with ⟨rfl, rfl⟩ | ⟨rfl, rfl⟩
    · have hp := plain_spec lineA plainA (by decide)
      have hf : Tells Tryz.prog 134 [strA lineA, .fn (.func 135) [] []] (strsA [wDefault, wKill]) := by rw [← fieldsA]; exact fields_spec lineA (by decide)
      refine stpR ?_
      refine aw_region ?_
      refine stp ?_
      refine aop_tells rfl rfl hp ⟨AVle.refl _, trivial⟩ fun nx4 => ?_
      refine stp ?_
      refine aop_tells rfl rfl hf ⟨AVle.refl _, AVle.refl _, trivial⟩ fun nx5 => ?_
      refine stpR ?_
      refine aw_region ?_
      refine stpR ?_
      refine aw_regionY (fun n => match n with | 0 => true | _ => false) 6 ?_
      refine stp ?_
      refine aop_append1 (e := 155) (c := 2) (pm := []) (n := 0) (oi := oi) (sz := 2) (f := f) rfl rfl (.inr ⟨_, rfl⟩) (by kernel_rfl) (by kernel_rfl) (by kernel_rfl) (.inr rfl) (by kernel_rfl) (List.append_nil _).symm (oneRow_one rfl) (by rw [bytes_line]; decide) (by decide) ?_
      refine stp ?_
      refine ⟨(0 + 1, _, some (nn3, nx5)), .inl ⟨rfl, rfl, fun k hk => ?_, fun h => by cases h⟩, rfl, rfl⟩
      obtain rfl : k = 0 := Nat.lt_one_iff.1 hk
      show _ = lineV (1, fieldsL lineA)
      rw [fieldsA]; rfl
    · have hp := plain_spec lineB plainB (by decide)
      have hf : Tells Tryz.prog 134 [strA lineB, .fn (.func 135) [] []] (strsA [wRead, wAllow]) := by rw [← fieldsB]; exact fields_spec lineB (by decide)
      refine stpR ?_
      refine aw_region ?_
      refine stp ?_
      refine aop_tells rfl rfl hp ⟨AVle.refl _, trivial⟩ fun nx4 => ?_
      refine stp ?_
      refine aop_tells rfl rfl hf ⟨AVle.refl _, AVle.refl _, trivial⟩ fun nx5 => ?_
      refine stpR ?_
      refine aw_region ?_
      refine stpR ?_
      refine aw_regionY (fun n => match n with | 0 => true | _ => false) 6 ?_
      refine stp ?_
      refine aop_append1 (e := 155) (c := 2) (pm := []) (n := 1) (oi := oi) (sz := 2) (f := f) rfl rfl (.inr ⟨_, rfl⟩) (by kernel_rfl) (by kernel_rfl) (by kernel_rfl) (.inr rfl) (by kernel_rfl) (List.append_nil _).symm (oneRow_one rfl) (by rw [bytes_line]; decide) (by decide) ?_
      refine stp ?_
      refine ⟨(1 + 1, _, some (nn3, nx5)), .inl ⟨rfl, rfl, fun k hk => ?_, fun h => by cases h⟩, rfl, rfl⟩
      refine appF_one (fun k hk => ?_) ?_ k hk
      · obtain rfl : k = 0 := Nat.lt_one_iff.1 hk
        exact hf0 0 (by decide)
      · show _ = lineV (2, fieldsL lineB)
        rw [fieldsB]; rfl
  · rintro ⟨L, f, oi⟩ nx3 nn3 ⟨hL, hf0, ho⟩
    dsimp only at hL hf0 ho
    subst hL
    refine stp ?_
    exact ret_tells_all rfl ⟨⟨rfl, Nat.zero_lt_one⟩, ⟨rfl, Nat.zero_lt_one⟩, ⟨rfl, Nat.zero_lt_one⟩, trivial⟩ (AVle.tups (cs := [_, _, _]) ⟨(AVle.os_fun hf0).trans AVle.os_sl, AVle.refl _, AVle.refl _, trivial⟩)
end Go.Proofs.W

namespace Go.Proofs.W
open Go.Vl
set_option maxRecDepth 100000

/-- A kind's code, how great its number may be. -/
def kb (k : Nat) : Nat := [2147483648, 0, 196608, 327680, 2143289344, 2146435072, 2147221504, 2147418112].getD k 0
def km (k : Nat) : Nat := if k = 3 then 4095 else if k = 5 then 65535 else 0
def fits (v k : Nat) : Bool := decide (kb k ≤ v) && decide (v ≤ kb k + km k)
def fromI (v : Nat) : Option Nat := (List.range 8).find? (fits v)
theorem row_kb (k : Nat) (h : k < 8) : ∃ s m, rowF rowsL k = .ag [.v (.string s), .v (.int .u32 (kb k)), m] ∧ Tells Tryz.prog 117 [rowF rowsL k] (int (km k)) := by
  have key := row_most k h
  rcases k with _ | _ | _ | _ | _ | _ | _ | _ | k
  · exact ⟨_, _, rfl, f27_nil _ _⟩
  · exact ⟨_, _, rfl, f27_nil _ _⟩
  · exact ⟨_, _, rfl, f27_nil _ _⟩
  · exact ⟨_, _, rfl, f27_below _ _ 4096 (by decide)⟩
  · exact ⟨_, _, rfl, f27_nil _ _⟩
  · exact ⟨_, _, rfl, f27_below _ _ 65536 (by decide)⟩
  · exact ⟨_, _, rfl, f27_nil _ _⟩
  · exact ⟨_, _, rfl, f27_nil _ _⟩
  · omega
theorem kb_le {k : Nat} (h : k < 8) : kb k + km k < 4294967296 := by
  rcases k with _ | _ | _ | _ | _ | _ | _ | _ | k
  all_goals first | decide | omega
theorem km_le {k : Nat} (h : k < 8) : km k < 65536 := by
  rcases k with _ | _ | _ | _ | _ | _ | _ | _ | k
  all_goals first | decide | omega
theorem fits_spec (v k : Nat) (hk : k < 8) (hv : v < 4294967296) (s : ByteArray) (m : AV) (hr : rowF rowsL k = .ag [.v (.string s), .v (.int .u32 (kb k)), m]) (hm : Tells Tryz.prog 117 [rowF rowsL k] (int (km k))) (hm2 : m = .v .nilFunc ∨ ∃ n, m = belowF n) :
    Tells Tryz.prog 116 [.ag [.v (.string s), .v (.int .u32 (kb k)), m], .rp [u32 v]] (boolA (fits v k)) := by
  rw [hr] at hm
  have h1 := kb_le hk
  have h2 := km_le hk
  have hfit : ∀ hle : kb k ≤ v, IntKind.u32.wrap ((v : Int) - (kb k : Int)) = ((v - kb k : Nat) : Int) := fun hle => by
    rw [show (v : Int) - (kb k : Int) = ((v - kb k : Nat) : Int) by omega]
    simp [IntKind.wrap, IntKind.signed, IntKind.bits]; omega
  have hkm : IntKind.u32.wrap (km k : Int) = ((km k : Nat) : Int) := by simp [IntKind.wrap, IntKind.signed, IntKind.bits]; omega
  refine tells_of_aw Tryz.func116 rfl rfl fun nx => ?_
  rcases hm2 with rfl | ⟨n', rfl⟩
  all_goals
    refine stp ?_
    (refine aw_draw 14 ?_ ?_ ?_ ?_; (· kernel_rfl); (· kernel_rfl); (· kernel_rfl))
    refine stp ?_
    intro c t1; cases c
    · refine stp ?_
      refine ret_tells rfl (le_bool ?_)
      simp only [fct_d0] at t1
      simp [fits]; omega
    · simp only [fct_d1] at t1
      have hle : kb k ≤ v := by omega
      have e1 := hfit hle
      refine stp ?_
      refine ex_yields (yields_tells rfl rfl hm ⟨AVle.refl _, trivial⟩ (NoId.v _)) ?_
      refine stp ?_
      intro c hc
      rw [e1, hkm] at hc
      cases c
      · refine stp ?_
        simp only [fct_d0] at hc
        refine ret_tells rfl (le_bool ?_)
        simp [fits]; omega
      · refine stp ?_
        simp only [fct_d1] at hc
        refine ret_tells rfl (le_bool ?_)
        simp [fits]; omega
end Go.Proofs.W

namespace Go.Proofs.W
open Go.Vl
set_option maxRecDepth 100000

def readC (w : ByteArray) : AV := .fn (.func 248) [] [.rp [strsA [w]]]
def rowS (j : Nat) : ByteArray := match rowF rowsL j with
  | .ag (.v (.string s) :: _) => s
  | _ => ⟨#[]⟩
def eqW (w : ByteArray) (j : Nat) : Bool := (rowS j).toList == w.toList
def wordI (w : ByteArray) : Option Nat := (List.range 8).find? (eqW w)
theorem readw_spec (w s : ByteArray) (c : Int) (m : AV) (hm : m = .v .nilFunc ∨ ∃ n, m = belowF n) : Tells Tryz.prog 248 [.ag [.v (.string s), .v (.int .u32 c), m], .rp [strsA [w]]] (boolA (s.toList == w.toList)) := by
  refine tells_of_aw Tryz.func248 rfl rfl fun nx => ?_
  rcases hm with rfl | ⟨n, rfl⟩
  all_goals
    refine stp ?_
    (refine aw_draw 7 ?_ ?_ ?_ ?_; (· kernel_rfl); (· kernel_rfl); (· kernel_rfl))
    refine stp ?_
    refine ⟨⟨by decide, (show (0 : Int) < 1 by decide)⟩, ?_⟩
    refine stp ?_
    intro c hc
    subst hc
    refine stp ?_
    exact ret_tells rfl (AVle.refl _)
set_option maxHeartbeats 1000000 in
theorem idxw_spec (w : ByteArray) : Tells Tryz.prog 114 [rowsA, readC w] (int (optI (wordI w))) := by
  refine tells_of_aw Tryz.func114 rfl rfl fun nx => ?_
  refine stp ?_
  refine aw_loop (fun s : Nat × Nat => mk 19 [(0, rowsA), (1, readC w), (7, int 8), (8, int s.1)] ⟨[], [], s.2, 0⟩) (fun s => s.1 ≤ 8 ∧ ∀ j, j < s.1 → eqW w j = false) (fun s => 8 - s.1) ?_ ?_
  · exact ⟨(0, nx), ⟨by simp, by intro j hj; simp at hj⟩, ele_mk rfl rfl ⟨AVle.refl _, AVle.refl _, AVle.refl _, AVle.refl _, trivial⟩⟩
  · rintro ⟨i, nx⟩ ⟨h1, h2⟩
    dsimp only at h1 h2
    by_cases hi : i < 8
    · obtain ⟨s, c0, m, hr1, h4, _⟩ := row_most i hi
      have hT := readw_spec w s c0 m h4
      have hes : (s.toList == w.toList) = eqW w i := by unfold eqW rowS; rw [hr1]
      rw [hes] at hT
      rcases h4 with rfl | ⟨n', rfl⟩
      all_goals
        refine stp ?_
        intro c h3; cases c
        · exact absurd (not_of h3) (by dsimp only; omega)
        refine stp ?_
        refine ⟨⟨by dsimp only; omega, by dsimp only; omega⟩, splitO_eq (b := .rp [.v (.string s), .v (.int .u32 c0), _]) (by show AV.rp (rowF rowsL i).cells = _; rw [hr1]; rfl) ?_⟩
        refine stp ?_
        refine aop_tells rfl rfl hT ⟨AVle.refl _, AVle.refl _, trivial⟩ fun nx' => ?_
        intro c h4; cases c
        · refine stp ?_
          refine back (i + 1, nx') ⟨by dsimp only; omega, fun j hj => ?_⟩ (by dsimp only; omega) (ele_mk rfl rfl ⟨AVle.refl _, AVle.refl _, AVle.refl _, le_int (wrap_succ (by dsimp only; omega)), trivial⟩)
          dsimp only at hj
          rcases Nat.lt_or_ge j i with h | h
          · exact h2 j h
          · obtain rfl : j = i := by omega
            exact h4.symm
        · refine stp ?_
          refine ret_tells rfl (le_int ?_)
          have : wordI w = some i := by
            unfold wordI
            rw [List.find?_range_eq_some]
            exact ⟨h4.symm, by simp; omega, fun j hj => by rw [h2 j hj]; rfl⟩
          rw [this]; rfl
    · obtain rfl : i = 8 := by omega
      refine stp ?_
      refine ret_tells rfl (le_int ?_)
      have : wordI w = none := by
        unfold wordI
        rw [List.find?_range_eq_none]
        intro j hj
        rw [h2 j hj]; rfl
      rw [this]; rfl
set_option maxHeartbeats 1000000 in
theorem read_word (w s : ByteArray) (k : Nat) (c : Int) (hw : wordI w = some k) (hk : k < 8) (hr : rowF rowsL k = .ag [.v (.string s), .v (.int .u32 c), .v .nilFunc]) : Tells Tryz.prog 225 [strsA [w]] (.tup [act (k + 1 : Nat) 0, int 1, int 0]) := by
  have hx := idxw_spec w
  rw [hw] at hx
  have ho := f26_in k hk
  rw [hr] at ho
  refine tells_of_aw Tryz.func225 rfl rfl fun nx => ?_
  (refine stpR ?_; refine aw_region ?_; refine stpR ?_)
  refine aw_freeze (n := 60) (nx := nx + 2) (nn := 2) (pm := []) (bx := [((1, nx + 1), .c [int 0, int 0])]) (L := [(1, .rp [strsA [w]]), (2, .bp (1, nx + 1) 0), (3, int 0), (4, int 0)]) (df := some []) [((0, nx), .c [strsA [w]])] rfl rfl rfl (List.Perm.swap _ _ _) (List.Sublist.refl _) ⟨Frz.bp (.head _) rfl, Frz.refl _, Frz.refl _, Frz.refl _, trivial⟩ ?_
  refine stp ?_
  refine aop_tells rfl rfl f28_spec trivial fun nx1 => ?_
  refine stp ?_
  refine aop_tells rfl rfl hx ⟨AVle.refl _, AVle.refl _, trivial⟩ fun nx2 => ?_
  refine stp ?_
  refine aop_tells rfl rfl ho ⟨le_int (by show IntKind.i64.wrap (1 + (k : Int)) = _; rw [wrap_id (by omega) (by omega)]; omega), trivial⟩ fun nx3 => ?_
  refine stp ?_
  exact ret_tells_all rfl ⟨rfl, trivial⟩ (AVle.tups (cs := [_, _, _]) ⟨AVle.ags (cs := [_, _]) ⟨le_int (by show IntKind.i64.wrap (1 + (k : Int)) = _; rw [wrap_id (by omega) (by omega)]; omega), AVle.refl _, trivial⟩, AVle.refl _, AVle.refl _, trivial⟩)
theorem read_kill : Tells Tryz.prog 225 [strsA [wKill]] (.tup [act 1 0, int 1, int 0]) := read_word wKill _ 0 _ (by decide +kernel) (by decide) rfl
theorem read_allow : Tells Tryz.prog 225 [strsA [wAllow]] (.tup [act 8 0, int 1, int 0]) := read_word wAllow _ 7 _ (by decide +kernel) (by decide) rfl
end Go.Proofs.W

namespace Go.Proofs.W
open Go.Vl
set_option maxRecDepth 100000

theorem pnamed_spec (s : ByteArray) (hs : s.size ≤ 9223372036854775807) : Tells Tryz.prog 146 [strA s] (boolA (nameB s.data.toList)) := by
  have key : ∀ b, nameB s.data.toList = b → Tells Tryz.prog 146 [strA s] (boolA b) := fun b hb => by
    have hr := tabRight_row1 s hs b hb
    refine tells_of_aw Tryz.func146 rfl rfl fun nx => ?_
    refine stp ?_
    refine aop_tells rfl rfl hr ⟨?_, trivial⟩ fun nx1 => ?_
    · refine AVle.os_sl.trans (AVle.sl_fun fun k hk => ?_)
      match k, hk with
      | 0, _ => rfl
    cases b
    · refine stp ?_
      exact ret_tells rfl (AVle.refl _)
    · refine stp ?_
      exact ret_tells rfl (AVle.refl _)
  exact key _ rfl
theorem rright1_spec (c : Cnd) : Tells Tryz.prog 147 [cndA c] (boolA (!rightC c)) := by
  have key : ∀ b, rightC c = b → Tells Tryz.prog 147 [cndA c] (boolA (!b)) := fun b hb => by
    have hr := right_spec c
    rw [hb] at hr
    refine tells_of_aw Tryz.func147 rfl rfl fun nx => ?_
    refine stp ?_
    refine aop_tells rfl rfl hr ⟨AVle.refl _, trivial⟩ fun nx1 => ?_
    cases b
    · refine stp ?_
      exact ret_tells rfl (AVle.refl _)
    · refine stp ?_
      exact ret_tells rfl (AVle.refl _)
  exact key _ rfl
/-- Sizes that any machine has. -/
def Rul.ok (r : Rul) : Prop := r.name.size ≤ maxLen ∧ r.conds.length ≤ maxLen ∧ ∀ c ∈ r.conds, c.ok
def rightR (r : Rul) : Bool := nameB r.name.data.toList && (right9 r.act.1 r.act.2 && (decide (r.conds.length ≤ 6) && !(r.conds.any fun c => !rightC c)))
theorem rright_spec (r : Rul) (h1 : r.name.size ≤ 9223372036854775807) : Tells Tryz.prog 101 [rulA r] (boolA (rightR r)) := by
  have hn := pnamed_spec r.name h1
  have ha := f22_spec r.act.1 r.act.2
  have hc : r.conds.length ≤ 1000000000 → Tells Tryz.prog 94 [cnds r.conds, fn0 147] (boolA (r.conds.any fun c => !rightC c)) := fun hl => cntf_cnd r.conds (fun c => !rightC c) _ hl (fun i _ => rright1_spec _)
  unfold rightR
  generalize nameB r.name.data.toList = b1 at hn ⊢
  generalize right9 r.act.1 r.act.2 = b2 at ha ⊢
  generalize (r.conds.any fun c => !rightC c) = b3 at hc ⊢
  obtain ⟨name, ⟨k, n⟩, conds⟩ := r
  dsimp only at hn ha hc ⊢
  refine tells_of_aw Tryz.func101 rfl rfl fun nx => ?_
  refine stp ?_
  refine aop_tells rfl rfl hn ⟨AVle.refl _, trivial⟩ fun nx1 => ?_
  cases b1
  · refine stp ?_
    exact ret_tells rfl (AVle.refl _)
  refine stp ?_
  refine aop_tells rfl rfl ha ⟨AVle.refl _, trivial⟩ fun nx2 => ?_
  cases b2
  · refine stp ?_
    exact ret_tells rfl (AVle.refl _)
  refine stp ?_
  intro c t3; cases c
  · refine stp ?_
    have e3 : ¬ conds.length ≤ 6 := fun h => (not_of t3 : ¬ ((conds.length : Nat) : Int) ≤ 6) (by omega)
    exact ret_tells rfl (le_bool (by show false = (true && (true && (decide (conds.length ≤ 6) && !b3))); rw [decide_eq_false e3]; rfl))
  have h3 : conds.length ≤ 6 := by have t : ((conds.length : Nat) : Int) ≤ 6 := yes_of t3; omega
  have hc := hc (show conds.length ≤ 1000000000 by omega)
  refine stp ?_
  refine aop_tells rfl rfl hc ⟨AVle.refl _, AVle.refl _, trivial⟩ fun nx3 => ?_
  cases b3
  · refine stp ?_
    exact ret_tells rfl (le_bool (by first | (show true = (true && (true && (decide (conds.length ≤ 6) && !false))); rw [decide_eq_true h3]; rfl) | (show true = (true && (decide (rules.length ≤ 500) && !false)); rw [decide_eq_true h3]; rfl)))
  · refine stp ?_
    exact ret_tells rfl (le_bool (by first | (show false = (true && (true && (decide (conds.length ≤ 6) && !true))); rw [decide_eq_true h3]; rfl) | (show false = (true && (decide (rules.length ≤ 500) && !true)); rw [decide_eq_true h3]; rfl)))
theorem pright1_spec (r : Rul) (h1 : r.name.size ≤ 9223372036854775807) : Tells Tryz.prog 100 [rulA r] (boolA (!rightR r)) := by
  have key : ∀ b, rightR r = b → Tells Tryz.prog 100 [rulA r] (boolA (!b)) := fun b hb => by
    have hr := rright_spec r h1
    rw [hb] at hr
    refine tells_of_aw Tryz.func100 rfl rfl fun nx => ?_
    refine stp ?_
    refine aop_tells rfl rfl hr ⟨AVle.refl _, trivial⟩ fun nx1 => ?_
    cases b
    · refine stp ?_
      exact ret_tells rfl (AVle.refl _)
    · refine stp ?_
      exact ret_tells rfl (AVle.refl _)
  exact key _ rfl
def rightP (p : Pol) : Bool := right9 p.dflt.1 p.dflt.2 && (decide (p.rules.length ≤ 500) && !(p.rules.any fun r => !rightR r))
def Pol.ok (p : Pol) : Prop := p.rules.length ≤ maxLen ∧ ∀ r ∈ p.rules, r.ok
theorem pright_spec (p : Pol) (hp : p.ok) : Tells Tryz.prog 51 [polA p] (boolA (rightP p)) := by
  have ha := f22_spec p.dflt.1 p.dflt.2
  have hc : p.rules.length ≤ 1000000000 → Tells Tryz.prog 99 [ruls p.rules, fn0 100] (boolA (p.rules.any fun r => !rightR r)) := fun hl => cntf_rul p.rules (fun r => !rightR r) _ hl (fun i hi => pright1_spec _ (by
    have : p.rules.getD i rul0 ∈ p.rules := by simp [List.getD, hi]
    have := (hp.2 _ this).1
    exact Nat.le_trans this (by decide)))
  unfold rightP
  generalize right9 p.dflt.1 p.dflt.2 = b2 at ha ⊢
  generalize (p.rules.any fun r => !rightR r) = b3 at hc ⊢
  clear hp
  obtain ⟨⟨k, n⟩, x, rules⟩ := p
  dsimp only at ha hc ⊢
  refine tells_of_aw Tryz.func51 rfl rfl fun nx => ?_
  refine stp ?_
  refine aop_tells rfl rfl ha ⟨AVle.refl _, trivial⟩ fun nx2 => ?_
  cases b2
  · refine stp ?_
    exact ret_tells rfl (AVle.refl _)
  refine stp ?_
  intro c t3; cases c
  · refine stp ?_
    have e3 : ¬ rules.length ≤ 500 := fun h => (not_of t3 : ¬ ((rules.length : Nat) : Int) ≤ 500) (by omega)
    exact ret_tells rfl (le_bool (by show false = (true && (decide (rules.length ≤ 500) && !b3)); rw [decide_eq_false e3]; rfl))
  have h3 : rules.length ≤ 500 := by have t : ((rules.length : Nat) : Int) ≤ 500 := yes_of t3; omega
  have hc := hc (show rules.length ≤ 1000000000 by omega)
  refine stp ?_
  refine aop_tells rfl rfl hc ⟨AVle.refl _, AVle.refl _, trivial⟩ fun nx3 => ?_
  cases b3
  · refine stp ?_
    exact ret_tells rfl (le_bool (by first | (show true = (true && (true && (decide (conds.length ≤ 6) && !false))); rw [decide_eq_true h3]; rfl) | (show true = (true && (decide (rules.length ≤ 500) && !false)); rw [decide_eq_true h3]; rfl)))
  · refine stp ?_
    exact ret_tells rfl (le_bool (by first | (show false = (true && (true && (decide (conds.length ≤ 6) && !true))); rw [decide_eq_true h3]; rfl) | (show false = (true && (decide (rules.length ≤ 500) && !true)); rw [decide_eq_true h3]; rfl)))
def lightR (r : Rul) : Bool := decide (r.name.size ≤ 60) && decide (r.conds.length ≤ 12)
def lightP (p : Pol) : Bool := decide (p.rules.length ≤ 40) && p.rules.all lightR
end Go.Proofs.W

namespace Go.Proofs.W
open Go.Vl
set_option maxRecDepth 100000

def rdrB (s : Nat) (a b c ru wd : AV) (n : Int) : List (Vl.Id × Own) := [((0, s), .c [a, b, c, ru, wd, int n])]
theorem need_spec (e : Int) : Tells Tryz.prog 173 [boolA true, int e] (.tup []) := by
  refine tells_of_aw Tryz.func173 rfl rfl fun nx => ?_
  refine stp ?_
  exact ret_tells rfl (AVle.refl _)
theorem told_spec : Tells Tryz.prog 226 [int 0] (.tup []) := by
  refine tells_of_aw Tryz.func226 rfl rfl fun nx => ?_
  refine stp ?_
  refine aop_tells rfl rfl (need_spec 0) ⟨AVle.refl _, AVle.refl _, trivial⟩ fun nx2 => ?_
  refine stp ?_
  exact ret_tells rfl (AVle.refl _)
theorem strs_tail (x : ByteArray) (l : List ByteArray) : (AV.sl 1 ((x :: l).length - Int.toNat 1) fun k => (fun k => AV.v ((List.map Value.string (x :: l)).getD k undef)) (Int.toNat 1 + k)) = strsA l := by
  unfold strsA
  rw [show (x :: l).length - Int.toNat 1 = l.length by simp]
  congr 1
  funext k
  show AV.v ((List.map Value.string (x :: l)).getD (1 + k) undef) = _
  rw [Nat.add_comm]; rfl
theorem next_spec (s : Nat) (a b c ru : AV) (w1 w2 : ByteArray) (n : Int) (nx : Nat) : ECall Tryz.prog 137 [.bp (0, s) 0] ⟨rdrB s a b c ru (strsA [w1, w2]) n, [], nx, 1⟩ fun r h' => r = strA w1 ∧ h' = ⟨rdrB s a b c ru (strsA [w2]) n, [], nx, 1⟩ := by
  refine ecall_of_aw Tryz.func137 rfl rfl ?_
  refine stp ?_
  refine ⟨⟨by decide, (show (0 : Int) < 2 by decide)⟩, ?_⟩
  refine stp ?_
  refine ⟨⟨by decide, (show (1 : Int) ≤ 2 by decide)⟩, splitO_eq (b := strsA [w2]) (strs_tail w1 [w2]) ?_⟩
  refine stp ?_
  exact ret_is rfl ⟨rfl, rfl⟩
theorem action_spec (s : Nat) (a b c ru : AV) (w : ByteArray) (k : Int) (n : Int) (nx : Nat) (hr : Tells Tryz.prog 225 [strsA [w]] (.tup [act k 0, int 1, int 0])) : ECall Tryz.prog 174 [.bp (0, s) 0] ⟨rdrB s a b c ru (strsA [w]) n, [], nx, 1⟩ fun r h' => r = act k 0 ∧ ∃ nx', h' = ⟨rdrB s a b c ru (strsA []) n, [], nx', 1⟩ := by
  refine ECall.wk (ecall_of_aw Tryz.func174 rfl rfl ?_)
  refine stp ?_
  refine aop_tells rfl rfl hr ⟨AVle.refl _, trivial⟩ fun nx2 => ?_
  refine stp ?_
  refine aop_tells rfl rfl told_spec ⟨AVle.refl _, trivial⟩ fun nx3 => ?_
  refine stp ?_
  refine ⟨⟨by decide, (show (1 : Int) ≤ 1 by decide)⟩, splitO_eq (b := strsA []) (strs_tail w []) ?_⟩
  refine stp ?_
  refine ret_all rfl ⟨rfl, trivial⟩ ⟨act k 0, ⟨rdrB s a b c ru (strsA []) n, [], nx3, 1⟩, AVle.refl _, ?_, rfl, nx3, rfl⟩
  exact hle_tell (rdrB s a b c ru (strsA []) n) [] rfl (.cons _ (.cons _ (List.Sublist.refl _))) (List.Sublist.refl _) (BxLe.refl _) (PmEq.refl _)
theorem first_spec (s : Nat) (a b c ru : AV) (w : ByteArray) (k : Int) (nx : Nat) (hr : Tells Tryz.prog 225 [strsA [w]] (.tup [act k 0, int 1, int 0])) : ECall Tryz.prog 138 [.bp (0, s) 0] ⟨rdrB s a b c ru (strsA [w]) 0, [], nx, 1⟩ fun r h' => r = .tup [] ∧ ∃ nx', h' = ⟨rdrB s (int k) (int 0) c ru (strsA []) 0, [], nx', 1⟩ := by
  refine ECall.wk (ecall_of_aw Tryz.func138 rfl rfl ?_)
  refine stp ?_
  refine aop_tells rfl rfl (need_spec 13) ⟨AVle.refl _, AVle.refl _, trivial⟩ fun nx2 => ?_
  refine stp ?_
  refine aop_callP (xs := [.bp (0, s) 0]) (bx1 := rdrB s a b c ru (strsA [w]) 0) (pm1 := []) [] [] 1 rfl rfl rfl rfl ⟨AVle.refl _, trivial⟩ (action_spec s a b c ru w k 0 nx2 hr) (BxLe.refl _) (PmEq.refl _) rfl fun r h' hq => ?_
  obtain ⟨rfl, nx3, rfl⟩ := hq
  refine stp ?_
  refine aop_tells rfl rfl (need_spec 13) ⟨AVle.refl _, AVle.refl _, trivial⟩ fun nx4 => ?_
  refine stp ?_
  refine ret_all rfl trivial ⟨.tup [], ⟨rdrB s (int k) (int 0) c ru (strsA []) 0, [], nx4, 1⟩, AVle.refl _, ?_, rfl, nx4, rfl⟩
  exact hle_tell (rdrB s (int k) (int 0) c ru (strsA []) 0) [] rfl (List.Sublist.refl _) (List.Sublist.refl _) (BxLe.refl _) (PmEq.refl _)
end Go.Proofs.W

namespace Go.Proofs.W
open Go.Vl
set_option maxRecDepth 100000

def nilA : AV := .os 0 0 (fun _ => .any) none
theorem bytes_rul14 : Tryz.prog.bytesOf 85 = 56 := by kernel_rfl
set_option maxHeartbeats 4000000 in
theorem rule_spec (s : Nat) (a b c : AV) (nm w : ByteArray) (k : Int) (nx : Nat) (hn : nameB nm.data.toList = true) (hs : nm.size ≤ 1000) (hr : Tells Tryz.prog 225 [strsA [w]] (.tup [act k 0, int 1, int 0])) :
    ECall Tryz.prog 141 [.bp (0, s) 0, strA nm] ⟨rdrB s a b c nilA (strsA [w]) 1, [], nx, 1⟩ fun r h' => r = .tup [] ∧ ∃ st nx', h' = ⟨rdrB s a b c (.os 4 1 (fun _ => rulA ⟨nm, (k, 0), []⟩) (some (0, st))) (strsA []) 1, [((0, st), 4)], nx', 1⟩ := by
  have hnm := pnamed_spec nm (by omega)
  rw [hn] at hnm
  refine ECall.wk (ecall_of_aw Tryz.func141 rfl rfl ?_)
  refine stp ?_
  refine aop_tells rfl rfl hnm ⟨AVle.refl _, trivial⟩ fun nx2 => ?_
  refine stp ?_
  refine aop_tells rfl rfl (need_spec 13) ⟨AVle.refl _, AVle.refl _, trivial⟩ fun nx3 => ?_
  refine stp ?_
  refine aop_tells rfl rfl (need_spec 3) ⟨AVle.refl _, AVle.refl _, trivial⟩ fun nx4 => ?_
  refine stp ?_
  refine aop_callP (xs := [.bp (0, s) 0]) (bx1 := rdrB s a b c nilA (strsA [w]) 1) (pm1 := []) [] [] 1 rfl rfl rfl rfl ⟨AVle.refl _, trivial⟩ (action_spec s a b c nilA w k 1 nx4 hr) (BxLe.refl _) (PmEq.refl _) rfl fun r h' hq => ?_
  obtain ⟨rfl, nx5, rfl⟩ := hq
  refine stp ?_
  refine aw_loop (fun y : Nat => mk 67 [(0, .bp (0, s) 0), (1, strA nm), (4, .bp (1, nx5) 0)] ⟨((1, nx5), .c [strA nm, int k, int 0, cnds []]) :: rdrB s a b c nilA (strsA []) 1, [], y, 2⟩) (fun _ => True) (fun _ => 0) ?_ ?_
  · exact ⟨nx5 + 1, trivial, ele_tell (pm := []) (bx := ((1, nx5), .c [strA nm, int k, int 0, cnds []]) :: rdrB s a b c nilA (strsA []) 1) _ _ rfl rfl (List.Sublist.refl _) (List.Sublist.refl _) ⟨rfl, ⟨AVle.refl _, AVle.refl _, AVle.refl _, AVle.os_sl0, trivial⟩, BxLe.refl _⟩ trivial ⟨AVle.refl _, AVle.refl _, AVle.refl _, trivial⟩⟩
  · rintro nx6 -
    refine stp ?_
    refine aw_mixN 9 (((1, nx5), .c [strA nm, int k, int 0, cnds []]) :: rdrB s a b c nilA (strsA []) 1) (fun i => match i with | 8 => true | _ => false) (fun _ => false) [0, 1, 2, 3, 4, 5, 6, 7, 8] (by kernel_rfl) (by kernel_rfl) (HB.refl _) ?_
    refine stp ?_
    refine ⟨_, eff_append1 (e := 85) (c := 4) (pm := []) (n := 0) (oi := none) (sz := 0) (f := fun _ => .any) (HB.refl _) rfl rfl rfl (.inr ⟨_, rfl⟩) (by kernel_rfl) (by kernel_rfl) (by kernel_rfl) (.inl ⟨rfl, rfl⟩) (by kernel_rfl) rfl (oneRow_one rfl) (by rw [bytes_rul14]; decide) (by decide), fun r h' hr => ?_⟩
    obtain ⟨rfl, rfl⟩ := hr
    refine stp ?_
    refine ret_all rfl trivial ⟨.tup [], ⟨rdrB s a b c (.os 4 1 (fun _ => rulA ⟨nm, (k, 0), []⟩) (some (0, nx6))) (strsA []) 1, [((0, nx6), 4)], nx6 + 1, 1⟩, AVle.refl _, ?_, rfl, nx6, nx6 + 1, rfl⟩
    exact hle_tell (rdrB s a b c (.os 4 1 (appF 0 (fun _ => .any) _) (some (2, nx6))) (strsA []) 1) [((2, nx6), 4)] rfl (.cons _ (List.Sublist.refl _)) (List.Sublist.refl _) ⟨rfl, ⟨AVle.refl _, AVle.refl _, AVle.refl _, (AVle.os_fun (fun i hi => by obtain rfl : i = 0 := Nat.lt_one_iff.1 hi; rfl)).trans (AVle.os_nm rfl), AVle.refl _, AVle.refl _, trivial⟩, trivial⟩ ⟨rfl, rfl, trivial⟩
end Go.Proofs.W

namespace Go.Proofs.W
open Go.Vl
set_option maxRecDepth 100000

def rdrB1 (s : Nat) (a b c ru wd : AV) (n : Int) : List (Vl.Id × Own) := [((1, s), .c [a, b, c, ru, wd, int n])]
theorem forceM_eq {l l' : List (Value × AV)} {K : List (Value × AV) → Prop} (h : l = l') (hk : forceM l' K) : forceM l K := h ▸ hk
def doF (s : Nat) : AV := .fn (.func 138) [.bp (0, s) 0] []
def doX (s : Nat) : AV := .fn (.func 139) [.bp (0, s) 0] []
def doM (s : Nat) : List (Value × AV) := [(.string wDefault, doF s), (.string ⟨#[120, 51, 50]⟩, doX s)]
theorem catch0 (x : AV) (h : Heap) : DCall Tryz.prog 136 [x] .returning h fun u h' => u = .returning ∧ h' = h := by
  refine dcall_recover Tryz.func136 rfl rfl rfl rfl rfl rfl ?_
  refine stp ?_
  refine aop_niliface rfl (.inr rfl) rfl rfl ?_
  refine stp ?_
  exact ret_is rfl ⟨rfl, rfl⟩
def outerB (s s1 s2 s3 s4 : Nat) (nm : ByteArray) : List (Vl.Id × Own) := [((4, s4), .mp (doM s)), ((3, s3), .c [strA nm]), ((2, s2), .c [int 0]), ((1, s1), .c [.bp (0, s) 0])]
theorem line2_spec (s s1 s2 s3 s4 nx : Nat) (a b c : AV) (nm w : ByteArray) (k : Int) (hn : nameB nm.data.toList = true) (hs : nm.size ≤ 1000) (hr : Tells Tryz.prog 225 [strsA [w]] (.tup [act k 0, int 1, int 0])) :
    ECall Tryz.prog 140 [.bp (1, s1) 0, .bp (3, s3) 0] ⟨outerB s s1 s2 s3 s4 nm ++ rdrB s a b c nilA (strsA [w]) 1, [], nx, 5⟩ fun r h' => r = .tup [] ∧ ∃ st nx', h' = ⟨outerB s s1 s2 s3 s4 nm ++ rdrB s a b c (.os 4 1 (fun _ => rulA ⟨nm, (k, 0), []⟩) (some (0, st))) (strsA []) 1, [((0, st), 4)], nx', 5⟩ := by
  refine ecall_of_aw Tryz.func140 rfl rfl ?_
  refine stp ?_
  refine aop_callF (xs := [.bp (0, s) 0, strA nm]) (bx1 := rdrB s a b c nilA (strsA [w]) 1) (pm1 := []) (outerB s s1 s2 s3 s4 nm) [] 5 rfl rfl rfl rfl ⟨AVle.refl _, AVle.refl _, trivial⟩ (rule_spec s a b c nm w k nx hn hs hr) (BxLe.refl _) (PmEq.refl _) rfl fun r h' hq => ?_
  obtain ⟨rfl, st, nx2, rfl⟩ := hq
  refine stp ?_
  exact ret_is rfl ⟨rfl, st, nx2, rfl⟩
set_option maxHeartbeats 4000000 in
theorem line_first (s : Nat) (nx : Nat) : ECall Tryz.prog 90 [.bp (0, s) 0, strsA [wDefault, wKill]] ⟨rdrB s (int 0) (int 0) (boolA false) nilA nilA 0, [], nx, 1⟩ fun r h' => r = int 0 ∧ ∃ nx', h' = ⟨rdrB1 s (int 1) (int 0) (boolA false) nilA (strsA []) 1, [], nx', 1⟩ := by
  refine ECall.wk (ecall_of_aw Tryz.func90 rfl rfl ?_)
  refine stp ?_
  refine aop_defer rfl rfl rfl ?_
  refine stp ?_
  refine aop_callF (xs := [.bp (0, s) 0]) (bx1 := rdrB s (int 0) (int 0) (boolA false) nilA (strsA [wDefault, wKill]) 0) (pm1 := []) [((2, nx + 1), .c [int 0]), ((1, nx), .c [.bp (0, s) 0])] [] 3 rfl rfl rfl rfl ⟨AVle.refl _, trivial⟩ (next_spec s (int 0) (int 0) (boolA false) nilA wDefault wKill 0 (nx + 2)) (BxLe.refl _) (PmEq.refl _) rfl fun r h' hq => ?_
  obtain ⟨rfl, rfl⟩ := hq
  refine stp ?_
  refine forceM_eq (l' := doM s) (by kernel_rfl) ?_
  refine stp ?_
  refine splitO_eq (b := .fn (.func 138) [.bp (0, s) 0] []) (by kernel_rfl) ?_
  refine stp ?_
  refine aop_callF (xs := [.bp (0, s) 0]) (bx1 := rdrB s (int 0) (int 0) (boolA false) nilA (strsA [wKill]) 0) (pm1 := []) [((4, nx + 3), .mp (doM s)), ((3, nx + 2), .c [strA wDefault]), ((2, nx + 1), .c [int 0]), ((1, nx), .c [.bp (0, s) 0])] [] 5 rfl rfl rfl rfl ⟨AVle.refl _, trivial⟩ (first_spec s (int 0) (int 0) (boolA false) nilA wKill 1 (nx + 4) read_kill) (BxLe.refl _) (PmEq.refl _) rfl fun r h' hq => ?_
  obtain ⟨rfl, nx2, rfl⟩ := hq
  refine stp ?_
  refine DCall.mono (catch0 _ _) fun u h' hq => ?_
  obtain ⟨rfl, rfl⟩ := hq
  refine ret_all rfl ⟨⟨rfl, Nat.zero_lt_one⟩, trivial⟩ ⟨int 0, ⟨rdrB1 s (int 1) (int 0) (boolA false) nilA (strsA []) 1, [], nx2, 1⟩, AVle.refl _, ?_, rfl, nx2, rfl⟩
  exact hle_tell (rdrB s (int 1) (int 0) (boolA false) nilA (strsA []) 1) [] rfl (.cons _ (.cons _ (.cons _ (.cons _ (List.Sublist.refl _))))) (List.Sublist.refl _) ⟨rfl, OwnLe.refl _, trivial⟩ (PmEq.refl _)
set_option maxHeartbeats 4000000 in
theorem line_rule (s : Nat) (nx : Nat) : ECall Tryz.prog 90 [.bp (0, s) 0, strsA [wRead, wAllow]] ⟨rdrB s (int 1) (int 0) (boolA false) nilA (strsA []) 1, [], nx, 1⟩ fun r h' => r = int 0 ∧ ∃ st nx', h' = ⟨rdrB1 s (int 1) (int 0) (boolA false) (.os 4 1 (fun _ => rulA ⟨wRead, (8, 0), []⟩) (some (0, st))) (strsA []) 2, [((0, st), 4)], nx', 1⟩ := by
  refine ECall.wk (ecall_of_aw Tryz.func90 rfl rfl ?_)
  refine stp ?_
  refine aop_defer rfl rfl rfl ?_
  refine stp ?_
  refine aop_callF (xs := [.bp (0, s) 0]) (bx1 := rdrB s (int 1) (int 0) (boolA false) nilA (strsA [wRead, wAllow]) 1) (pm1 := []) [((2, nx + 1), .c [int 0]), ((1, nx), .c [.bp (0, s) 0])] [] 3 rfl rfl rfl rfl ⟨AVle.refl _, trivial⟩ (next_spec s (int 1) (int 0) (boolA false) nilA wRead wAllow 1 (nx + 2)) (BxLe.refl _) (PmEq.refl _) rfl fun r h' hq => ?_
  obtain ⟨rfl, rfl⟩ := hq
  refine stp ?_
  refine forceM_eq (l' := doM s) (by kernel_rfl) ?_
  refine stp ?_
  refine splitO_eq (b := .v .nilFunc) (by kernel_rfl) ?_
  refine stp ?_
  refine aop_callF (xs := [.bp (1, nx) 0, .bp (3, nx + 2) 0]) (bx1 := outerB s nx (nx + 1) (nx + 2) (nx + 3) wRead ++ rdrB s (int 1) (int 0) (boolA false) nilA (strsA [wAllow]) 1) (pm1 := []) [] [] 5 rfl rfl rfl rfl ⟨AVle.refl _, AVle.refl _, trivial⟩ (line2_spec s nx (nx + 1) (nx + 2) (nx + 3) (nx + 4) (int 1) (int 0) (boolA false) wRead wAllow 8 (by decide +kernel) (by decide) read_allow) (BxLe.refl _) (PmEq.refl _) rfl fun r h' hq => ?_
  obtain ⟨rfl, st, nx2, rfl⟩ := hq
  refine stp ?_
  refine DCall.mono (catch0 _ _) fun u h' hq => ?_
  obtain ⟨rfl, rfl⟩ := hq
  refine ret_all rfl ⟨⟨rfl, Nat.zero_lt_one⟩, trivial⟩ ⟨int 0, ⟨rdrB1 s (int 1) (int 0) (boolA false) (.os 4 1 (fun _ => rulA ⟨wRead, (8, 0), []⟩) (some (0, st))) (strsA []) 2, [((0, st), 4)], nx2, 1⟩, AVle.refl _, ?_, rfl, st, nx2, rfl⟩
  exact hle_tell (rdrB s (int 1) (int 0) (boolA false) (.os 4 1 (fun _ => rulA ⟨wRead, (8, 0), []⟩) (some (0, st))) (strsA []) 2) [((0, st), 4)] rfl (.cons _ (.cons _ (.cons _ (.cons _ (List.Sublist.refl _))))) (List.Sublist.refl _) ⟨rfl, OwnLe.refl _, trivial⟩ (PmEq.refl _)
end Go.Proofs.W

namespace Go.Proofs.W
open Go.Vl
set_option maxRecDepth 100000

def pAw : Pol := ⟨(1, 0), false, [⟨wRead, (8, 0), []⟩]⟩
def LL : List (Nat × List ByteArray) := [(1, [wDefault, wKill]), (2, [wRead, wAllow])]
theorem outLL : outL [(lineA, 1), (lineB, 2)] = LL := by
  show [(1, fieldsL lineA), (2, fieldsL lineB)] = _
  rw [fieldsA, fieldsB]; rfl
/-- The reader behind so many lines. -/
def rdrC (k st : Nat) : List AV := match k with
  | 0 => [int 0, int 0, boolA false, nilA, nilA, int 0]
  | 1 => [int 1, int 0, boolA false, nilA, strsA [], int 1]
  | _ => [int 1, int 0, boolA false, .os 4 1 (fun _ => rulA ⟨wRead, (8, 0), []⟩) (some (0, st)), strsA [], int 2]
def rdrP (k st : Nat) : List (Vl.Id × Nat) := match k with
  | 2 => [((0, st), 4)]
  | _ => []
set_option maxHeartbeats 4000000 in
theorem parse_spec : Tells Tryz.prog 42 [strA textAB] (.tup [polA pAw, int 0, int 0]) := by
  have hl := lexlines_spec
  rw [outLL] at hl
  refine tells_of_aw Tryz.func42 rfl rfl fun nx => ?_
  refine stp ?_
  refine aop_tells rfl rfl hl ⟨AVle.refl _, trivial⟩ fun nx2 => ?_
  refine stp ?_
  refine aw_loop (fun y : Nat × Nat × Nat => mk 52 [(2, .bp (0, nx) 0), (3, int 0), (4, int 0), (8, .bp (1, nx2) 0), (31, linesA LL), (32, int 2), (33, int y.1)] ⟨[((1, nx2), .c (rdrC y.1 y.2.1)), ((0, nx), .c [int 0, int 0, boolA false, nilA])], rdrP y.1 y.2.1, y.2.2, 2⟩) (fun y => y.1 ≤ 2) (fun y => 2 - y.1) ?_ ?_
  · exact ⟨(0, 0, nx2 + 1), Nat.zero_le _, ele_tell (pm := []) (bx := [((1, nx2), .c (rdrC 0 0)), ((0, nx), .c [int 0, int 0, boolA false, nilA])]) _ _ rfl rfl (List.Sublist.refl _) (List.Sublist.refl _) (BxLe.refl _) trivial ⟨AVle.refl _, AVle.refl _, AVle.refl _, AVle.refl _, AVle.refl _, AVle.refl _, AVle.refl _, trivial⟩⟩
  · rintro ⟨k, st, nx3⟩ h1
    dsimp only at h1
    obtain rfl | rfl | rfl : k = 0 ∨ k = 1 ∨ k = 2 := by omega
    · refine stp ?_
      refine ⟨⟨(by decide : (0 : Int) ≤ 0), (by decide : (0 : Int) < 2)⟩, splitO_eq (b := .rp [int 1, strsA [wDefault, wKill]]) rfl ?_⟩
      refine stp ?_
      refine aop_callM (xs := [.bp (0, nx2) 0, strsA [wDefault, wKill]]) (bx1 := [((1, nx2), .c (rdrC 0 st))]) (pm1 := []) [((2, nx3), .c [int 1, strsA [wDefault, wKill]])] [((0, nx), .c [int 0, int 0, boolA false, nilA])] [] 3 rfl rfl rfl rfl ⟨AVle.bp_nm rfl, AVle.refl _, trivial⟩ (line_first nx2 (nx3 + 1)) ⟨rfl, OwnLe.refl _, trivial⟩ (PmEq.refl _) rfl fun r h' hq => ?_
      obtain ⟨rfl, nx4, rfl⟩ := hq
      refine stp ?_
      exact back (1, 0, nx4) (by dsimp only; omega) (by dsimp only; omega) (ele_tell (pm := rdrP 1 0) (bx := [((1, nx2), .c (rdrC 1 0)), ((0, nx), .c [int 0, int 0, boolA false, nilA])]) _ _ rfl rfl (.cons _ (List.Sublist.refl _)) (List.Sublist.refl _) (BxLe.refl _) (PmEq.refl _) ⟨AVle.refl _, AVle.refl _, AVle.refl _, AVle.refl _, AVle.refl _, AVle.refl _, AVle.refl _, trivial⟩)
    · refine stp ?_
      refine ⟨⟨(by decide : (0 : Int) ≤ 1), (by decide : (1 : Int) < 2)⟩, splitO_eq (b := .rp [int 2, strsA [wRead, wAllow]]) rfl ?_⟩
      refine stp ?_
      refine aop_callM (xs := [.bp (0, nx2) 0, strsA [wRead, wAllow]]) (bx1 := [((1, nx2), .c (rdrC 1 st))]) (pm1 := []) [((2, nx3), .c [int 2, strsA [wRead, wAllow]])] [((0, nx), .c [int 0, int 0, boolA false, nilA])] [] 3 rfl rfl rfl rfl ⟨AVle.bp_nm rfl, AVle.refl _, trivial⟩ (line_rule nx2 (nx3 + 1)) ⟨rfl, OwnLe.refl _, trivial⟩ (PmEq.refl _) rfl fun r h' hq => ?_
      obtain ⟨rfl, st', nx4, rfl⟩ := hq
      refine stp ?_
      exact back (2, st', nx4) (by dsimp only; omega) (by dsimp only; omega) (ele_tell (pm := rdrP 2 st') (bx := [((1, nx2), .c (rdrC 2 st')), ((0, nx), .c [int 0, int 0, boolA false, nilA])]) _ _ rfl rfl (.cons _ (List.Sublist.refl _)) (List.Sublist.refl _) (BxLe.refl _) (PmEq.refl _) ⟨AVle.refl _, AVle.refl _, AVle.refl _, AVle.refl _, AVle.refl _, AVle.refl _, AVle.refl _, trivial⟩)
    · refine stp ?_
      exact ret_tells_all rfl ⟨rfl, trivial⟩ (AVle.tups (cs := [_, _, _]) ⟨AVle.ags (cs := [_, _, _, _]) ⟨AVle.refl _, AVle.refl _, AVle.refl _, (AVle.os_fun (fun i hi => by obtain rfl : i = 0 := Nat.lt_one_iff.1 hi; rfl)).trans AVle.os_sl, trivial⟩, AVle.refl _, AVle.refl _, trivial⟩)
end Go.Proofs.W

namespace Go.Proofs.W
open Go.Vl
set_option maxRecDepth 100000

end Go.Proofs.W

namespace Go.Proofs.W
open Go.Vl
set_option maxRecDepth 100000

structure Ct where
  name : ByteArray
  many : Nat
deriving DecidableEq
end Go.Proofs.W

namespace Go.Proofs.W
open Go.Vl
set_option maxRecDepth 100000

end Go.Proofs.W

namespace Go.Proofs.W
open Go.Vl
set_option maxRecDepth 100000

def fromC (v : Nat) : AV := .fn (.func 116) [] [.rp [u32 v]]
theorem idxrow_spec (v : Nat) (hv : v < 4294967296) : Tells Tryz.prog 114 [rowsA, fromC v] (int (optI (fromI v))) := by
  refine tells_of_aw Tryz.func114 rfl rfl fun nx => ?_
  refine stp ?_
  refine aw_loop (fun s : Nat × Nat => mk 19 [(0, rowsA), (1, fromC v), (7, int 8), (8, int s.1)] ⟨[], [], s.2, 0⟩) (fun s => s.1 ≤ 8 ∧ ∀ j, j < s.1 → fits v j = false) (fun s => 8 - s.1) ?_ ?_
  · exact ⟨(0, nx), ⟨by simp, by intro j hj; simp at hj⟩, ele_mk rfl rfl ⟨AVle.refl _, AVle.refl _, AVle.refl _, AVle.refl _, trivial⟩⟩
  · rintro ⟨i, nx⟩ ⟨h1, h2⟩
    dsimp only at h1 h2
    by_cases hi : i < 8
    · obtain ⟨s, m, hr1, hr2⟩ := row_kb i hi
      obtain ⟨s', c', m', h3, h4, _⟩ := row_most i hi
      have hm : m = m' := by
        rw [hr1] at h3
        have := AV.ag.inj h3
        simp at this
        exact this.2.2
      rw [← hm] at h4
      have hT := fits_spec v i hi hv s m hr1 hr2 h4
      clear h3
      rcases h4 with rfl | ⟨n', rfl⟩
      all_goals
        refine stp ?_
        intro c h3; cases c
        · exact absurd (not_of h3) (by dsimp only; omega)
        refine stp ?_
        refine ⟨⟨by dsimp only; omega, by dsimp only; omega⟩, splitO_eq (b := .rp [.v (.string s), .v (.int .u32 (kb i)), _]) (by show AV.rp (rowF rowsL i).cells = _; rw [hr1]; rfl) ?_⟩
        refine stp ?_
        refine aop_tells rfl rfl hT ⟨AVle.refl _, AVle.refl _, trivial⟩ fun nx' => ?_
        intro c h4; cases c
        · refine stp ?_
          refine back (i + 1, nx') ⟨by dsimp only; omega, fun j hj => ?_⟩ (by dsimp only; omega) (ele_mk rfl rfl ⟨AVle.refl _, AVle.refl _, AVle.refl _, le_int (wrap_succ (by dsimp only; omega)), trivial⟩)
          dsimp only at hj
          rcases Nat.lt_or_ge j i with h | h
          · exact h2 j h
          · obtain rfl : j = i := by omega
            exact h4.symm
        · refine stp ?_
          refine ret_tells rfl (le_int ?_)
          have : fromI v = some i := by
            unfold fromI
            rw [List.find?_range_eq_some]
            exact ⟨h4.symm, by simp; omega, fun j hj => by rw [h2 j hj]; rfl⟩
          rw [this]; rfl
    · obtain rfl : i = 8 := by omega
      refine stp ?_
      refine ret_tells rfl (le_int ?_)
      have : fromI v = none := by
        unfold fromI
        rw [List.find?_range_eq_none]
        intro j hj
        rw [h2 j hj]; rfl
      rw [this]; rfl
def fromR (v : Nat) : A2 × Int := match fromI v with
  | some k => (((k + 1 : Nat), (v - kb k : Nat)), 0)
  | none => ((0, 0), 5)
theorem fromI_some {v k : Nat} (h : fromI v = some k) : k < 8 ∧ kb k ≤ v ∧ v ≤ kb k + km k := by
  unfold fromI at h
  rw [List.find?_range_eq_some] at h
  obtain ⟨h1, h2, _⟩ := h
  simp [fits] at h1 h2
  exact ⟨h2, h1.1, h1.2⟩
set_option maxHeartbeats 1000000 in
theorem from_some (v k : Nat) (hv : v < 4294967296) (hf : fromI v = some k) (hk : k < 8) (hle : kb k ≤ v) (s : ByteArray) (m : AV) (hr : rowF rowsL k = .ag [.v (.string s), .v (.int .u32 (kb k)), m]) (hm2 : m = .v .nilFunc ∨ ∃ n, m = belowF n) :
    Tells Tryz.prog 74 [u32 v] (.tup [act (k + 1 : Nat) (v - kb k : Nat), int 0]) := by
  have hx := idxrow_spec v hv
  rw [hf] at hx
  have ho := f26_in k hk
  rw [hr] at ho
  have e1 : IntKind.u32.wrap ((v : Int) - (kb k : Int)) = ((v - kb k : Nat) : Int) := by
    rw [show (v : Int) - (kb k : Int) = ((v - kb k : Nat) : Int) by omega]
    simp [IntKind.wrap, IntKind.signed, IntKind.bits]; omega
  have e2 : IntKind.i64.wrap ((v - kb k : Nat) : Int) = ((v - kb k : Nat) : Int) := wrap_id (by omega) (by omega)
  rcases hm2 with rfl | ⟨n', rfl⟩
  all_goals
    refine tells_of_aw Tryz.func74 rfl rfl fun nx => ?_
    (refine stpR ?_; refine aw_region ?_; refine stpR ?_)
    refine aw_freeze (n := 26) (nx := nx + 2) (nn := 2) (pm := []) (bx := [((1, nx + 1), .c [int 0, int 0])]) (L := [(1, .rp [u32 v]), (2, .bp (1, nx + 1) 0), (3, int 0)]) (df := some []) [((0, nx), .c [u32 v])] rfl rfl rfl (List.Perm.swap _ _ _) (List.Sublist.refl _) ⟨Frz.bp (.head _) rfl, Frz.refl _, Frz.refl _, trivial⟩ ?_
    refine stp ?_
    refine aop_tells rfl rfl f28_spec trivial fun nx1 => ?_
    refine stp ?_
    refine aop_tells rfl rfl hx ⟨AVle.refl _, AVle.refl _, trivial⟩ fun nx2 => ?_
    refine stp ?_
    refine aop_tells rfl rfl ho ⟨le_int (by show IntKind.i64.wrap (1 + (k : Int)) = _; rw [wrap_id (by omega) (by omega)]; omega), trivial⟩ fun nx3 => ?_
    refine stp ?_
    refine ret_tells_all rfl ⟨rfl, trivial⟩ (AVle.tups ⟨AVle.ags ⟨le_int ?_, le_int ?_, trivial⟩, AVle.refl _, trivial⟩)
    · show IntKind.i64.wrap (1 + (k : Int)) = _
      rw [wrap_id (by omega) (by omega)]; omega
    · show IntKind.i64.wrap (IntKind.u32.wrap ((v : Int) - (kb k : Int))) = _
      rw [e1, e2]
theorem from_spec (v : Nat) (hv : v < 4294967296) : Tells Tryz.prog 74 [u32 v] (.tup [actP (fromR v).1, int (fromR v).2]) := by
  cases hf : fromI v with
  | some k =>
    obtain ⟨hk, hle, hle2⟩ := fromI_some hf
    obtain ⟨s, m, hr1, hr2⟩ := row_kb k hk
    obtain ⟨s', c', m', h3, h4, _⟩ := row_most k hk
    have hm : m = m' := by
      rw [hr1] at h3
      have := AV.ag.inj h3
      simp at this
      exact this.2.2
    rw [← hm] at h4
    have := from_some v k hv hf hk hle s m hr1 h4
    rw [show fromR v = ((((k + 1 : Nat) : Int), ((v - kb k : Nat) : Int)), 0) by simp [fromR, hf]]
    exact this
  | none =>
    have hx := idxrow_spec v hv
    rw [hf] at hx
    rw [show fromR v = ((0, 0), 5) by simp [fromR, hf]]
    refine tells_of_aw Tryz.func74 rfl rfl fun nx => ?_
    (refine stpR ?_; refine aw_region ?_; refine stpR ?_)
    refine aw_freeze (n := 26) (nx := nx + 2) (nn := 2) (pm := []) (bx := [((1, nx + 1), .c [int 0, int 0])]) (L := [(1, .rp [u32 v]), (2, .bp (1, nx + 1) 0), (3, int 0)]) (df := some []) [((0, nx), .c [u32 v])] rfl rfl rfl (List.Perm.swap _ _ _) (List.Sublist.refl _) ⟨Frz.bp (.head _) rfl, Frz.refl _, Frz.refl _, trivial⟩ ?_
    refine stp ?_
    refine aop_tells rfl rfl f28_spec trivial fun nx1 => ?_
    refine stp ?_
    refine aop_tells rfl rfl hx ⟨AVle.refl _, AVle.refl _, trivial⟩ fun nx2 => ?_
    refine stp ?_
    refine aop_tells rfl rfl (f26_out 0 (by omega)) ⟨AVle.refl _, trivial⟩ fun nx3 => ?_
    refine stp ?_
    exact ret_tells_all rfl ⟨rfl, trivial⟩ (AVle.refl _)
end Go.Proofs.W

namespace Go.Proofs.W
open Go.Vl
set_option maxRecDepth 100000

theorem le_u32' {a b : Int} (h : a = b) : AVle (.v (.int .u32 a)) (u32 b) := h ▸ AVle.refl _
theorem build9 : abuildCells Tryz.prog 173 9 [(0, int 0), (1, int 2147483648), (2, int 0), (3, int 196608), (4, int 327680), (5, int 2143289344), (6, int 2146435072), (7, int 2147221504), (8, int 2147418112)] = some (3, [int 0, int 2147483648, int 0, int 196608, int 327680, int 2143289344, int 2146435072, int 2147221504, int 2147418112]) := by kernel_rfl
theorem base_spec (k : Nat) (hk : k < 8) : Tells Tryz.prog 103 [int (k + 1 : Nat)] (int (kb k)) := by
  refine tells_of_aw Tryz.func103 rfl rfl fun nx => ?_
  (refine stpR ?_; refine aw_region ?_; refine stpR ?_)
  refine aw_regionY (fun n => match n with | 0 => true | _ => false) 1 ?_
  refine aop_build rfl build9 ?_
  refine stp ?_
  refine ⟨⟨by omega, by omega⟩, ?_⟩
  rcases k with _ | _ | _ | _ | _ | _ | _ | _ | k
  iterate 8
    · refine stp ?_
      exact ret_tells rfl (AVle.refl _)
  omega
theorem most09_spec (k : Nat) (hk : k < 8) : Tells Tryz.prog 87 [int (k + 1 : Nat)] (int (km k)) := by
  rw [show ((km k : Nat) : Int) = most9 ((k + 1 : Nat) : Int) by
    rcases k with _ | _ | _ | _ | _ | _ | _ | _ | k
    all_goals first | decide | omega]
  exact most9_spec _
theorem code_spec9 (k n : Nat) (hk : k < 8) (hn : n ≤ km k) : Tells Tryz.prog 52 [act (k + 1 : Nat) n] (.tup [u32 (kb k + n : Nat), int 0]) := by
  obtain ⟨s, m, hr1, hr2⟩ := row_kb k hk
  obtain ⟨s', c', m', h3, h4, _⟩ := row_most k hk
  have hm : m = m' := by
    rw [hr1] at h3
    have := AV.ag.inj h3
    simp at this
    exact this.2.2
  rw [← hm] at h4
  clear h3
  have hle := kb_le hk
  have ho := f26_in k hk
  rw [hr1] at ho
  have hR := f22_spec ((k + 1 : Nat) : Int) (n : Int)
  have hkm : ((km k : Nat) : Int) = most9 ((k + 1 : Nat) : Int) := by
    clear hr1 hr2 h4 hle ho hR hn
    rcases k with _ | _ | _ | _ | _ | _ | _ | _ | k
    all_goals first | decide | omega
  rw [show right9 ((k + 1 : Nat) : Int) (n : Int) = true by unfold right9; rw [← hkm]; simp; omega] at hR
  have e1 : IntKind.u32.wrap (n : Int) = (n : Int) := by simp [IntKind.wrap, IntKind.signed, IntKind.bits]; omega
  have e2 : IntKind.u32.wrap ((kb k : Int) + (n : Int)) = ((kb k + n : Nat) : Int) := by
    rw [show (kb k : Int) + (n : Int) = ((kb k + n : Nat) : Int) by omega]
    simp [IntKind.wrap, IntKind.signed, IntKind.bits]; omega
  rcases h4 with rfl | ⟨n', rfl⟩
  all_goals
    refine tells_of_aw Tryz.func52 rfl rfl fun nx => ?_
    refine stp ?_
    refine aop_tells rfl rfl hR ⟨AVle.refl _, trivial⟩ fun nx1 => ?_
    refine stp ?_
    refine aop_tells rfl rfl ho ⟨AVle.refl _, trivial⟩ fun nx2 => ?_
    refine stp ?_
    refine ret_tells rfl (AVle.tups ⟨le_u32' ?_, AVle.refl _, trivial⟩)
    show IntKind.u32.wrap ((kb k : Int) + IntKind.u32.wrap (n : Int)) = _
    rw [e1, e2]
theorem rcode_spec (k n : Nat) (hk : k < 8) (hn : n ≤ km k) : Tells Tryz.prog 55 [act (k + 1 : Nat) n] (int (kb k + n : Nat)) := by
  have hle := kb_le hk
  refine tells_of_aw Tryz.func55 rfl rfl fun nx => ?_
  refine stp ?_
  (refine aw_draw 6 ?_ ?_ ?_ ?_; (· kernel_rfl); (· kernel_rfl); (· kernel_rfl))
  refine stp ?_
  refine ex_yields (yields_tells rfl rfl (base_spec k hk) ⟨AVle.refl _, trivial⟩ (NoId.v _)) ?_
  refine stp ?_
  refine ret_tells rfl (le_int ?_)
  rw [wrap_id (by omega) (by omega)]
  omega
end Go.Proofs.W

namespace Go.Proofs.W
open Go.Vl
set_option maxRecDepth 100000

def hB (x : Nat → Nat) (c : Cnd) : Bool := rightC c && holdsC c ([x 0, x 1, x 2, x 3, x 4, x 5].getD c.arg.toNat 0)
def letB (x : Nat → Nat) (r : Rul) : Bool := r.conds.all (hB x)
theorem six_lt {x : Nat → Nat} (hx : ∀ i, x i < 18446744073709551616) (i : Nat) : [x 0, x 1, x 2, x 3, x 4, x 5].getD i 0 < 18446744073709551616 := by
  rcases i with _ | _ | _ | _ | _ | _ | i
  · exact hx 0
  · exact hx 1
  · exact hx 2
  · exact hx 3
  · exact hx 4
  · exact hx 5
  · exact Nat.zero_lt_succ _
theorem hold_spec (x : Nat → Nat) (hx : ∀ i, x i < 18446744073709551616) (c : Cnd) (hc : c.ok) : Tells Tryz.prog 96 [cndA c, arrA x] (boolA (hB x c)) := holds_spec c (x 0) (x 1) (x 2) (x 3) (x 4) (x 5) hc (six_lt hx)
def arrP (x : Nat → Nat) : AV := .rp [u64 (x 0), u64 (x 1), u64 (x 2), u64 (x 3), u64 (x 4), u64 (x 5)]
theorem all1_spec (x : Nat → Nat) (hx : ∀ i, x i < 18446744073709551616) (c : Cnd) (hc : c.ok) : Tells Tryz.prog 95 [cndA c, arrP x] (boolA (!hB x c)) := by
  have hh := hold_spec x hx c hc
  generalize hB x c = b at hh
  refine tells_of_aw Tryz.func95 rfl rfl fun nx => ?_
  refine stp ?_
  refine splitO_eq (b := cndA c) rfl ?_
  refine stp ?_
  refine aop_tells rfl rfl hh ⟨AVle.refl _, AVle.refl _, trivial⟩ fun nx2 => ?_
  cases b
  · refine stp ?_
    exact ret_tells rfl (AVle.refl _)
  · refine stp ?_
    exact ret_tells rfl (AVle.refl _)
theorem idxc_cnd (l : List Cnd) (p : Cnd → Bool) (f : Nat) (x : Nat → Nat) (hl : l.length ≤ 1000000000) (hp : ∀ i, i < l.length → Tells Tryz.prog f (cndA (l.getD i cnd0) :: [arrP x]) (boolA (p (l.getD i cnd0)))) :
    Tells Tryz.prog 143 [slOf 4 cndA cnd0 l, (.fn (.func f) [] [arrP x])] (int (optI (l.findIdx? p))) := by
  refine tells_of_aw Tryz.func143 rfl rfl fun nx => ?_
  refine stp ?_
  refine aw_loop (fun s : Nat × Nat => mk 19 [(0, slOf 4 cndA cnd0 l), (1, (.fn (.func f) [] [arrP x])), (7, int l.length), (8, int s.1)] ⟨[], [], s.2, 0⟩) (fun s => s.1 ≤ l.length ∧ ∀ j, j < s.1 → p (l.getD j cnd0) = false) (fun s => l.length - s.1) ?_ ?_
  · exact ⟨(0, nx), ⟨by simp, by intro j hj; simp at hj⟩, ele_mk rfl rfl ⟨AVle.refl _, AVle.refl _, AVle.refl _, AVle.refl _, trivial⟩⟩
  · rintro ⟨i, nx⟩ ⟨h1, h2⟩
    dsimp only at h1 h2
    refine stp ?_
    intro c h3; cases c
    · have h3 := not_of h3
      dsimp only at h3
      refine stp ?_
      refine ret_tells rfl (le_int ?_)
      rw [idx_none cnd0 (fun j hj => h2 j (by omega))]; rfl
    · have h3 := yes_of h3
      dsimp only at h3
      have hi : i < l.length := by omega
      refine stp ?_
      refine ⟨⟨by dsimp only; omega, by dsimp only; omega⟩, ?_⟩
      refine stp ?_
      refine aop_tells rfl rfl (hp i hi) ⟨AVle.refl _, AVle.refl _, trivial⟩ fun nx' => ?_
      intro c h4; cases c
      · refine stp ?_
        refine back (i + 1, nx') ⟨by dsimp only; omega, fun j hj => ?_⟩ (by dsimp only; omega) (ele_mk rfl rfl ⟨AVle.refl _, AVle.refl _, AVle.refl _, le_int (wrap_succ (by dsimp only; omega)), trivial⟩)
        dsimp only at hj
        rcases Nat.lt_or_ge j i with h | h
        · exact h2 j h
        · obtain rfl : j = i := by omega
          exact h4.symm
      · refine stp ?_
        refine ret_tells rfl (le_int ?_)
        rw [idx_at cnd0 hi h2 h4.symm]; rfl
theorem cntc_cnd (l : List Cnd) (p : Cnd → Bool) (f : Nat) (x : Nat → Nat) (hl : l.length ≤ 1000000000) (hp : ∀ i, i < l.length → Tells Tryz.prog f (cndA (l.getD i cnd0) :: [arrP x]) (boolA (p (l.getD i cnd0)))) :
    Tells Tryz.prog 94 [slOf 4 cndA cnd0 l, (.fn (.func f) [] [arrP x])] (boolA (l.any p)) := by
  refine tells_of_aw Tryz.func94 rfl rfl fun nx => ?_
  refine stp ?_
  refine aop_tells rfl rfl (idxc_cnd l p f x hl hp) ⟨AVle.refl _, AVle.refl _, trivial⟩ fun nx' => ?_
  refine stp ?_
  intro c h; cases c
  all_goals
    refine stp ?_
    refine ret_tells rfl (le_bool ?_)
    rw [h, ← List.findIdx?_isSome]
    exact optI_nonneg _
theorem all_spec (x : Nat → Nat) (hx : ∀ i, x i < 18446744073709551616) (l : List Cnd) (hl : l.length ≤ 1000000000) (hc : ∀ c ∈ l, c.ok) : Tells Tryz.prog 46 [cnds l, arrA x] (boolA (l.all (hB x))) := by
  have hcn := cntc_cnd l (fun c => !hB x c) 95 x hl (fun i hi => all1_spec x hx _ (hc _ (by simp [List.getD, hi])))
  have he : (l.any fun c => !hB x c) = !(l.all (hB x)) := by rw [List.all_eq_not_any_not, Bool.not_not]
  rw [he] at hcn
  generalize l.all (hB x) = b at hcn
  refine tells_of_aw Tryz.func46 rfl rfl fun nx => ?_
  (refine stpR ?_; refine aw_region ?_; refine stpR ?_)
  refine aw_freeze (n := 9) (nx := nx + 1) (nn := 1) (pm := []) (bx := []) (L := [(0, cnds l), (3, arrP x), (4, boolA false)]) (df := some []) [((0, nx), .c [u64 (x 0), u64 (x 1), u64 (x 2), u64 (x 3), u64 (x 4), u64 (x 5)])] rfl rfl rfl (List.Perm.refl _) (List.Sublist.refl _) ⟨Frz.refl _, Frz.bp (.head _) rfl, Frz.refl _, trivial⟩ ?_
  refine stp ?_
  refine aop_tells rfl rfl hcn ⟨AVle.refl _, AVle.refl _, trivial⟩ fun nx2 => ?_
  cases b
  · refine stp ?_
    exact ret_tells rfl (AVle.refl _)
  · refine stp ?_
    exact ret_tells rfl (AVle.refl _)
theorem let_spec (x : Nat → Nat) (hx : ∀ i, x i < 18446744073709551616) (r : Rul) (hl : r.conds.length ≤ 1000000000) (hc : ∀ c ∈ r.conds, c.ok) : Tells Tryz.prog 45 [rulA r, arrP x] (boolA (letB x r)) := by
  have ha := all_spec x hx r.conds hl hc
  unfold letB
  generalize r.conds.all (hB x) = b at ha
  refine tells_of_aw Tryz.func45 rfl rfl fun nx => ?_
  refine stp ?_
  refine aop_tells rfl rfl ha ⟨AVle.refl _, AVle.refl _, trivial⟩ fun nx2 => ?_
  cases b
  · refine stp ?_
    exact ret_tells rfl (AVle.refl _)
  · refine stp ?_
    exact ret_tells rfl (AVle.refl _)
theorem find_first {l : List Rul} {q : Rul → Bool} {i : Nat} (hi : i < l.length) (h : ∀ j, j < i → q (l.getD j rul0) = false) (hq : q (l.getD i rul0) = true) : l.find? q = some (l.getD i rul0) := by
  have e : l.getD i rul0 = l[i] := by simp [List.getD, hi]
  rw [e] at hq ⊢
  rw [List.find?_eq_some_iff_getElem]
  refine ⟨hq, i, hi, rfl, fun j hj => ?_⟩
  have := h j hj
  rw [show l.getD j rul0 = l[j] by simp [List.getD, show j < l.length by omega]] at this
  rw [this]; rfl
def decP (p : Pol) (nm : ByteArray) (x : Nat → Nat) : A2 := match p.rules.find? (fun r => kS r.name nm && letB x r) with
  | some r => r.act
  | none => p.dflt
set_option maxHeartbeats 4000000 in
theorem first_dec (p : Pol) (nm : ByteArray) (x : Nat → Nat) (hl : p.rules.length ≤ 1000000) (hp : ∀ r ∈ p.rules, Tells Tryz.prog 45 [rulA r, arrP x] (boolA (letB x r))) : Tells Tryz.prog 44 [polA p, strA nm, .fn (.func 45) [] [arrP x]] (actP (decP p nm x)) := by
  obtain ⟨⟨k, n⟩, x32, rs⟩ := p
  dsimp only at hl hp
  refine tells_of_aw Tryz.func44 rfl rfl fun nx => ?_
  refine stp ?_
  refine aw_scope ?_
  refine stp ?_
  refine aw_loop (fun y : Nat × Nat => mk 30 [(1, strA nm), (2, .fn (.func 45) [] [arrP x]), (3, .bp (0, nx) 0), (6, .bp (1, nx + 1) 0), (10, ruls rs), (11, int rs.length), (12, int y.1)] ⟨[((1, nx + 1), .c [int 0, int 0]), ((0, nx), .c [int k, int n, boolA x32, ruls rs])], [], y.2, 2⟩) (fun y => y.1 ≤ rs.length ∧ ∀ j, j < y.1 → (kS (rs.getD j rul0).name nm && letB x (rs.getD j rul0)) = false) (fun y => rs.length - y.1) ?_ ?_
  · exact ⟨(0, nx + 2), ⟨Nat.zero_le _, fun j h => absurd h (Nat.not_lt_zero _)⟩, ele_tell (pm := []) (bx := [((1, nx + 1), .c [int 0, int 0]), ((0, nx), .c [int k, int n, boolA x32, ruls rs])]) _ _ rfl rfl (List.Sublist.refl _) (List.Sublist.refl _) (BxLe.refl _) trivial ⟨AVle.refl _, AVle.refl _, AVle.refl _, AVle.refl _, AVle.refl _, AVle.refl _, AVle.refl _, trivial⟩⟩
  · rintro ⟨i, nx1⟩ ⟨h1, h2⟩
    dsimp only at h1 h2
    refine stp ?_
    intro c g1; cases c
    · have g1 := not_of g1
      try dsimp only at g1
      have hi : i = rs.length := by omega
      subst hi
      have hd : decP ⟨(k, n), x32, rs⟩ nm x = (k, n) := by
        unfold decP
        rw [List.find?_eq_none.2 fun r hr => ?_]
        obtain ⟨j, hj, rfl⟩ := List.mem_iff_getElem.1 hr
        have := h2 j hj
        rw [show rs.getD j rul0 = rs[j] by simp [List.getD, hj]] at this
        rw [this]; decide
      refine stp ?_
      exact ret_tells_all rfl ⟨rfl, trivial⟩ (AVle.of_eq (by rw [hd]; rfl))
    · have g1 := yes_of g1
      try dsimp only at g1
      have hi : i < rs.length := by omega
      have hlet := hp (rs.getD i rul0) (by simp [List.getD, hi])
      generalize hr : rs.getD i rul0 = r at hlet
      refine stp ?_
      refine ⟨⟨by first | omega | (dsimp only; omega), by first | omega | (dsimp only; omega)⟩, splitO_eq (b := .rp [strA r.name, int r.act.1, int r.act.2, cnds r.conds]) (by rw [← hr]; rfl) ?_⟩
      refine stp ?_
      intro c hc
      have hc2 : kS r.name nm = !c := by rw [show c = (r.name.toList != nm.toList) from hc]; unfold kS; rw [bne, Bool.not_not]
      clear hc
      cases c
      · refine stp ?_
        refine splitO_eq (b := rulA r) rfl ?_
        refine stp ?_
        generalize hlb : letB x r = bb at hlet
        refine aop_tells rfl rfl hlet ⟨AVle.refl _, AVle.refl _, trivial⟩ fun nx2 => ?_
        cases bb
        · have hno : (kS r.name nm && letB x r) = false := by rw [hlb, Bool.and_false]
          refine stp ?_
          exact back (i + 1, nx2) ⟨hi, fun j hj => by dsimp only at hj; rcases Nat.lt_or_ge j i with q | q; exact h2 j q; rw [show j = i by omega, hr]; exact hno⟩ (by dsimp only; omega) (ele_tell (pm := []) (bx := [((1, nx + 1), .c [int 0, int 0]), ((0, nx), .c [int k, int n, boolA x32, ruls rs])]) _ _ rfl rfl (.cons _ (List.Sublist.refl _)) (List.Sublist.refl _) (BxLe.refl _) trivial ⟨AVle.refl _, AVle.refl _, AVle.refl _, AVle.refl _, AVle.refl _, AVle.refl _, le_int (wrap_succ (by first | omega | (dsimp only; omega))), trivial⟩)
        · have hd : decP ⟨(k, n), x32, rs⟩ nm x = r.act := by
            unfold decP
            rw [find_first hi h2 (by rw [hr, hc2, hlb]; rfl), hr]
          refine stp ?_
          exact ret_tells_all rfl ⟨rfl, trivial⟩ (AVle.of_eq (by rw [hd]; rfl))
      · have hno : (kS r.name nm && letB x r) = false := by rw [hc2]; rfl
        refine stp ?_
        exact back (i + 1, nx1 + 1) ⟨hi, fun j hj => by dsimp only at hj; rcases Nat.lt_or_ge j i with q | q; exact h2 j q; rw [show j = i by omega, hr]; exact hno⟩ (by dsimp only; omega) (ele_tell (pm := []) (bx := [((1, nx + 1), .c [int 0, int 0]), ((0, nx), .c [int k, int n, boolA x32, ruls rs])]) _ _ rfl rfl (.cons _ (List.Sublist.refl _)) (List.Sublist.refl _) (BxLe.refl _) trivial ⟨AVle.refl _, AVle.refl _, AVle.refl _, AVle.refl _, AVle.refl _, AVle.refl _, le_int (wrap_succ (by first | omega | (dsimp only; omega))), trivial⟩)
theorem decide_spec (p : Pol) (nm : ByteArray) (x : Nat → Nat) (hl : p.rules.length ≤ 1000000) (hp : ∀ r ∈ p.rules, Tells Tryz.prog 45 [rulA r, arrP x] (boolA (letB x r))) : Tells Tryz.prog 12 [polA p, strA nm, arrA x] (actP (decP p nm x)) := by
  have hf := first_dec p nm x hl hp
  generalize decP p nm x = a at hf
  obtain ⟨k', n'⟩ := a
  obtain ⟨⟨k, n⟩, x32, rs⟩ := p
  refine tells_of_aw Tryz.func12 rfl rfl fun nx => ?_
  (refine stpR ?_; refine aw_region ?_; refine stpR ?_)
  refine aw_freeze (n := 11) (nx := nx + 3) (nn := 3) (pm := []) (bx := [((2, nx + 2), .c [int 0, int 0]), ((0, nx), .c [int k, int n, boolA x32, ruls rs])]) (L := [(1, strA nm), (3, .bp (0, nx) 0), (5, arrP x), (6, .bp (2, nx + 2) 0)]) (df := some []) [((1, nx + 1), .c [u64 (x 0), u64 (x 1), u64 (x 2), u64 (x 3), u64 (x 4), u64 (x 5)])] rfl rfl rfl (List.Perm.swap _ _ _) (List.Sublist.refl _) ⟨Frz.refl _, Frz.refl _, Frz.bp (.head _) rfl, Frz.refl _, trivial⟩ ?_
  refine stp ?_
  refine aop_tells rfl rfl hf ⟨AVle.refl _, AVle.refl _, AVle.refl _, trivial⟩ fun nx2 => ?_
  refine stp ?_
  exact ret_tells_all rfl ⟨rfl, trivial⟩ (AVle.refl _)
def blindP (p : Pol) (nm : ByteArray) : A2 := match p.rules.find? (fun r => kS r.name nm) with
  | some r => if r.conds.length = 0 then r.act else p.dflt
  | none => p.dflt
def metB (s : Nat) (m : Bool) : List (Vl.Id × Own) := [((0, s), .c [boolA m])]
theorem blind1_spec (s : Nat) (m : Bool) (r : Rul) (nx : Nat) : ECall Tryz.prog 48 [rulA r, .bp (0, s) 0] ⟨metB s m, [], nx, 1⟩ fun v h' => v = boolA (!m && decide (r.conds.length = 0)) ∧ ∃ nx', h' = ⟨metB s true, [], nx', 1⟩ := by
  refine ECall.wk (ecall_of_aw Tryz.func48 rfl rfl ?_)
  cases m
  · refine stp ?_
    intro c hc
    have hc2 : c = decide (r.conds.length = 0) := hc.trans (by rw [Bool.eq_iff_iff]; simp)
    clear hc
    rw [← hc2]
    clear hc2
    refine stp ?_
    refine ret_all rfl trivial ⟨boolA c, ⟨metB s true, [], nx + 1, 1⟩, AVle.refl _, ?_, by cases c <;> rfl, nx + 1, rfl⟩
    exact hle_tell (metB s true) [] rfl (.cons _ (List.Sublist.refl _)) (List.Sublist.refl _) (BxLe.refl _) (PmEq.refl _)
  · refine stp ?_
    refine ret_all rfl trivial ⟨boolA false, ⟨metB s true, [], nx + 1, 1⟩, AVle.refl _, ?_, rfl, nx + 1, rfl⟩
    exact hle_tell (metB s true) [] rfl (.cons _ (List.Sublist.refl _)) (List.Sublist.refl _) (BxLe.refl _) (PmEq.refl _)
end Go.Proofs.W

namespace Go.Proofs.W
open Go.Vl
set_option maxRecDepth 100000

set_option maxHeartbeats 4000000 in
theorem first_blind (p : Pol) (nm : ByteArray) (hl : p.rules.length ≤ 1000000) (s nx : Nat) : ECall Tryz.prog 44 [polA p, strA nm, .fn (.func 48) [] [.bp (0, s) 0]] ⟨metB s false, [], nx, 1⟩ fun v h' => v = actP (blindP p nm) ∧ ∃ m nx', h' = ⟨metB s m, [], nx', 1⟩ := by
  obtain ⟨⟨k, n⟩, x32, rs⟩ := p
  dsimp only at hl
  refine ECall.wk (ecall_of_aw Tryz.func44 rfl rfl ?_)
  refine stp ?_
  refine aw_scope ?_
  refine stp ?_
  refine aw_loop (fun y : Nat × Bool × Nat => mk 30 [(1, strA nm), (2, .fn (.func 48) [] [.bp (0, s) 0]), (3, .bp (1, nx) 0), (6, .bp (2, nx + 1) 0), (10, ruls rs), (11, int rs.length), (12, int y.1)] ⟨[((2, nx + 1), .c [int 0, int 0]), ((1, nx), .c [int k, int n, boolA x32, ruls rs]), ((0, s), .c [boolA y.2.1])], [], y.2.2, 3⟩) (fun y => y.1 ≤ rs.length ∧ (y.2.1 = false → ∀ j, j < y.1 → kS (rs.getD j rul0).name nm = false) ∧ (y.2.1 = true → blindP ⟨(k, n), x32, rs⟩ nm = (k, n))) (fun y => rs.length - y.1) ?_ ?_
  · exact ⟨(0, false, nx + 2), ⟨Nat.zero_le _, fun _ j h => absurd h (Nat.not_lt_zero _), fun h => by cases h⟩, ele_tell (pm := []) (bx := [((2, nx + 1), .c [int 0, int 0]), ((1, nx), .c [int k, int n, boolA x32, ruls rs]), ((0, s), .c [boolA false])]) _ _ rfl rfl (List.Sublist.refl _) (List.Sublist.refl _) (BxLe.refl _) trivial ⟨AVle.refl _, AVle.refl _, AVle.refl _, AVle.refl _, AVle.refl _, AVle.refl _, AVle.refl _, trivial⟩⟩
  · rintro ⟨i, m, nx1⟩ ⟨h1, h2, h3⟩
    dsimp only at h1 h2 h3
    refine stp ?_
    intro c g1; cases c
    · have g1 := not_of g1
      try dsimp only at g1
      have hi : i = rs.length := by omega
      subst hi
      have hd : blindP ⟨(k, n), x32, rs⟩ nm = (k, n) := by
        cases m with
        | true => exact h3 rfl
        | false =>
          unfold blindP
          rw [List.find?_eq_none.2 fun r hr => ?_]
          obtain ⟨j, hj, rfl⟩ := List.mem_iff_getElem.1 hr
          have := h2 rfl j hj
          rw [show rs.getD j rul0 = rs[j] by simp [List.getD, hj]] at this
          rw [this]; decide
      refine stp ?_
      refine ret_all rfl ⟨rfl, trivial⟩ ⟨act k n, ⟨metB s m, [], nx1, 1⟩, AVle.refl _, ?_, by rw [hd]; rfl, m, nx1, rfl⟩
      exact hle_tell (metB s m) [] rfl (.cons _ (.cons _ (List.Sublist.refl _))) (List.Sublist.refl _) (BxLe.refl _) (PmEq.refl _)
    · have g1 := yes_of g1
      try dsimp only at g1
      have hi : i < rs.length := by omega
      generalize hr : rs.getD i rul0 = r
      refine stp ?_
      refine ⟨⟨by first | omega | (dsimp only; omega), by first | omega | (dsimp only; omega)⟩, splitO_eq (b := .rp [strA r.name, int r.act.1, int r.act.2, cnds r.conds]) (by rw [← hr]; rfl) ?_⟩
      refine stp ?_
      intro c hc
      have hc2 : kS r.name nm = !c := by rw [show c = (r.name.toList != nm.toList) from hc]; unfold kS; rw [bne, Bool.not_not]
      clear hc
      cases c
      · refine stp ?_
        refine splitO_eq (b := rulA r) rfl ?_
        refine stp ?_
        refine aop_callF (xs := [rulA r, .bp (0, s) 0]) (bx1 := metB s m) (pm1 := []) [((3, nx1), .c [strA r.name, int r.act.1, int r.act.2, cnds r.conds]), ((2, nx + 1), .c [int 0, int 0]), ((1, nx), .c [int k, int n, boolA x32, ruls rs])] [] 4 rfl rfl rfl rfl ⟨AVle.refl _, AVle.refl _, trivial⟩ (blind1_spec s m r (nx1 + 1)) (BxLe.refl _) (PmEq.refl _) rfl fun v h' hq => ?_
        obtain ⟨rfl, nx2, rfl⟩ := hq
        cases m with
        | true =>
          refine stp ?_
          exact back (i + 1, true, nx2) ⟨hi, (fun h => by cases h), fun _ => h3 rfl⟩ (by dsimp only; omega) (ele_tell (pm := []) (bx := [((2, nx + 1), .c [int 0, int 0]), ((1, nx), .c [int k, int n, boolA x32, ruls rs]), ((0, s), .c [boolA true])]) _ _ rfl rfl (.cons _ (List.Sublist.refl _)) (List.Sublist.refl _) (BxLe.refl _) trivial ⟨AVle.refl _, AVle.refl _, AVle.refl _, AVle.refl _, AVle.refl _, AVle.refl _, le_int (wrap_succ (by first | omega | (dsimp only; omega))), trivial⟩)
        | false =>
          have hfnd : rs.find? (fun r => kS r.name nm) = some r := by
            have := find_first (q := fun r => kS r.name nm) hi (h2 rfl) (by rw [hr]; exact hc2)
            rw [hr] at this
            exact this
          generalize hd0 : decide (r.conds.length = 0) = dd
          cases dd with
          | true =>
            have hd : blindP ⟨(k, n), x32, rs⟩ nm = r.act := by unfold blindP; rw [hfnd]; exact if_pos (of_decide_eq_true hd0)
            refine stp ?_
            refine ret_all rfl ⟨rfl, trivial⟩ ⟨actP r.act, ⟨metB s true, [], nx2, 1⟩, AVle.refl _, ?_, by rw [hd], true, nx2, rfl⟩
            exact hle_tell (metB s true) [] rfl (.cons _ (.cons _ (.cons _ (List.Sublist.refl _)))) (List.Sublist.refl _) (BxLe.refl _) (PmEq.refl _)
          | false =>
            have hd : blindP ⟨(k, n), x32, rs⟩ nm = (k, n) := by unfold blindP; rw [hfnd]; exact if_neg (of_decide_eq_false hd0)
            refine stp ?_
            exact back (i + 1, true, nx2) ⟨hi, (fun h => by cases h), fun _ => hd⟩ (by dsimp only; omega) (ele_tell (pm := []) (bx := [((2, nx + 1), .c [int 0, int 0]), ((1, nx), .c [int k, int n, boolA x32, ruls rs]), ((0, s), .c [boolA true])]) _ _ rfl rfl (.cons _ (List.Sublist.refl _)) (List.Sublist.refl _) (BxLe.refl _) trivial ⟨AVle.refl _, AVle.refl _, AVle.refl _, AVle.refl _, AVle.refl _, AVle.refl _, le_int (wrap_succ (by first | omega | (dsimp only; omega))), trivial⟩)
      · refine stp ?_
        exact back (i + 1, m, nx1 + 1) ⟨hi, fun hm j hj => by dsimp only at hj; rcases Nat.lt_or_ge j i with q | q; exact h2 hm j q; rw [show j = i by omega, hr]; exact hc2, h3⟩ (by dsimp only; omega) (ele_tell (pm := []) (bx := [((2, nx + 1), .c [int 0, int 0]), ((1, nx), .c [int k, int n, boolA x32, ruls rs]), ((0, s), .c [boolA m])]) _ _ rfl rfl (.cons _ (List.Sublist.refl _)) (List.Sublist.refl _) (BxLe.refl _) trivial ⟨AVle.refl _, AVle.refl _, AVle.refl _, AVle.refl _, AVle.refl _, AVle.refl _, le_int (wrap_succ (by first | omega | (dsimp only; omega))), trivial⟩)
theorem blind_spec (p : Pol) (nm : ByteArray) (hl : p.rules.length ≤ 1000000) : Tells Tryz.prog 14 [polA p, strA nm] (actP (blindP p nm)) := by
  have hf := first_blind p nm hl
  generalize blindP p nm = a at hf
  obtain ⟨k', n'⟩ := a
  obtain ⟨⟨k, n⟩, x32, rs⟩ := p
  refine tells_of_aw Tryz.func14 rfl rfl fun nx => ?_
  refine stp ?_
  refine aop_callP (xs := [polA ⟨(k, n), x32, rs⟩, strA nm, .fn (.func 48) [] [.bp (0, nx + 2) 0]]) (bx1 := [((2, nx + 2), .c [boolA false])]) (pm1 := []) [((1, nx + 1), .c [int 0, int 0]), ((0, nx), .c [int k, int n, boolA x32, ruls rs])] [] 3 rfl rfl rfl rfl ⟨AVle.refl _, AVle.refl _, AVle.fn_caps ⟨AVle.bp_nm rfl, trivial⟩, trivial⟩ (hf (nx + 2) (nx + 3)) ⟨rfl, OwnLe.refl _, trivial⟩ (PmEq.refl _) rfl fun v h' hq => ?_
  obtain ⟨rfl, m, nx2, rfl⟩ := hq
  refine stp ?_
  exact ret_tells_all rfl ⟨rfl, trivial⟩ (AVle.refl _)
end Go.Proofs.W

namespace Go.Proofs.W
open Go.Vl
set_option maxRecDepth 100000

def fewB (l : List TRow) : Bool := decide (l.length ≤ 40) && !l.any fun r => decide (60 < r.name.size)
end Go.Proofs.W

namespace Go.Proofs.W
open Go.Vl
set_option maxRecDepth 100000

end Go.Proofs.W

namespace Go.Proofs.W
open Go.Vl
set_option maxRecDepth 100000

end Go.Proofs.W

namespace Go.Proofs.W
open Go.Vl
set_option maxRecDepth 100000

def okN (n : Nat) : Bool := (decide (97 ≤ n) && decide (n ≤ 122)) || (decide (48 ≤ n) && decide (n ≤ 57)) || decide (n = 95)
theorem signs_all : ∀ n, n < 256 → signsB.data.toList.contains (UInt8.ofNat n) = okN n := by decide +kernel
theorem letters_all : ∀ n, n < 256 → lettersB.data.toList.contains (UInt8.ofNat n) = (decide (97 ≤ n) && decide (n ≤ 122)) := by decide +kernel
theorem signs_ok (b : UInt8) : signsB.data.toList.contains b = okN b.toNat := by
  have := signs_all b.toNat b.toNat_lt
  rwa [UInt8.ofNat_toNat] at this
theorem letters_ok (b : UInt8) : lettersB.data.toList.contains b = (decide (97 ≤ b.toNat) && decide (b.toNat ≤ 122)) := by
  have := letters_all b.toNat b.toNat_lt
  rwa [UInt8.ofNat_toNat] at this
/-- As the reference asks. -/
theorem nameB_ref (l : List UInt8) : nameB l = true ↔ l.length ≠ 0 ∧ l.length ≤ 30 ∧ 97 ≤ (l.headD 0).toNat ∧ (l.headD 0).toNat ≤ 122 ∧ l ≠ defaultL ∧ l ≠ x32L ∧ ∀ j, j < l.length → okN (l.getD j 0).toNat = true := by
  unfold nameB
  simp only [Bool.and_eq_true, Bool.not_eq_true', beq_eq_false_iff_ne, decide_eq_true_eq, letters_ok, List.all_eq_true, signs_ok]
  constructor
  · rintro ⟨h1, h2, h3, h4, h5, h6, h7⟩
    refine ⟨fun h => h1 (List.length_eq_zero_iff.1 h), h4, h6, h7, h2, h3, fun j hj => ?_⟩
    exact h5 _ (by simp [List.getD, hj])
  · rintro ⟨h1, h2, h3, h4, h5, h6, h7⟩
    refine ⟨fun h => h1 (by rw [h]; rfl), h5, h6, h2, fun x hx => ?_, h3, h4⟩
    obtain ⟨j, hj, rfl⟩ := List.getElem_of_mem hx
    have := h7 j hj
    simpa [List.getD, hj] using this
theorem nameB_false {l : List UInt8} (h : ¬ (l.length ≠ 0 ∧ l.length ≤ 30 ∧ 97 ≤ (l.headD 0).toNat ∧ (l.headD 0).toNat ≤ 122 ∧ l ≠ defaultL ∧ l ≠ x32L ∧ ∀ j, j < l.length → okN (l.getD j 0).toNat = true)) : nameB l = false := by
  rw [← nameB_ref] at h
  simpa using h
theorem okN_in {n : Nat} (h : (97 ≤ n ∧ n ≤ 122) ∨ (48 ≤ n ∧ n ≤ 57) ∨ n = 95) : okN n = true := by
  unfold okN
  simp only [Bool.or_eq_true, Bool.and_eq_true, decide_eq_true_eq]
  omega
theorem okN_out {n : Nat} (h : ¬ ((97 ≤ n ∧ n ≤ 122) ∨ (48 ≤ n ∧ n ≤ 57) ∨ n = 95)) : okN n = false := by
  unfold okN
  simp only [Bool.or_eq_false_iff, Bool.and_eq_false_iff, decide_eq_false_iff_not]
  omega
theorem ba_get (s : ByteArray) (i : Nat) : s.data.getD i 0 = s.data.toList.getD i 0 := by
  simp [Array.getD_eq_getD_getElem?, List.getD]
theorem head_getD (l : List UInt8) : l.headD 0 = l.getD 0 0 := by cases l <;> rfl
set_option maxHeartbeats 1000000 in
theorem name11_spec (s : ByteArray) : Tells Tryz.prog 88 [strA s] (boolA (nameB s.data.toList)) := by
  have hsz : s.size = s.data.toList.length := rfl
  refine tells_of_aw Tryz.func88 rfl rfl fun nx => ?_
  refine stp ?_
  intro c t1; cases c
  rotate_left
  · have t1 : ((s.size : Nat) : Int) = 0 := fct_b1.1 t1
    refine stp ?_
    exact ret_tells rfl (le_bool (nameB_false (fun h => h.1 (by omega))).symm)
  have t1 : ((s.size : Nat) : Int) ≠ 0 := fct_b0.1 t1
  refine stp ?_
  intro c t2; cases c
  rotate_left
  · have t2 : ((s.size : Nat) : Int) > 30 := yes_of t2
    refine stp ?_
    exact ret_tells rfl (le_bool (nameB_false (fun h => absurd h.2.1 (by omega))).symm)
  have t2 : ¬ ((s.size : Nat) : Int) > 30 := not_of t2
  refine stp ?_
  refine ⟨⟨by decide, by show (0 : Int) < (s.size : Int); omega⟩, ?_⟩
  refine stp ?_
  intro c t3; cases c
  rotate_left
  · have t3 : (((s.data.getD 0 0).toNat : Nat) : Int) < 97 := yes_of t3
    rw [ba_get, ← head_getD] at t3
    refine stp ?_
    exact ret_tells rfl (le_bool (nameB_false (fun h => absurd h.2.2.1 (by omega))).symm)
  have t3 : ¬ (((s.data.getD 0 0).toNat : Nat) : Int) < 97 := not_of t3
  rw [ba_get, ← head_getD] at t3
  refine stp ?_
  refine ⟨⟨by decide, by show (0 : Int) < (s.size : Int); omega⟩, ?_⟩
  refine stp ?_
  intro c t4; cases c
  rotate_left
  · have t4 : (((s.data.getD 0 0).toNat : Nat) : Int) > 122 := yes_of t4
    rw [ba_get, ← head_getD] at t4
    refine stp ?_
    exact ret_tells rfl (le_bool (nameB_false (fun h => absurd h.2.2.2.1 (by omega))).symm)
  have t4 : ¬ (((s.data.getD 0 0).toNat : Nat) : Int) > 122 := not_of t4
  rw [ba_get, ← head_getD] at t4
  refine stp ?_
  intro c t5
  rw [Lib.toList_data, Lib.toList_data] at t5
  cases c
  rotate_left
  · have t5 : s.data.toList = defaultL := beq_iff_eq.1 t5.symm
    refine stp ?_
    exact ret_tells rfl (le_bool (nameB_false (fun h => h.2.2.2.2.1 t5)).symm)
  have t5 : ¬ s.data.toList = defaultL := beq_eq_false_iff_ne.1 t5.symm
  refine stp ?_
  intro c t6
  rw [Lib.toList_data, Lib.toList_data] at t6
  cases c
  rotate_left
  · have t6 : s.data.toList = x32L := beq_iff_eq.1 t6.symm
    refine stp ?_
    exact ret_tells rfl (le_bool (nameB_false (fun h => h.2.2.2.2.2.1 t6)).symm)
  have t6 : ¬ s.data.toList = x32L := beq_eq_false_iff_ne.1 t6.symm
  refine stp ?_
  refine aw_loop (fun y : Nat × Nat => mk 59 [(0, strA s), (3, int y.1)] ⟨[], [], y.2, 0⟩) (fun y => y.1 ≤ s.size ∧ ∀ j, j < y.1 → okN (s.data.toList.getD j 0).toNat = true) (fun y => s.size - y.1) ?_ ?_
  · exact ⟨(0, nx), ⟨Nat.zero_le _, fun j h => absurd h (Nat.not_lt_zero _)⟩, ele_mk rfl rfl ⟨AVle.refl _, AVle.refl _, trivial⟩⟩
  · rintro ⟨i, nx2⟩ ⟨h3, h4⟩
    dsimp only at h3 h4
    refine stp ?_
    intro c g; cases c
    · have g : ¬ ((i : Nat) : Int) < ((s.size : Nat) : Int) := not_of g
      obtain rfl : i = s.size := by omega
      have : nameB s.data.toList = true := (nameB_ref _).2 ⟨by omega, by omega, by omega, by omega, t5, t6, h4⟩
      rw [this]
      refine stp ?_
      exact ret_tells rfl (AVle.refl _)
    · have g : ((i : Nat) : Int) < ((s.size : Nat) : Int) := yes_of g
      have hbad : okN (s.data.toList.getD i 0).toNat = false → false = nameB s.data.toList := fun h => (nameB_false (fun hh => by have := hh.2.2.2.2.2.2 i (by omega); rw [h] at this; cases this)).symm
      refine stp ?_
      refine ⟨⟨by dsimp only; omega, by dsimp only; omega⟩, ?_⟩
      have hgood : okN (s.data.toList.getD i 0).toNat = true → ∀ j, j < i + 1 → okN (s.data.toList.getD j 0).toNat = true := fun h j hj => by
        rcases Nat.lt_or_ge j i with h1 | h1
        · exact h4 j h1
        · obtain rfl : j = i := by omega
          exact h
      have hval : (((s.data.getD i 0).toNat : Nat) : Int) = (((s.data.toList.getD i 0).toNat : Nat) : Int) := by rw [ba_get]
      generalize (s.data.toList.getD i 0).toNat = n at hbad hgood hval
      refine stp ?_
      intro c u1
      have u1 : c = decide ((n : Int) ≥ 97) := u1.trans (by rw [← hval]; rfl)
      cases c
      · have u1 : ¬ (n : Int) ≥ 97 := not_of u1
        refine stp ?_
        intro c u3
        have u3 : c = decide ((n : Int) ≥ 48) := u3.trans (by rw [← hval]; rfl)
        cases c
        · have u3 : ¬ (n : Int) ≥ 48 := not_of u3
          refine stp ?_
          intro c u5
          have u5 : c = ((n : Int) == 95) := u5.trans (by rw [← hval]; rfl)
          cases c
          · have u5 : (n : Int) ≠ 95 := fct_b0.1 u5
            refine stp ?_
            exact ret_tells rfl (le_bool (hbad (okN_out (by omega))))
          · have u5 : (n : Int) = 95 := fct_b1.1 u5
            refine stp ?_
            refine back (i + 1, nx2) ⟨by dsimp only; omega, hgood (okN_in (by omega))⟩ (by dsimp only; omega) (ele_mk rfl rfl ⟨AVle.refl _, le_int (wrap_succ (by dsimp only; omega)), trivial⟩)
        · have u3 : (n : Int) ≥ 48 := yes_of u3
          refine stp ?_
          intro c u4
          have u4 : c = decide ((n : Int) ≤ 57) := u4.trans (by rw [← hval]; rfl)
          cases c
          · have u4 : ¬ (n : Int) ≤ 57 := not_of u4
            refine stp ?_
            intro c u5
            have u5 : c = ((n : Int) == 95) := u5.trans (by rw [← hval]; rfl)
            cases c
            · have u5 : (n : Int) ≠ 95 := fct_b0.1 u5
              refine stp ?_
              exact ret_tells rfl (le_bool (hbad (okN_out (by omega))))
            · have u5 : (n : Int) = 95 := fct_b1.1 u5
              refine stp ?_
              refine back (i + 1, nx2) ⟨by dsimp only; omega, hgood (okN_in (by omega))⟩ (by dsimp only; omega) (ele_mk rfl rfl ⟨AVle.refl _, le_int (wrap_succ (by dsimp only; omega)), trivial⟩)
          · have u4 : (n : Int) ≤ 57 := yes_of u4
            refine stp ?_
            refine back (i + 1, nx2) ⟨by dsimp only; omega, hgood (okN_in (by omega))⟩ (by dsimp only; omega) (ele_mk rfl rfl ⟨AVle.refl _, le_int (wrap_succ (by dsimp only; omega)), trivial⟩)
      · have u1 : (n : Int) ≥ 97 := yes_of u1
        refine stp ?_
        intro c u2
        have u2 : c = decide ((n : Int) ≤ 122) := u2.trans (by rw [← hval]; rfl)
        cases c
        · have u2 : ¬ (n : Int) ≤ 122 := not_of u2
          refine stp ?_
          intro c u3
          have u3 : c = decide ((n : Int) ≥ 48) := u3.trans (by rw [← hval]; rfl)
          cases c
          · have u3 : ¬ (n : Int) ≥ 48 := not_of u3
            refine stp ?_
            intro c u5
            have u5 : c = ((n : Int) == 95) := u5.trans (by rw [← hval]; rfl)
            cases c
            · have u5 : (n : Int) ≠ 95 := fct_b0.1 u5
              refine stp ?_
              exact ret_tells rfl (le_bool (hbad (okN_out (by omega))))
            · have u5 : (n : Int) = 95 := fct_b1.1 u5
              refine stp ?_
              refine back (i + 1, nx2) ⟨by dsimp only; omega, hgood (okN_in (by omega))⟩ (by dsimp only; omega) (ele_mk rfl rfl ⟨AVle.refl _, le_int (wrap_succ (by dsimp only; omega)), trivial⟩)
          · have u3 : (n : Int) ≥ 48 := yes_of u3
            refine stp ?_
            intro c u4
            have u4 : c = decide ((n : Int) ≤ 57) := u4.trans (by rw [← hval]; rfl)
            cases c
            · have u4 : ¬ (n : Int) ≤ 57 := not_of u4
              refine stp ?_
              intro c u5
              have u5 : c = ((n : Int) == 95) := u5.trans (by rw [← hval]; rfl)
              cases c
              · have u5 : (n : Int) ≠ 95 := fct_b0.1 u5
                refine stp ?_
                exact ret_tells rfl (le_bool (hbad (okN_out (by omega))))
              · have u5 : (n : Int) = 95 := fct_b1.1 u5
                refine stp ?_
                refine back (i + 1, nx2) ⟨by dsimp only; omega, hgood (okN_in (by omega))⟩ (by dsimp only; omega) (ele_mk rfl rfl ⟨AVle.refl _, le_int (wrap_succ (by dsimp only; omega)), trivial⟩)
            · have u4 : (n : Int) ≤ 57 := yes_of u4
              refine stp ?_
              refine back (i + 1, nx2) ⟨by dsimp only; omega, hgood (okN_in (by omega))⟩ (by dsimp only; omega) (ele_mk rfl rfl ⟨AVle.refl _, le_int (wrap_succ (by dsimp only; omega)), trivial⟩)
        · have u2 : (n : Int) ≤ 122 := yes_of u2
          refine stp ?_
          refine back (i + 1, nx2) ⟨by dsimp only; omega, hgood (okN_in (by omega))⟩ (by dsimp only; omega) (ele_mk rfl rfl ⟨AVle.refl _, le_int (wrap_succ (by dsimp only; omega)), trivial⟩)
end Go.Proofs.W

namespace Go.Proofs.W
open Go.Vl
set_option maxRecDepth 100000

theorem right9_spec (k n : Int) : Tells Tryz.prog 39 [act k n] (boolA (right9 k n)) := by
  refine tells_of_aw Tryz.func39 rfl rfl fun nx => ?_
  refine stp ?_
  (refine aw_draw 21 ?_ ?_ ?_ ?_; (· kernel_rfl); (· kernel_rfl); (· kernel_rfl))
  refine stp ?_
  intro c h1; cases c
  · refine stp ?_
    refine ret_tells rfl (le_bool ?_)
    simp at h1; simp [right9]; omega
  refine stp ?_
  intro c h2; cases c
  · refine stp ?_
    refine ret_tells rfl (le_bool ?_)
    simp at h1 h2; simp [right9]; omega
  refine stp ?_
  intro c h3; cases c
  · refine stp ?_
    refine ret_tells rfl (le_bool ?_)
    simp at h1 h2 h3; simp [right9]; omega
  refine stp ?_
  refine ex_yields (yields_tells rfl rfl (most9_spec k) ⟨AVle.refl _, trivial⟩ (NoId.v _)) ?_
  intro c h4; cases c
  · refine stp ?_
    refine ret_tells rfl (le_bool ?_)
    simp at h1 h2 h3 h4; simp [right9]; omega
  refine stp ?_
  refine ret_tells rfl (le_bool ?_)
  simp at h1 h2 h3 h4; simp [right9]; omega
theorem name14_spec (s : ByteArray) : Tells Tryz.prog 40 [strA s] (boolA (nameB s.data.toList)) := by
  have h := name11_spec s
  generalize nameB s.data.toList = b at h ⊢
  refine tells_of_aw Tryz.func40 rfl rfl fun nx => ?_
  refine stp ?_
  refine aop_tells rfl rfl h ⟨AVle.refl _, trivial⟩ fun nx1 => ?_
  intro c hc
  refine stp ?_
  exact ret_tells rfl (le_bool hc)
theorem any_first {l : List Rul} {i : Nat} (hi : i < l.length) (h : rightR (l.getD i rul0) = false) : (l.any fun r => !rightR r) = true := by
  rw [List.any_eq_true]
  exact ⟨l.getD i rul0, by simp [List.getD, hi], by rw [h]; rfl⟩
theorem any_none {l : List Rul} (h : ∀ j, j < l.length → rightR (l.getD j rul0) = true) : (l.any fun r => !rightR r) = false := by
  rw [List.any_eq_false]
  intro r hr
  obtain ⟨j, hj, rfl⟩ := List.getElem_of_mem hr
  have := h j hj
  rw [List.getD_eq_getElem?_getD, List.getElem?_eq_getElem hj] at this
  simp at this
  simp [this]
theorem anyC_first {l : List Cnd} {i : Nat} (hi : i < l.length) (h : rightC (l.getD i cnd0) = false) : (l.any fun c => !rightC c) = true := by
  rw [List.any_eq_true]
  exact ⟨l.getD i cnd0, by simp [List.getD, hi], by rw [h]; rfl⟩
theorem anyC_none {l : List Cnd} (h : ∀ j, j < l.length → rightC (l.getD j cnd0) = true) : (l.any fun c => !rightC c) = false := by
  rw [List.any_eq_false]
  intro r hr
  obtain ⟨j, hj, rfl⟩ := List.getElem_of_mem hr
  have := h j hj
  rw [List.getD_eq_getElem?_getD, List.getElem?_eq_getElem hj] at this
  simp at this
  simp [this]
set_option maxHeartbeats 2000000 in
theorem right14_spec (p : Pol) : Tells Tryz.prog 10 [polA p] (boolA (rightP p)) := by
  have hd := right9_spec p.dflt.1 p.dflt.2
  have hP : rightP p = (right9 p.dflt.1 p.dflt.2 && (decide (p.rules.length ≤ 500) && !(p.rules.any fun r => !rightR r))) := rfl
  generalize rightP p = R at hP ⊢
  generalize right9 p.dflt.1 p.dflt.2 = b0 at hd hP
  obtain ⟨⟨k, n⟩, x, rs⟩ := p
  dsimp only at hP hd
  refine tells_of_aw Tryz.func10 rfl rfl fun nx => ?_
  refine stp ?_
  refine aop_tells rfl rfl hd ⟨AVle.refl _, trivial⟩ fun nx1 => ?_
  cases b0
  · refine stp ?_
    exact ret_tells rfl (le_bool (by rw [hP]; rfl))
  refine stp ?_
  intro c g1; cases c
  rotate_left
  · have g1 : ((rs.length : Nat) : Int) > 500 := yes_of g1
    refine stp ?_
    exact ret_tells rfl (le_bool (by rw [hP, decide_eq_false (by omega)]; rfl))
  have g1 : ¬ ((rs.length : Nat) : Int) > 500 := not_of g1
  have h500 : rs.length ≤ 500 := by omega
  rw [decide_eq_true h500, Bool.true_and, Bool.true_and] at hP
  refine stp ?_
  refine aw_loop (fun s : Nat × Nat => mk 58 [(1, .bp (0, nx) 0), (3, int s.1)] ⟨[((0, nx), .c [int k, int n, boolA x, ruls rs])], [], s.2, 1⟩) (fun s => s.1 ≤ rs.length ∧ ∀ j, j < s.1 → rightR (rs.getD j rul0) = true) (fun s => rs.length - s.1) ?_ ?_
  · exact ⟨(0, nx1), ⟨Nat.zero_le _, fun j h => absurd h (Nat.not_lt_zero _)⟩, ele_tell (pm := []) _ [] rfl rfl (List.Sublist.refl _) (List.Sublist.refl _) ⟨rfl, OwnLe.refl _, trivial⟩ trivial ⟨AVle.refl _, AVle.refl _, trivial⟩⟩
  · rintro ⟨i, nx2⟩ ⟨h3, h4⟩
    dsimp only at h3 h4
    refine stp ?_
    intro c h5; cases c
    · have h6 : ¬ ((i : Nat) : Int) < ((rs.length : Nat) : Int) := not_of h5
      obtain rfl : i = rs.length := by omega
      refine stp ?_
      exact ret_tells rfl (le_bool (by rw [hP, any_none h4]; rfl))
    · have h6 : ((i : Nat) : Int) < ((rs.length : Nat) : Int) := yes_of h5
      have hi : i < rs.length := by omega
      have hbad : rightR (rs.getD i rul0) = false → false = R := fun h => by rw [hP, any_first hi h]; rfl
      have hR : rightR (rs.getD i rul0) = (nameB (rs.getD i rul0).name.data.toList && (right9 (rs.getD i rul0).act.1 (rs.getD i rul0).act.2 && (decide ((rs.getD i rul0).conds.length ≤ 6) && !((rs.getD i rul0).conds.any fun c => !rightC c)))) := rfl
      have hn := name14_spec (rs.getD i rul0).name
      have ha := right9_spec (rs.getD i rul0).act.1 (rs.getD i rul0).act.2
      generalize nameB (rs.getD i rul0).name.data.toList = b1 at hn hR
      generalize right9 (rs.getD i rul0).act.1 (rs.getD i rul0).act.2 = b2 at ha hR
      refine stp ?_
      refine ⟨⟨by dsimp only; omega, by dsimp only; omega⟩, ?_⟩
      refine stp ?_
      refine aop_tells rfl rfl hn ⟨AVle.refl _, trivial⟩ fun nx3 => ?_
      cases b1
      · refine stp ?_
        exact ret_tells rfl (le_bool (hbad (by rw [hR]; rfl)))
      refine stp ?_
      refine aop_tells rfl rfl ha ⟨AVle.refl _, trivial⟩ fun nx4 => ?_
      cases b2
      · refine stp ?_
        exact ret_tells rfl (le_bool (hbad (by rw [hR]; rfl)))
      refine stp ?_
      intro c g2; cases c
      rotate_left
      · have g2 : (((rs.getD i rul0).conds.length : Nat) : Int) > 6 := yes_of g2
        refine stp ?_
        exact ret_tells rfl (le_bool (hbad (by rw [hR, decide_eq_false (by omega)]; rfl)))
      have g2 : ¬ (((rs.getD i rul0).conds.length : Nat) : Int) > 6 := not_of g2
      rw [decide_eq_true (show (rs.getD i rul0).conds.length ≤ 6 by omega), Bool.true_and, Bool.true_and, Bool.true_and] at hR
      refine stp ?_
      refine aw_loop (fun s : Nat × Nat => mk 58 [(1, .bp (0, nx) 0), (3, int i), (4, .bp (1, nx2) 0), (5, int s.1)] ⟨[((1, nx2), .c [strA (rs.getD i rul0).name, int (rs.getD i rul0).act.1, int (rs.getD i rul0).act.2, cnds (rs.getD i rul0).conds]), ((0, nx), .c [int k, int n, boolA x, ruls rs])], [], s.2, 2⟩) (fun s => s.1 ≤ (rs.getD i rul0).conds.length ∧ ∀ j, j < s.1 → rightC ((rs.getD i rul0).conds.getD j cnd0) = true) (fun s => (rs.getD i rul0).conds.length - s.1) ?_ ?_
      · exact ⟨(0, nx4), ⟨Nat.zero_le _, fun j h => absurd h (Nat.not_lt_zero _)⟩, ele_tell (pm := []) _ [] rfl rfl (List.Sublist.refl _) (List.Sublist.refl _) ⟨rfl, OwnLe.refl _, rfl, OwnLe.refl _, trivial⟩ trivial ⟨AVle.refl _, AVle.refl _, AVle.refl _, AVle.refl _, trivial⟩⟩
      · rintro ⟨j, nx5⟩ ⟨h7, h8⟩
        dsimp only at h7 h8
        refine stp ?_
        intro c h9; cases c
        · have h9 : ¬ ((j : Nat) : Int) < (((rs.getD i rul0).conds.length : Nat) : Int) := not_of h9
          have hj : j = (rs.getD i rul0).conds.length := by omega
          have hgood : rightR (rs.getD i rul0) = true := by rw [hR, anyC_none (fun q hq => h8 q (by omega))]; rfl
          refine stp ?_
          refine back (i + 1, nx5) ⟨by first | omega | (dsimp only; omega), fun q hq => ?_⟩ (by dsimp only; omega) (ele_tell (pm := []) _ [] rfl rfl (.cons _ (List.Sublist.refl _)) (List.Sublist.refl _) ⟨rfl, OwnLe.refl _, trivial⟩ trivial ⟨AVle.refl _, le_int (wrap_succ (by first | omega | (dsimp only; omega))), trivial⟩)
          dsimp only at hq
          rcases Nat.lt_or_ge q i with h | h
          · exact h4 q h
          · obtain rfl : q = i := by omega
            exact hgood
        · have h9 : ((j : Nat) : Int) < (((rs.getD i rul0).conds.length : Nat) : Int) := yes_of h9
          have hj : j < (rs.getD i rul0).conds.length := by omega
          have hbc : rightC ((rs.getD i rul0).conds.getD j cnd0) = false → false = R := fun h => hbad (by rw [hR, anyC_first hj h]; rfl)
          have hgc : rightC ((rs.getD i rul0).conds.getD j cnd0) = true → ∀ q, q < j + 1 → rightC ((rs.getD i rul0).conds.getD q cnd0) = true := fun h q hq => by
            rcases Nat.lt_or_ge q j with h1 | h1
            · exact h8 q h1
            · obtain rfl : q = j := by omega
              exact h
          have hc := right10_spec ((rs.getD i rul0).conds.getD j cnd0)
          generalize rightC ((rs.getD i rul0).conds.getD j cnd0) = b3 at hc hbc hgc
          refine stp ?_
          refine ⟨⟨by dsimp only; omega, by dsimp only; omega⟩, ?_⟩
          refine stp ?_
          refine aop_tells rfl rfl hc ⟨AVle.refl _, trivial⟩ fun nx6 => ?_
          cases b3
          · refine stp ?_
            exact ret_tells rfl (le_bool (hbc rfl))
          · refine stp ?_
            exact back (j + 1, nx6) ⟨by dsimp only; omega, hgc rfl⟩ (by dsimp only; omega) (ele_tell (pm := []) _ [] rfl rfl (List.Sublist.refl _) (List.Sublist.refl _) ⟨rfl, OwnLe.refl _, rfl, OwnLe.refl _, trivial⟩ trivial ⟨AVle.refl _, AVle.refl _, AVle.refl _, le_int (wrap_succ (by dsimp only; omega)), trivial⟩)
end Go.Proofs.W

namespace Go.Proofs.W
open Go.Vl
set_option maxRecDepth 100000

end Go.Proofs.W

namespace Go.Proofs.W
open Go.Vl
set_option maxRecDepth 100000

theorem bit30 (n : Nat) : decide (n &&& 1073741824 ≠ 0) = decide (n / 1073741824 % 2 = 1) := by
  have hlo : n % 1073741824 < 2 ^ 30 := Nat.mod_lt _ (by decide)
  have e1 : n = 2 ^ 30 * (n / 1073741824) + n % 1073741824 := by have := Nat.div_add_mod n 1073741824; show n = 1073741824 * _ + _; omega
  have hs := and_split (c := n / 1073741824) (lo := n % 1073741824) (d := 1) (m := 0) (i := 30) hlo (by decide)
  rw [← e1, Nat.and_one_is_mod, Nat.and_zero, show (2 ^ 30 * 1 + 0 : Nat) = 1073741824 by decide] at hs
  rw [hs]
  have : n / 1073741824 % 2 = 0 ∨ n / 1073741824 % 2 = 1 := by omega
  rcases this with q | q <;> rw [q] <;> decide
theorem withB_eq (n : Nat) : withB n = (decide (n ≠ 4294967295) && decide (n / 1073741824 % 2 = 1)) := by
  unfold withB; rw [bit30, Bool.and_comm]
theorem quo30 {n : Nat} (h : n < 4294967296) : (IntKind.u32.wrap ((n : Int).tdiv 1073741824)).tmod 2 = ((n / 1073741824 % 2 : Nat) : Int) := by
  have e : (n : Int).tdiv 1073741824 = ((n / 1073741824 : Nat) : Int) := (Int.ofNat_tdiv n 1073741824).symm
  rw [e]
  have e2 : IntKind.u32.wrap ((n / 1073741824 : Nat) : Int) = ((n / 1073741824 : Nat) : Int) := by
    have : n / 1073741824 < 4 := by omega
    simp [IntKind.wrap, IntKind.signed, IntKind.bits]; omega
  rw [e2]
  exact (Int.ofNat_tmod (n / 1073741824) 2).symm
def selI (arch num : Nat) : Int := match selO arch num with
  | some a => a
  | none => -1
theorem sel_2 (num : Nat) : selI 1073741827 num = 2 := by unfold selI selO; cases withB num <;> rfl
theorem sel_3 (num : Nat) : selI 3221225655 num = 3 := by unfold selI selO; cases withB num <;> rfl
theorem sel_4 (num : Nat) : selI 3221225715 num = 4 := by unfold selI selO; cases withB num <;> rfl
theorem sel_01 (num : Nat) : selI 3221225534 num = if withB num then 1 else 0 := by unfold selI selO; cases withB num <;> rfl
theorem sel_x {arch num : Nat} (h2 : arch ≠ 1073741827) (h3 : arch ≠ 3221225655) (h4 : arch ≠ 3221225715) (h0 : arch ≠ 3221225534) : selI arch num = -1 := by
  unfold selI selO
  have : infN.find? (selB arch (withB num)) = none := by
    refine List.find?_eq_none.2 fun x hx => ?_
    unfold infN at hx
    simp only [List.mem_cons, List.not_mem_nil, or_false] at hx
    rw [Bool.not_eq_true]
    unfold selB
    rw [Bool.and_eq_false_iff]
    left
    rw [decide_eq_false_iff_not]
    rcases hx with rfl | rfl | rfl | rfl | rfl <;> (intro e; exact absurd e.symm (by assumption))
  rw [this]; rfl
theorem ref08sel_spec (arch num : Nat) (ha : arch < 4294967296) (hn : num < 4294967296) : Tells Tryz.prog 70 [u32 arch, u32 num] (int (selI arch num)) := by
  by_cases h2 : arch = 1073741827
  · subst h2
    rw [sel_2]
    refine tells_of_aw Tryz.func70 rfl rfl fun nx => ?_
    refine stp ?_
    exact ret_tells rfl (AVle.refl _)
  by_cases h3 : arch = 3221225655
  · subst h3
    rw [sel_3]
    refine tells_of_aw Tryz.func70 rfl rfl fun nx => ?_
    refine stp ?_
    exact ret_tells rfl (AVle.refl _)
  by_cases h4 : arch = 3221225715
  · subst h4
    rw [sel_4]
    refine tells_of_aw Tryz.func70 rfl rfl fun nx => ?_
    refine stp ?_
    exact ret_tells rfl (AVle.refl _)
  by_cases h0 : arch = 3221225534
  · subst h0
    rw [sel_01, withB_eq]
    refine tells_of_aw Tryz.func70 rfl rfl fun nx => ?_
    refine stp ?_
    intro c hc
    have hc2 : c = decide (num ≠ 4294967295) := by rw [hc, Bool.eq_iff_iff]; simp; omega
    clear hc
    rw [← hc2]
    clear hc2
    cases c
    · refine stp ?_
      exact ret_tells rfl (AVle.refl _)
    · refine stp ?_
      intro c hc
      have hc2 : c = decide (num / 1073741824 % 2 = 1) := by rw [hc, quo30 hn, Bool.eq_iff_iff]; simp; omega
      clear hc
      rw [← hc2]
      clear hc2
      cases c
      all_goals
        refine stp ?_
        exact ret_tells rfl (AVle.refl _)
  · rw [sel_x h2 h3 h4 h0]
    refine tells_of_aw Tryz.func70 rfl rfl fun nx => ?_
    refine stp ?_
    intro c hc
    obtain rfl : c = false := hc.trans (by simp; omega)
    refine stp ?_
    intro c hc
    obtain rfl : c = false := hc.trans (by simp; omega)
    refine stp ?_
    intro c hc
    obtain rfl : c = false := hc.trans (by simp; omega)
    refine stp ?_
    intro c hc
    obtain rfl : c = false := hc.trans (by simp; omega)
    refine stp ?_
    exact ret_tells rfl (AVle.refl _)
theorem ref08own_spec (a num : Nat) (hn : num < 4294967296) : Tells Tryz.prog 73 [int a, u32 num] (u32 (ownI a num)) := by
  unfold ownI
  by_cases h : a = 1
  · subst h
    refine tells_of_aw Tryz.func73 rfl rfl fun nx => ?_
    refine stp ?_
    intro c hc
    have hc2 : c = decide (num / 1073741824 % 2 = 1) := by rw [hc, quo30 hn, Bool.eq_iff_iff]; simp; omega
    clear hc
    cases c
    · rw [if_neg (fun q => by rw [decide_eq_true q.2] at hc2; cases hc2)]
      refine stp ?_
      exact ret_tells rfl (AVle.refl _)
    · have q : num / 1073741824 % 2 = 1 := of_decide_eq_true hc2.symm
      rw [if_pos ⟨rfl, q⟩]
      clear hc2
      refine stp ?_
      refine ret_tells rfl (AVle.of_eq (congrArg u32 ?_))
      show IntKind.u32.wrap ((num : Int) - 1073741824) = _
      have h1 : 1073741824 ≤ num := by omega
      simp [IntKind.wrap, IntKind.signed, IntKind.bits]; omega
  · rw [if_neg (fun q => h q.1)]
    refine tells_of_aw Tryz.func73 rfl rfl fun nx => ?_
    refine stp ?_
    intro c hc
    obtain rfl : c = false := hc.trans (by simp; omega)
    refine stp ?_
    exact ret_tells rfl (AVle.refl _)
theorem ref08arg_spec (a : Int) (x : Nat) (hx : x < 18446744073709551616) : Tells Tryz.prog 50 [int a, u64 (x : Nat)] (u64 ((if a = 2 then x % 4294967296 else x : Nat) : Nat)) := by
  refine tells_of_aw Tryz.func50 rfl rfl fun nx => ?_
  refine stp ?_
  intro c t; cases c
  · have t : ¬ a = 2 := by simpa using t
    rw [if_neg t]
    refine stp ?_
    exact ret_tells rfl (AVle.refl _)
  · have t : a = 2 := by simpa using t
    rw [if_pos t]
    refine stp ?_
    refine ret_tells rfl (AVle.of_eq (congrArg u64 ?_))
    exact (Int.ofNat_tmod x 4294967296).symm
end Go.Proofs.W

namespace Go.Proofs.W
open Go.Vl
set_option maxRecDepth 100000

theorem c_intT : Tryz.prog.cellsOf 3 = 1 := by kernel_rfl
def numR (r : TRow) (a i : Nat) : Int := if 0 ≤ r.num a then r.num a else -1 - (i : Int)
theorem ref11num_spec (l : List TRow) (a i : Nat) (ha : a < 5) (hi : i < l.length) (hl : l.length ≤ 1000000) : Tells Tryz.prog 113 [trows l, int a, int i] (int (numR (l.getD i trow0) a i)) := by
  unfold numR
  refine tells_of_aw Tryz.func113 rfl rfl fun nx => ?_
  rcases (by omega : a = 0 ∨ a = 1 ∨ a = 2 ∨ a = 3 ∨ a = 4) with rfl | rfl | rfl | rfl | rfl
  · refine stp ?_
    refine ⟨⟨by first | omega | (dsimp only; omega), by first | omega | (dsimp only; omega)⟩, ?_⟩
    refine stp ?_
    refine ⟨⟨by decide, by decide, by rw [c_intT]; exact Nat.le_of_ble_eq_true rfl⟩, splitO_eq (b := .rp (List.drop (1 + 0) (trowC (l.getD i trow0)))) (congrArg AV.rp (by rw [c_intT]; rfl)) ?_⟩
    refine stp ?_
    intro c t; cases c
    · have t := not_of t
      try dsimp only at t
      rw [if_neg (show ¬ 0 ≤ (l.getD i trow0).num 0 by show ¬ 0 ≤ (l.getD i trow0).a0; omega)]
      refine stp ?_
      refine ret_tells rfl (le_int (wrap_id (by omega) (by omega)))
    · have t := yes_of t
      try dsimp only at t
      rw [if_pos (show 0 ≤ (l.getD i trow0).num 0 by show 0 ≤ (l.getD i trow0).a0; omega)]
      refine stp ?_
      refine ⟨⟨by first | omega | (dsimp only; omega), by first | omega | (dsimp only; omega)⟩, ?_⟩
      refine stp ?_
      refine ⟨⟨by decide, by decide, by rw [c_intT]; exact Nat.le_of_ble_eq_true rfl⟩, splitO_eq (b := .rp (List.drop (1 + 0) (trowC (l.getD i trow0)))) (congrArg AV.rp (by rw [c_intT]; rfl)) ?_⟩
      refine stp ?_
      exact ret_tells rfl (AVle.refl _)
  · refine stp ?_
    refine ⟨⟨by first | omega | (dsimp only; omega), by first | omega | (dsimp only; omega)⟩, ?_⟩
    refine stp ?_
    refine ⟨⟨by decide, by decide, by rw [c_intT]; exact Nat.le_of_ble_eq_true rfl⟩, splitO_eq (b := .rp (List.drop (1 + 1) (trowC (l.getD i trow0)))) (congrArg AV.rp (by rw [c_intT]; rfl)) ?_⟩
    refine stp ?_
    intro c t; cases c
    · have t := not_of t
      try dsimp only at t
      rw [if_neg (show ¬ 0 ≤ (l.getD i trow0).num 1 by show ¬ 0 ≤ (l.getD i trow0).a1; omega)]
      refine stp ?_
      refine ret_tells rfl (le_int (wrap_id (by omega) (by omega)))
    · have t := yes_of t
      try dsimp only at t
      rw [if_pos (show 0 ≤ (l.getD i trow0).num 1 by show 0 ≤ (l.getD i trow0).a1; omega)]
      refine stp ?_
      refine ⟨⟨by first | omega | (dsimp only; omega), by first | omega | (dsimp only; omega)⟩, ?_⟩
      refine stp ?_
      refine ⟨⟨by decide, by decide, by rw [c_intT]; exact Nat.le_of_ble_eq_true rfl⟩, splitO_eq (b := .rp (List.drop (1 + 1) (trowC (l.getD i trow0)))) (congrArg AV.rp (by rw [c_intT]; rfl)) ?_⟩
      refine stp ?_
      exact ret_tells rfl (AVle.refl _)
  · refine stp ?_
    refine ⟨⟨by first | omega | (dsimp only; omega), by first | omega | (dsimp only; omega)⟩, ?_⟩
    refine stp ?_
    refine ⟨⟨by decide, by decide, by rw [c_intT]; exact Nat.le_of_ble_eq_true rfl⟩, splitO_eq (b := .rp (List.drop (1 + 2) (trowC (l.getD i trow0)))) (congrArg AV.rp (by rw [c_intT]; rfl)) ?_⟩
    refine stp ?_
    intro c t; cases c
    · have t := not_of t
      try dsimp only at t
      rw [if_neg (show ¬ 0 ≤ (l.getD i trow0).num 2 by show ¬ 0 ≤ (l.getD i trow0).a2; omega)]
      refine stp ?_
      refine ret_tells rfl (le_int (wrap_id (by omega) (by omega)))
    · have t := yes_of t
      try dsimp only at t
      rw [if_pos (show 0 ≤ (l.getD i trow0).num 2 by show 0 ≤ (l.getD i trow0).a2; omega)]
      refine stp ?_
      refine ⟨⟨by first | omega | (dsimp only; omega), by first | omega | (dsimp only; omega)⟩, ?_⟩
      refine stp ?_
      refine ⟨⟨by decide, by decide, by rw [c_intT]; exact Nat.le_of_ble_eq_true rfl⟩, splitO_eq (b := .rp (List.drop (1 + 2) (trowC (l.getD i trow0)))) (congrArg AV.rp (by rw [c_intT]; rfl)) ?_⟩
      refine stp ?_
      exact ret_tells rfl (AVle.refl _)
  · refine stp ?_
    refine ⟨⟨by first | omega | (dsimp only; omega), by first | omega | (dsimp only; omega)⟩, ?_⟩
    refine stp ?_
    refine ⟨⟨by decide, by decide, by rw [c_intT]; exact Nat.le_of_ble_eq_true rfl⟩, splitO_eq (b := .rp (List.drop (1 + 3) (trowC (l.getD i trow0)))) (congrArg AV.rp (by rw [c_intT]; rfl)) ?_⟩
    refine stp ?_
    intro c t; cases c
    · have t := not_of t
      try dsimp only at t
      rw [if_neg (show ¬ 0 ≤ (l.getD i trow0).num 3 by show ¬ 0 ≤ (l.getD i trow0).a3; omega)]
      refine stp ?_
      refine ret_tells rfl (le_int (wrap_id (by omega) (by omega)))
    · have t := yes_of t
      try dsimp only at t
      rw [if_pos (show 0 ≤ (l.getD i trow0).num 3 by show 0 ≤ (l.getD i trow0).a3; omega)]
      refine stp ?_
      refine ⟨⟨by first | omega | (dsimp only; omega), by first | omega | (dsimp only; omega)⟩, ?_⟩
      refine stp ?_
      refine ⟨⟨by decide, by decide, by rw [c_intT]; exact Nat.le_of_ble_eq_true rfl⟩, splitO_eq (b := .rp (List.drop (1 + 3) (trowC (l.getD i trow0)))) (congrArg AV.rp (by rw [c_intT]; rfl)) ?_⟩
      refine stp ?_
      exact ret_tells rfl (AVle.refl _)
  · refine stp ?_
    refine ⟨⟨by first | omega | (dsimp only; omega), by first | omega | (dsimp only; omega)⟩, ?_⟩
    refine stp ?_
    refine ⟨⟨by decide, by decide, by rw [c_intT]; exact Nat.le_of_ble_eq_true rfl⟩, splitO_eq (b := .rp (List.drop (1 + 4) (trowC (l.getD i trow0)))) (congrArg AV.rp (by rw [c_intT]; rfl)) ?_⟩
    refine stp ?_
    intro c t; cases c
    · have t := not_of t
      try dsimp only at t
      rw [if_neg (show ¬ 0 ≤ (l.getD i trow0).num 4 by show ¬ 0 ≤ (l.getD i trow0).a4; omega)]
      refine stp ?_
      refine ret_tells rfl (le_int (wrap_id (by omega) (by omega)))
    · have t := yes_of t
      try dsimp only at t
      rw [if_pos (show 0 ≤ (l.getD i trow0).num 4 by show 0 ≤ (l.getD i trow0).a4; omega)]
      refine stp ?_
      refine ⟨⟨by first | omega | (dsimp only; omega), by first | omega | (dsimp only; omega)⟩, ?_⟩
      refine stp ?_
      refine ⟨⟨by decide, by decide, by rw [c_intT]; exact Nat.le_of_ble_eq_true rfl⟩, splitO_eq (b := .rp (List.drop (1 + 4) (trowC (l.getD i trow0)))) (congrArg AV.rp (by rw [c_intT]; rfl)) ?_⟩
      refine stp ?_
      exact ret_tells rfl (AVle.refl _)
end Go.Proofs.W

namespace Go.Proofs.W
open Go.Vl
set_option maxRecDepth 100000

theorem numR_eq {r : TRow} {a i : Nat} {n : Int} (hn : 0 ≤ n) : (numR r a i == n) = nameB5 a n r := by
  unfold numR nameB5
  rw [Bool.eq_iff_iff]
  simp only [beq_iff_eq, decide_eq_true_eq]
  split
  · exact Iff.rfl
  · constructor
    · intro h; omega
    · intro h; omega
theorem ref11at_spec (l : List TRow) (a : Nat) (ha : a < 5) (n : Int) (hn : 0 ≤ n) (hl : l.length ≤ 1000000) : Tells Tryz.prog 72 [trows l, int a, int n] (int (optI (l.findIdx? (nameB5 a n)))) := by
  refine tells_of_aw Tryz.func72 rfl rfl fun nx => ?_
  refine stp ?_
  refine aw_loop (fun s : Nat × Nat => mk 21 [(0, trows l), (1, int a), (2, int n), (7, int s.1)] ⟨[], [], s.2, 0⟩) (fun s => s.1 ≤ l.length ∧ ∀ j, j < s.1 → nameB5 a n (l.getD j trow0) = false) (fun s => l.length - s.1) ?_ ?_
  · exact ⟨(0, nx), ⟨Nat.zero_le _, fun j hj => absurd hj (Nat.not_lt_zero j)⟩, ele_mk rfl rfl ⟨AVle.refl _, AVle.refl _, AVle.refl _, AVle.refl _, trivial⟩⟩
  · rintro ⟨i, nx2⟩ ⟨h3, h4⟩
    dsimp only at h3 h4
    refine stp ?_
    intro c h5; cases c
    · have h6 := not_of h5
      dsimp only at h6
      obtain rfl : i = l.length := by omega
      refine stp ?_
      refine ret_tells rfl (le_int ?_)
      rw [idx_none trow0 h4]; rfl
    · have h6 := yes_of h5
      dsimp only at h6
      have hi : i < l.length := by omega
      have hnum := ref11num_spec l a i ha hi hl
      refine stp ?_
      refine aop_tells rfl rfl hnum ⟨AVle.refl _, AVle.refl _, AVle.refl _, trivial⟩ fun nx3 => ?_
      refine stp ?_
      intro c hc
      have hc2 : c = nameB5 a n (l.getD i trow0) := hc.trans (numR_eq hn)
      clear hc
      cases c
      · refine stp ?_
        exact back (i + 1, nx3) ⟨hi, fun j hj => by dsimp only at hj; rcases Nat.lt_or_ge j i with q | q; exact h4 j q; rw [show j = i by omega]; exact hc2.symm⟩ (by dsimp only; omega) (ele_mk rfl rfl ⟨AVle.refl _, AVle.refl _, AVle.refl _, le_int (wrap_succ (by dsimp only; omega)), trivial⟩)
      · refine stp ?_
        refine ret_tells rfl (le_int ?_)
        rw [idx_at trow0 hi h4 hc2.symm]; rfl
theorem subR_eq {r : TRow} {m s : Int} (hm : m = 1 ∨ m = 2) : subB m s r = (decide (r.mux = m) && decide (r.sub = s)) := by
  unfold subB
  rw [decide_eq_true (by omega : m ≠ 0), Bool.and_true]
set_option maxHeartbeats 2000000 in
theorem ref11sub_spec (l : List TRow) (m : Int) (hm : m = 1 ∨ m = 2) (s : Int) (hl : l.length ≤ 1000000) : Tells Tryz.prog 71 [trows l, int m, int s] (int (optI (l.findIdx? (subB m s)))) := by
  have hge : decide (m ≥ 1) = true := decide_eq_true (by omega)
  have hle : decide (m ≤ 2) = true := decide_eq_true (by omega)
  refine tells_of_aw Tryz.func71 rfl rfl fun nx => ?_
  refine stp ?_
  refine aw_loop (fun q : Nat × Nat => mk 39 [(0, trows l), (1, int m), (2, int s), (7, int q.1)] ⟨[], [], q.2, 0⟩) (fun q => q.1 ≤ l.length ∧ ∀ j, j < q.1 → subB m s (l.getD j trow0) = false) (fun q => l.length - q.1) ?_ ?_
  · exact ⟨(0, nx), ⟨Nat.zero_le _, fun j hj => absurd hj (Nat.not_lt_zero j)⟩, ele_mk rfl rfl ⟨AVle.refl _, AVle.refl _, AVle.refl _, AVle.refl _, trivial⟩⟩
  · rintro ⟨i, nx2⟩ ⟨h3, h4⟩
    dsimp only at h3 h4
    refine stp ?_
    intro c h5; cases c
    · have h6 := not_of h5
      dsimp only at h6
      obtain rfl : i = l.length := by omega
      refine stp ?_
      refine ret_tells rfl (le_int ?_)
      rw [idx_none trow0 h4]; rfl
    · have h6 := yes_of h5
      dsimp only at h6
      have hi : i < l.length := by omega
      have hsub := subR_eq (r := l.getD i trow0) (s := s) hm
      refine stp ?_
      intro c hc
      obtain rfl : c = true := hc.trans hge
      refine stp ?_
      intro c hc
      obtain rfl : c = true := hc.trans hle
      refine stp ?_
      refine ⟨⟨by first | omega | (dsimp only; omega), by first | omega | (dsimp only; omega)⟩, ?_⟩
      refine stp ?_
      intro c hc
      have hc2 : c = decide ((l.getD i trow0).mux = m) := by rw [hc, Bool.eq_iff_iff]; simp [Int.toNat_natCast]
      clear hc
      rw [← hc2] at hsub
      clear hc2
      cases c
      · refine stp ?_
        exact back (i + 1, nx2) ⟨hi, fun j hj => by dsimp only at hj; rcases Nat.lt_or_ge j i with q | q; exact h4 j q; rw [show j = i by omega]; exact hsub⟩ (by dsimp only; omega) (ele_mk rfl rfl ⟨AVle.refl _, AVle.refl _, AVle.refl _, le_int (wrap_succ (by dsimp only; omega)), trivial⟩)
      · rw [Bool.true_and] at hsub
        refine stp ?_
        refine ⟨⟨by first | omega | (dsimp only; omega), by first | omega | (dsimp only; omega)⟩, ?_⟩
        refine stp ?_
        intro c hc
        have hc2 : c = decide ((l.getD i trow0).sub = s) := by rw [hc, Bool.eq_iff_iff]; simp [Int.toNat_natCast]
        clear hc
        rw [← hc2] at hsub
        clear hc2
        cases c
        · refine stp ?_
          exact back (i + 1, nx2) ⟨hi, fun j hj => by dsimp only at hj; rcases Nat.lt_or_ge j i with q | q; exact h4 j q; rw [show j = i by omega]; exact hsub⟩ (by dsimp only; omega) (ele_mk rfl rfl ⟨AVle.refl _, AVle.refl _, AVle.refl _, le_int (wrap_succ (by dsimp only; omega)), trivial⟩)
        · refine stp ?_
          refine ret_tells rfl (le_int ?_)
          rw [idx_at trow0 hi h4 hsub]; rfl
end Go.Proofs.W

namespace Go.Proofs.W
open Go.Vl
set_option maxRecDepth 100000

/-- The row that a record calls. -/
def atO (l : List TRow) (r : Rec) : Option Nat := match selO r.arch r.num with
  | none => none
  | some a => if 0 < kindO a r.num then l.findIdx? (subB (kindO a r.num) ((r.a0 % 4294967296 : Nat) : Int)) else l.findIdx? (nameB5 a ((ownI a r.num : Nat) : Int))
def muxB (r : Rec) : Bool := match selO r.arch r.num with
  | none => false
  | some a => decide (0 < kindO a r.num)
def of12A (l : List TRow) (r : Rec) : AV := .ag [int (selI r.arch r.num), int (optI (atO l r)), boolA (muxB r)]
theorem low_i {x : Nat} (h : x < 18446744073709551616) : IntKind.i64.wrap ((x : Int).tmod 4294967296) = ((x % 4294967296 : Nat) : Int) := by
  have e : (x : Int).tmod 4294967296 = ((x % 4294967296 : Nat) : Int) := (Int.ofNat_tmod x 4294967296).symm
  rw [e]
  exact wrap_id (by omega) (by omega)
set_option maxHeartbeats 4000000 in
theorem of12_spec (l : List TRow) (r : Rec) (hr : r.ok) (hl : l.length ≤ 1000000) : Tells Tryz.prog 33 [trows l, recA r] (of12A l r) := by
  have hsel := ref08sel_spec r.arch r.num hr.2.1 hr.1
  unfold of12A atO muxB
  unfold selI at hsel ⊢
  cases hso : selO r.arch r.num with
  | none =>
    rw [hso] at hsel
    dsimp only at hsel ⊢
    refine tells_of_aw Tryz.func33 rfl rfl fun nx => ?_
    refine stp ?_
    refine aop_tells rfl rfl hsel ⟨AVle.refl _, AVle.refl _, trivial⟩ fun nx2 => ?_
    refine stp ?_
    exact ret_tells_all rfl ⟨rfl, trivial⟩ (AVle.refl _)
  | some a =>
    rw [hso] at hsel
    dsimp only at hsel ⊢
    have ha5 := selO_lt hso
    have hat := ref11at_spec l a ha5 ((ownI a r.num : Nat) : Int) (Int.natCast_nonneg _) hl
    have hown := ref08own_spec a r.num hr.1
    have hown2 : ownI a r.num < 4294967296 := by have := hr.1; unfold ownI; split <;> omega
    have ha0 := hr.2.2.2.1
    have h102 := ref11sub_spec l 1 (.inl rfl) ((r.a0 % 4294967296 : Nat) : Int) hl
    have h117 := ref11sub_spec l 2 (.inr rfl) ((r.a0 % 4294967296 : Nat) : Int) hl
    clear hso
    have hkd : kindO a r.num = if a = 2 then kindI r.num else 0 := rfl
    unfold kindI at hkd
    by_cases h2 : a = 2
    · subst h2
      rw [if_pos rfl] at hkd
      by_cases q1 : r.num = 102
      · rw [if_pos q1] at hkd
        rw [hkd]
        refine tells_of_aw Tryz.func33 rfl rfl fun nx => ?_
        refine stp ?_
        refine aop_tells rfl rfl hsel ⟨AVle.refl _, AVle.refl _, trivial⟩ fun nx2 => ?_
        refine stp ?_
        intro c hc
        obtain rfl : c = true := hc.trans (by simp; omega)
        refine stp ?_
        refine aop_tells rfl rfl h102 ⟨AVle.refl _, AVle.refl _, le_int (by rw [low_i ha0]), trivial⟩ fun nx3 => ?_
        refine stp ?_
        exact ret_tells_all rfl ⟨rfl, trivial⟩ (AVle.refl _)
      · rw [if_neg q1] at hkd
        by_cases q2 : r.num = 117
        · rw [if_pos q2] at hkd
          rw [hkd]
          refine tells_of_aw Tryz.func33 rfl rfl fun nx => ?_
          refine stp ?_
          refine aop_tells rfl rfl hsel ⟨AVle.refl _, AVle.refl _, trivial⟩ fun nx2 => ?_
          refine stp ?_
          intro c hc
          obtain rfl : c = false := hc.trans (by simp; omega)
          refine stp ?_
          intro c hc
          obtain rfl : c = true := hc.trans (by simp; omega)
          refine stp ?_
          refine aop_tells rfl rfl h117 ⟨AVle.refl _, AVle.refl _, le_int (by rw [low_i ha0]), trivial⟩ fun nx3 => ?_
          refine stp ?_
          exact ret_tells_all rfl ⟨rfl, trivial⟩ (AVle.refl _)
        · rw [if_neg q2] at hkd
          rw [hkd]
          refine tells_of_aw Tryz.func33 rfl rfl fun nx => ?_
          refine stp ?_
          refine aop_tells rfl rfl hsel ⟨AVle.refl _, AVle.refl _, trivial⟩ fun nx2 => ?_
          refine stp ?_
          intro c hc
          obtain rfl : c = false := hc.trans (by simp; omega)
          refine stp ?_
          intro c hc
          obtain rfl : c = false := hc.trans (by simp; omega)
          refine stp ?_
          refine aop_tells rfl rfl hown ⟨AVle.refl _, AVle.refl _, trivial⟩ fun nx3 => ?_
          refine stp ?_
          refine aop_tells rfl rfl hat ⟨AVle.refl _, AVle.refl _, le_int (wrap_id (by omega) (by omega)), trivial⟩ fun nx4 => ?_
          refine stp ?_
          exact ret_tells_all rfl ⟨rfl, trivial⟩ (AVle.refl _)
    · rw [if_neg h2] at hkd
      rw [hkd]
      refine tells_of_aw Tryz.func33 rfl rfl fun nx => ?_
      refine stp ?_
      refine aop_tells rfl rfl hsel ⟨AVle.refl _, AVle.refl _, trivial⟩ fun nx2 => ?_
      refine stp ?_
      intro c hc
      obtain rfl : c = false := hc.trans (by simp; omega)
      refine stp ?_
      intro c hc
      obtain rfl : c = false := hc.trans (by simp; omega)
      refine stp ?_
      refine aop_tells rfl rfl hown ⟨AVle.refl _, AVle.refl _, trivial⟩ fun nx3 => ?_
      refine stp ?_
      refine aop_tells rfl rfl hat ⟨AVle.refl _, AVle.refl _, le_int (wrap_id (by omega) (by omega)), trivial⟩ fun nx4 => ?_
      refine stp ?_
      exact ret_tells_all rfl ⟨rfl, trivial⟩ (AVle.refl _)
end Go.Proofs.W

namespace Go.Proofs.W
open Go.Vl
set_option maxRecDepth 100000

theorem arg_lt {r : Rec} (h : r.ok) (k : Nat) : r.arg k < 18446744073709551616 := by
  obtain ⟨_, _, _, h0, h1, h2, h3, h4, h5⟩ := h
  unfold Rec.arg; split <;> assumption
end Go.Proofs.W

namespace Go.Proofs.W
open Go.Vl
set_option maxRecDepth 100000

def muxBad (r : TRow) : Bool := decide (r.mux < 0) || (decide (2 < r.mux) || ((decide (r.mux = 0) && decide (r.sub ≠ 0)) || (decide (0 < r.mux) && (decide (r.sub < 1) || decide (255 < r.sub)))))
theorem ranged_eq (r : TRow) : rangedR r = (!badR r && !muxBad r) := by
  unfold rangedR
  congr 1
  unfold muxBad
  by_cases h : r.mux = 0
  · rw [if_pos h, h]; simp
  · rw [if_neg h, Bool.eq_iff_iff]; simp; omega
def clashN (r s : TRow) : Bool := [0, 1, 2, 3, 4].any fun a => decide (0 ≤ r.num a) && decide (s.num a = r.num a)
def clashM (r s : TRow) : Bool := decide (0 < r.mux) && (decide (s.mux = r.mux) && decide (s.sub = r.sub))
def clashB (l : List TRow) (i : Nat) : Bool := (l.take i).any fun s => clashN (l.getD i trow0) s || clashM (l.getD i trow0) s
def a2Bad (r : TRow) : Bool := decide (r.a2 = 102) || decide (r.a2 = 117)
def rowI (l : List TRow) (i : Nat) : Int := if nameB (l.getD i trow0).name.data.toList = false then 13 else if ordB l i then 15 else if badR (l.getD i trow0) then 16 else if muxBad (l.getD i trow0) then 16 else if a2Bad (l.getD i trow0) then 17 else if clashB l i then 15 else 0
theorem geq_leB (s t : ByteArray) : (!Op.bytesLess t.toList s.toList) = leB s t := by
  cases h : leB s t with
  | false =>
    have := leB_no h
    rw [Go.Proofs.bytesLess_eq, Lib.toList_data, Lib.toList_data]
    unfold Go.Sort.ltStr at this
    rw [this]; rfl
  | true =>
    unfold leB at h
    rw [Go.Proofs.bytesLess_eq, Lib.toList_data, Lib.toList_data] at h ⊢
    rw [Bool.or_eq_true, decide_eq_true_iff] at h
    rw [Bool.not_eq_true', decide_eq_false_iff_not]
    rcases h with h | h
    · exact fun k => absurd (List.lt_trans h k) (List.lt_irrefl _)
    · rw [beq_iff_eq] at h; rw [h]; exact List.lt_irrefl _
theorem rowI_13 {l : List TRow} {i : Nat} (h : nameB (l.getD i trow0).name.data.toList = false) : rowI l i = 13 := if_pos h
theorem rowI_ord {l : List TRow} {i : Nat} (h : nameB (l.getD i trow0).name.data.toList = true) : rowI l i = if ordB l i then 15 else if badR (l.getD i trow0) then 16 else if muxBad (l.getD i trow0) then 16 else if a2Bad (l.getD i trow0) then 17 else if clashB l i then 15 else 0 := if_neg (by rw [h]; decide)
theorem mux_tests (r : TRow) : muxBad r = (decide (r.mux < 0) || (decide (r.mux > 2) || (((r.mux == 0) && (r.sub != 0)) || (decide (r.mux > 0) && (decide (r.sub < 1) || decide (r.sub > 255)))))) := by
  unfold muxBad
  rw [show (r.mux == 0) = decide (r.mux = 0) by rw [Bool.eq_iff_iff]; simp, show (r.sub != 0) = decide (r.sub ≠ 0) by rw [Bool.eq_iff_iff]; simp]
theorem a2_tests (r : TRow) : a2Bad r = ((r.a2 == 102) || (r.a2 == 117)) := by
  unfold a2Bad
  rw [show (r.a2 == 102) = decide (r.a2 = 102) by rw [Bool.eq_iff_iff]; simp, show (r.a2 == 117) = decide (r.a2 = 117) by rw [Bool.eq_iff_iff]; simp]
theorem clash_true {l : List TRow} {i k : Nat} {r : TRow} (hr : l.getD i trow0 = r) (hk : k < i) (hi : i < l.length) (h : (clashN r (l.getD k trow0) || clashM r (l.getD k trow0)) = true) : clashB l i = true := by
  unfold clashB
  rw [hr, List.any_eq_true]
  refine ⟨l.getD k trow0, ?_, h⟩
  rw [List.mem_iff_getElem]
  exact ⟨k, by rw [List.length_take]; omega, by rw [List.getElem_take]; simp [List.getD, show k < l.length by omega]⟩
theorem clash_false {l : List TRow} {i : Nat} {r : TRow} (hr : l.getD i trow0 = r) (hi : i ≤ l.length) (h : ∀ k, k < i → (clashN r (l.getD k trow0) || clashM r (l.getD k trow0)) = false) : clashB l i = false := by
  unfold clashB
  rw [hr, List.any_eq_false]
  intro s hs
  obtain ⟨k, hk, rfl⟩ := List.mem_iff_getElem.1 hs
  rw [List.length_take] at hk
  have := h k (by omega)
  rw [List.getElem_take]
  simp [List.getD, show k < l.length by omega] at this ⊢
  exact this
def cN (r s : TRow) (a : Nat) : Bool := decide (r.num a ≥ 0) && decide (s.num a = r.num a)
theorem clashN_true {r s : TRow} {a : Nat} (ha : a < 5) (h : cN r s a = true) : clashN r s = true := by
  unfold clashN
  rw [List.any_eq_true]
  exact ⟨a, by simp; omega, h⟩
theorem clashN_false {r s : TRow} (h : ∀ a, a < 5 → cN r s a = false) : clashN r s = false := by
  unfold clashN
  rw [List.any_eq_false]
  intro a ha
  rw [show (decide (0 ≤ r.num a) && decide (s.num a = r.num a)) = cN r s a from rfl, h a (by simp at ha; omega)]
  decide
theorem clashM_tests (r s : TRow) : clashM r s = (decide (r.mux > 0) && ((s.mux == r.mux) && (s.sub == r.sub))) := by
  unfold clashM
  rw [show (s.mux == r.mux) = decide (s.mux = r.mux) by rw [Bool.eq_iff_iff]; simp, show (s.sub == r.sub) = decide (s.sub = r.sub) by rw [Bool.eq_iff_iff]; simp]
theorem bad_some {r : TRow} {k : Nat} (hk : k < 5) (h : true = badN (r.num k)) : badR r = true := by
  rcases (by omega : k = 0 ∨ k = 1 ∨ k = 2 ∨ k = 3 ∨ k = 4) with rfl | rfl | rfl | rfl | rfl
  all_goals
    have h' : badN (r.num _) = true := h.symm
    simp only [TRow.num] at h'
    simp [badR, h']
theorem bad_none {r : TRow} (h : ∀ j, j < 5 → badN (r.num j) = false) : badR r = false := by
  have h0 := h 0 (by decide)
  have h1 := h 1 (by decide)
  have h2 := h 2 (by decide)
  have h3 := h 3 (by decide)
  have h4 := h 4 (by decide)
  simp only [TRow.num] at h0 h1 h2 h3 h4
  simp [badR, h0, h1, h2, h3, h4]
set_option maxHeartbeats 8000000 in
theorem ref11row_spec (l : List TRow) (i : Nat) (hi : i < l.length) (hl : l.length ≤ 1000000) : Tells Tryz.prog 54 [trows l, int i] (int (rowI l i)) := by
  have hnm := name11_spec (l.getD i trow0).name
  cases hb : nameB (l.getD i trow0).name.data.toList with
  | false =>
    rw [hb] at hnm
    rw [rowI_13 hb]
    refine tells_of_aw Tryz.func54 rfl rfl fun nx => ?_
    refine stp ?_
    refine ⟨⟨by first | omega | (dsimp only; omega), by first | omega | (dsimp only; omega)⟩, ?_⟩
    refine stp ?_
    refine aop_tells rfl rfl hnm ⟨AVle.refl _, trivial⟩ fun nx2 => ?_
    refine stp ?_
    exact ret_tells rfl (AVle.refl _)
  | true =>
    rw [hb] at hnm
    rw [rowI_ord hb]
    refine tells_of_aw Tryz.func54 rfl rfl fun nx => ?_
    refine stp ?_
    refine ⟨⟨by first | omega | (dsimp only; omega), by first | omega | (dsimp only; omega)⟩, ?_⟩
    refine stp ?_
    refine aop_tells rfl rfl hnm ⟨AVle.refl _, trivial⟩ fun nx2 => ?_
    refine stp ?_
    refine aw_mid (fun y : Nat => mk 140 [(0, trows l), (1, int i), (5, .bp (0, nx) 0), (29, boolA (ordB l i))] ⟨[((0, nx), .c (trowC (l.getD i trow0)))], [], y, 1⟩) (fun _ => True) ?_ ?_
    · by_cases h0 : 0 < i
      · have hd : decide ((i : Int) > 0) = true := decide_eq_true (by omega)
        have hi1 : IntKind.i64.wrap ((i : Int) - 1) = ((i - 1 : Nat) : Int) := by rw [wrap_id (by omega) (by omega)]; omega
        (refine aw_draw 13 ?_ ?_ ?_ ?_; (· kernel_rfl); (· kernel_rfl); (· kernel_rfl))
        refine stp ?_
        (conv => whnf)
        refine lit_eq hd ?_
        refine stp ?_
        refine ⟨⟨ixge (i := i - 1) hi1, ixlt (i := i - 1) hi1 (by omega)⟩, splitO_eq (b := .rp (trowC (l.getD (i - 1) trow0))) (congrArg (fun z : Int => AV.rp (trowC (l.getD z.toNat trow0))) hi1) ?_⟩
        refine stp ?_
        intro c hc
        have hc2 : c = ordB l i := hc.trans (by unfold ordB; rw [decide_eq_true h0, Bool.true_and]; exact geq_leB _ _)
        clear hc
        rw [← hc2]
        refine stp ?_
        exact ⟨nx2, trivial, ele_tell (pm := []) _ [] rfl rfl (List.Sublist.refl _) (List.Sublist.refl _) (BxLe.refl _) trivial ⟨AVle.refl _, AVle.refl _, AVle.refl _, AVle.refl _, trivial⟩⟩
      · have hd : decide ((i : Int) > 0) = false := decide_eq_false (by omega)
        have ho : ordB l i = false := by unfold ordB; rw [decide_eq_false h0]; rfl
        rw [ho]
        (refine aw_draw 13 ?_ ?_ ?_ ?_; (· kernel_rfl); (· kernel_rfl); (· kernel_rfl))
        refine stp ?_
        (conv => whnf)
        refine lit_eq hd ?_
        refine stp ?_
        exact ⟨nx2, trivial, ele_tell (pm := []) _ [] rfl rfl (List.Sublist.refl _) (List.Sublist.refl _) (BxLe.refl _) trivial ⟨AVle.refl _, AVle.refl _, AVle.refl _, AVle.refl _, trivial⟩⟩
    · rintro nx3 -
      cases ho : ordB l i with
      | true =>
        rw [if_pos rfl]
        refine stp ?_
        exact ret_tells rfl (AVle.refl _)
      | false =>
        rw [if_neg (by decide)]
        generalize hrr : l.getD i trow0 = r
        refine stp ?_
        refine aw_loop (fun y : Nat × Nat => mk 140 [(0, trows l), (1, int i), (5, .bp (0, nx) 0), (6, int y.1)] ⟨[((0, nx), .c (trowC r))], [], y.2, 1⟩) (fun y => y.1 ≤ 5 ∧ ∀ j, j < y.1 → badN (r.num j) = false) (fun y => 5 - y.1) ?_ ?_
        · exact ⟨(0, nx3), ⟨Nat.zero_le _, fun j h => absurd h (Nat.not_lt_zero _)⟩, ele_tell (pm := []) _ [] rfl rfl (List.Sublist.refl _) (List.Sublist.refl _) (BxLe.refl _) trivial ⟨AVle.refl _, AVle.refl _, AVle.refl _, AVle.refl _, trivial⟩⟩
        · rintro ⟨a, nx4⟩ ⟨h3, h4⟩
          dsimp only at h3 h4
          obtain rfl | rfl | rfl | rfl | rfl | rfl : a = 0 ∨ a = 1 ∨ a = 2 ∨ a = 3 ∨ a = 4 ∨ a = 5 := by omega
          · have hbk : badN (r.num 0) = (decide (r.a0 < -1) || decide (r.a0 > 1073741823)) := rfl
            refine stp ?_
            refine ⟨⟨Int.natCast_nonneg _, show ((0 : Nat) : Int) < 5 by decide⟩, splitO_eq (b := .bp (0, nx) (1 + 0)) (congrArg (AV.bp (0, nx)) (by rw [c_intT]; rfl)) ?_⟩
            refine stp ?_
            intro c hc
            have hc2 : c = decide (r.a0 < -1) := hc
            clear hc
            rw [← hc2] at hbk
            clear hc2
            cases c
            · refine stp ?_
              refine ⟨⟨Int.natCast_nonneg _, show ((0 : Nat) : Int) < 5 by decide⟩, splitO_eq (b := .bp (0, nx) (1 + 0)) (congrArg (AV.bp (0, nx)) (by rw [c_intT]; rfl)) ?_⟩
              refine stp ?_
              intro c hc
              have hc2 : c = decide (r.a0 > 1073741823) := hc
              clear hc
              rw [← hc2, Bool.false_or] at hbk
              clear hc2
              cases c
              · refine stp ?_
                exact back (0 + 1, nx4) ⟨by dsimp only; omega, fun j hj => by dsimp only at hj; rcases Nat.lt_or_ge j 0 with q | q; exact h4 j q; rw [show j = 0 by omega]; exact hbk⟩ (by dsimp only; omega) (ele_tell (pm := []) _ [] rfl rfl (List.Sublist.refl _) (List.Sublist.refl _) (BxLe.refl _) trivial ⟨AVle.refl _, AVle.refl _, AVle.refl _, AVle.refl _, trivial⟩)
              · rw [bad_some (k := 0) (by decide) hbk.symm]
                refine stp ?_
                exact ret_tells rfl (AVle.refl _)
            · rw [Bool.true_or] at hbk
              rw [bad_some (k := 0) (by decide) hbk.symm]
              refine stp ?_
              exact ret_tells rfl (AVle.refl _)
          · have hbk : badN (r.num 1) = (decide (r.a1 < -1) || decide (r.a1 > 1073741823)) := rfl
            refine stp ?_
            refine ⟨⟨Int.natCast_nonneg _, show ((1 : Nat) : Int) < 5 by decide⟩, splitO_eq (b := .bp (0, nx) (1 + 1)) (congrArg (AV.bp (0, nx)) (by rw [c_intT]; rfl)) ?_⟩
            refine stp ?_
            intro c hc
            have hc2 : c = decide (r.a1 < -1) := hc
            clear hc
            rw [← hc2] at hbk
            clear hc2
            cases c
            · refine stp ?_
              refine ⟨⟨Int.natCast_nonneg _, show ((1 : Nat) : Int) < 5 by decide⟩, splitO_eq (b := .bp (0, nx) (1 + 1)) (congrArg (AV.bp (0, nx)) (by rw [c_intT]; rfl)) ?_⟩
              refine stp ?_
              intro c hc
              have hc2 : c = decide (r.a1 > 1073741823) := hc
              clear hc
              rw [← hc2, Bool.false_or] at hbk
              clear hc2
              cases c
              · refine stp ?_
                exact back (1 + 1, nx4) ⟨by dsimp only; omega, fun j hj => by dsimp only at hj; rcases Nat.lt_or_ge j 1 with q | q; exact h4 j q; rw [show j = 1 by omega]; exact hbk⟩ (by dsimp only; omega) (ele_tell (pm := []) _ [] rfl rfl (List.Sublist.refl _) (List.Sublist.refl _) (BxLe.refl _) trivial ⟨AVle.refl _, AVle.refl _, AVle.refl _, AVle.refl _, trivial⟩)
              · rw [bad_some (k := 1) (by decide) hbk.symm]
                refine stp ?_
                exact ret_tells rfl (AVle.refl _)
            · rw [Bool.true_or] at hbk
              rw [bad_some (k := 1) (by decide) hbk.symm]
              refine stp ?_
              exact ret_tells rfl (AVle.refl _)
          · have hbk : badN (r.num 2) = (decide (r.a2 < -1) || decide (r.a2 > 1073741823)) := rfl
            refine stp ?_
            refine ⟨⟨Int.natCast_nonneg _, show ((2 : Nat) : Int) < 5 by decide⟩, splitO_eq (b := .bp (0, nx) (1 + 2)) (congrArg (AV.bp (0, nx)) (by rw [c_intT]; rfl)) ?_⟩
            refine stp ?_
            intro c hc
            have hc2 : c = decide (r.a2 < -1) := hc
            clear hc
            rw [← hc2] at hbk
            clear hc2
            cases c
            · refine stp ?_
              refine ⟨⟨Int.natCast_nonneg _, show ((2 : Nat) : Int) < 5 by decide⟩, splitO_eq (b := .bp (0, nx) (1 + 2)) (congrArg (AV.bp (0, nx)) (by rw [c_intT]; rfl)) ?_⟩
              refine stp ?_
              intro c hc
              have hc2 : c = decide (r.a2 > 1073741823) := hc
              clear hc
              rw [← hc2, Bool.false_or] at hbk
              clear hc2
              cases c
              · refine stp ?_
                exact back (2 + 1, nx4) ⟨by dsimp only; omega, fun j hj => by dsimp only at hj; rcases Nat.lt_or_ge j 2 with q | q; exact h4 j q; rw [show j = 2 by omega]; exact hbk⟩ (by dsimp only; omega) (ele_tell (pm := []) _ [] rfl rfl (List.Sublist.refl _) (List.Sublist.refl _) (BxLe.refl _) trivial ⟨AVle.refl _, AVle.refl _, AVle.refl _, AVle.refl _, trivial⟩)
              · rw [bad_some (k := 2) (by decide) hbk.symm]
                refine stp ?_
                exact ret_tells rfl (AVle.refl _)
            · rw [Bool.true_or] at hbk
              rw [bad_some (k := 2) (by decide) hbk.symm]
              refine stp ?_
              exact ret_tells rfl (AVle.refl _)
          · have hbk : badN (r.num 3) = (decide (r.a3 < -1) || decide (r.a3 > 1073741823)) := rfl
            refine stp ?_
            refine ⟨⟨Int.natCast_nonneg _, show ((3 : Nat) : Int) < 5 by decide⟩, splitO_eq (b := .bp (0, nx) (1 + 3)) (congrArg (AV.bp (0, nx)) (by rw [c_intT]; rfl)) ?_⟩
            refine stp ?_
            intro c hc
            have hc2 : c = decide (r.a3 < -1) := hc
            clear hc
            rw [← hc2] at hbk
            clear hc2
            cases c
            · refine stp ?_
              refine ⟨⟨Int.natCast_nonneg _, show ((3 : Nat) : Int) < 5 by decide⟩, splitO_eq (b := .bp (0, nx) (1 + 3)) (congrArg (AV.bp (0, nx)) (by rw [c_intT]; rfl)) ?_⟩
              refine stp ?_
              intro c hc
              have hc2 : c = decide (r.a3 > 1073741823) := hc
              clear hc
              rw [← hc2, Bool.false_or] at hbk
              clear hc2
              cases c
              · refine stp ?_
                exact back (3 + 1, nx4) ⟨by dsimp only; omega, fun j hj => by dsimp only at hj; rcases Nat.lt_or_ge j 3 with q | q; exact h4 j q; rw [show j = 3 by omega]; exact hbk⟩ (by dsimp only; omega) (ele_tell (pm := []) _ [] rfl rfl (List.Sublist.refl _) (List.Sublist.refl _) (BxLe.refl _) trivial ⟨AVle.refl _, AVle.refl _, AVle.refl _, AVle.refl _, trivial⟩)
              · rw [bad_some (k := 3) (by decide) hbk.symm]
                refine stp ?_
                exact ret_tells rfl (AVle.refl _)
            · rw [Bool.true_or] at hbk
              rw [bad_some (k := 3) (by decide) hbk.symm]
              refine stp ?_
              exact ret_tells rfl (AVle.refl _)
          · have hbk : badN (r.num 4) = (decide (r.a4 < -1) || decide (r.a4 > 1073741823)) := rfl
            refine stp ?_
            refine ⟨⟨Int.natCast_nonneg _, show ((4 : Nat) : Int) < 5 by decide⟩, splitO_eq (b := .bp (0, nx) (1 + 4)) (congrArg (AV.bp (0, nx)) (by rw [c_intT]; rfl)) ?_⟩
            refine stp ?_
            intro c hc
            have hc2 : c = decide (r.a4 < -1) := hc
            clear hc
            rw [← hc2] at hbk
            clear hc2
            cases c
            · refine stp ?_
              refine ⟨⟨Int.natCast_nonneg _, show ((4 : Nat) : Int) < 5 by decide⟩, splitO_eq (b := .bp (0, nx) (1 + 4)) (congrArg (AV.bp (0, nx)) (by rw [c_intT]; rfl)) ?_⟩
              refine stp ?_
              intro c hc
              have hc2 : c = decide (r.a4 > 1073741823) := hc
              clear hc
              rw [← hc2, Bool.false_or] at hbk
              clear hc2
              cases c
              · refine stp ?_
                exact back (4 + 1, nx4) ⟨by dsimp only; omega, fun j hj => by dsimp only at hj; rcases Nat.lt_or_ge j 4 with q | q; exact h4 j q; rw [show j = 4 by omega]; exact hbk⟩ (by dsimp only; omega) (ele_tell (pm := []) _ [] rfl rfl (List.Sublist.refl _) (List.Sublist.refl _) (BxLe.refl _) trivial ⟨AVle.refl _, AVle.refl _, AVle.refl _, AVle.refl _, trivial⟩)
              · rw [bad_some (k := 4) (by decide) hbk.symm]
                refine stp ?_
                exact ret_tells rfl (AVle.refl _)
            · rw [Bool.true_or] at hbk
              rw [bad_some (k := 4) (by decide) hbk.symm]
              refine stp ?_
              exact ret_tells rfl (AVle.refl _)
          · rw [bad_none h4, if_neg (by decide)]
            have hmb := mux_tests r
            (refine stpR ?_; refine aw_region ?_; refine stpR ?_)
            refine aw_mid2 (fun y : Nat => mk 140 [(0, trows l), (1, int i), (5, .bp (0, nx) 0)] ⟨[((0, nx), .c (trowC r))], [], y, 1⟩) (fun _ => muxBad r = false) ?_ ?_
            · refine aw_region ?_
              refine stp ?_
              intro c t1; cases c
              · refine stp ?_
                intro c t2; cases c
                · refine stp ?_
                  intro c t3; cases c
                  · refine stp ?_
                    intro c t5; cases c
                    · have e : muxBad r = false := by rw [hmb, ← t1, ← t2, ← t3, ← t5]; rfl
                      refine stp ?_
                      exact ⟨nx4, e, ele_tell (pm := []) _ [] rfl rfl (List.Sublist.refl _) (List.Sublist.refl _) (BxLe.refl _) trivial ⟨AVle.refl _, AVle.refl _, AVle.refl _, trivial⟩⟩
                    · refine stp ?_
                      intro c t6; cases c
                      · refine stp ?_
                        intro c t7; cases c
                        · have e : muxBad r = false := by rw [hmb, ← t1, ← t2, ← t3, ← t5, ← t6, ← t7]; rfl
                          refine stp ?_
                          exact ⟨nx4, e, ele_tell (pm := []) _ [] rfl rfl (List.Sublist.refl _) (List.Sublist.refl _) (BxLe.refl _) trivial ⟨AVle.refl _, AVle.refl _, AVle.refl _, trivial⟩⟩
                        · have e : muxBad r = true := by rw [hmb, ← t1, ← t2, ← t3, ← t5, ← t6, ← t7]; rfl
                          rw [if_pos e]
                          refine stp ?_
                          exact ret_tells rfl (AVle.refl _)
                      · have e : muxBad r = true := by rw [hmb, ← t1, ← t2, ← t3, ← t5, ← t6]; rfl
                        rw [if_pos e]
                        refine stp ?_
                        exact ret_tells rfl (AVle.refl _)
                  · refine stp ?_
                    intro c t4; cases c
                    · refine stp ?_
                      intro c t5; cases c
                      · have e : muxBad r = false := by rw [hmb, ← t1, ← t2, ← t3, ← t4, ← t5]; rfl
                        refine stp ?_
                        exact ⟨nx4, e, ele_tell (pm := []) _ [] rfl rfl (List.Sublist.refl _) (List.Sublist.refl _) (BxLe.refl _) trivial ⟨AVle.refl _, AVle.refl _, AVle.refl _, trivial⟩⟩
                      · refine stp ?_
                        intro c t6; cases c
                        · refine stp ?_
                          intro c t7; cases c
                          · have e : muxBad r = false := by rw [hmb, ← t1, ← t2, ← t3, ← t4, ← t5, ← t6, ← t7]; rfl
                            refine stp ?_
                            exact ⟨nx4, e, ele_tell (pm := []) _ [] rfl rfl (List.Sublist.refl _) (List.Sublist.refl _) (BxLe.refl _) trivial ⟨AVle.refl _, AVle.refl _, AVle.refl _, trivial⟩⟩
                          · have e : muxBad r = true := by rw [hmb, ← t1, ← t2, ← t3, ← t4, ← t5, ← t6, ← t7]; rfl
                            rw [if_pos e]
                            refine stp ?_
                            exact ret_tells rfl (AVle.refl _)
                        · have e : muxBad r = true := by rw [hmb, ← t1, ← t2, ← t3, ← t4, ← t5, ← t6]; rfl
                          rw [if_pos e]
                          refine stp ?_
                          exact ret_tells rfl (AVle.refl _)
                    · have e : muxBad r = true := by rw [hmb, ← t1, ← t2, ← t3, ← t4]; rfl
                      rw [if_pos e]
                      refine stp ?_
                      exact ret_tells rfl (AVle.refl _)
                · have e : muxBad r = true := by rw [hmb, ← t1, ← t2]; rfl
                  rw [if_pos e]
                  refine stp ?_
                  exact ret_tells rfl (AVle.refl _)
              · have e : muxBad r = true := by rw [hmb, ← t1]; rfl
                rw [if_pos e]
                refine stp ?_
                exact ret_tells rfl (AVle.refl _)
            · rintro nx5 hmz
              rw [hmz, if_neg (by decide)]
              have ha2 := a2_tests r
              refine stp ?_
              refine splitO_eq (b := int r.a2) rfl ?_
              refine stp ?_
              intro c t1; cases c
              rotate_left
              · have e : a2Bad r = true := by rw [ha2, ← t1]; rfl
                rw [if_pos e]
                refine stp ?_
                exact ret_tells rfl (AVle.refl _)
              refine stp ?_
              refine splitO_eq (b := int r.a2) rfl ?_
              refine stp ?_
              intro c t2; cases c
              rotate_left
              · have e : a2Bad r = true := by rw [ha2, ← t1, ← t2]; rfl
                rw [if_pos e]
                refine stp ?_
                exact ret_tells rfl (AVle.refl _)
              have e : a2Bad r = false := by rw [ha2, ← t1, ← t2]; rfl
              rw [if_neg (by rw [e]; decide)]
              refine stp ?_
              refine aw_loop (fun y : Nat × Nat => mk 140 [(0, trows l), (1, int i), (5, .bp (0, nx) 0), (7, int y.1)] ⟨[((0, nx), .c (trowC r))], [], y.2, 1⟩) (fun y => y.1 ≤ i ∧ ∀ j, j < y.1 → (clashN r (l.getD j trow0) || clashM r (l.getD j trow0)) = false) (fun y => i - y.1) ?_ ?_
              · exact ⟨(0, nx5), ⟨Nat.zero_le _, fun j h => absurd h (Nat.not_lt_zero _)⟩, ele_tell (pm := []) _ [] rfl rfl (List.Sublist.refl _) (List.Sublist.refl _) (BxLe.refl _) trivial ⟨AVle.refl _, AVle.refl _, AVle.refl _, AVle.refl _, trivial⟩⟩
              · rintro ⟨k, nx6⟩ ⟨m3, m4⟩
                dsimp only at m3 m4
                refine stp ?_
                intro c g; cases c
                · have g := not_of g
                  try dsimp only at g
                  have hk : k = i := by omega
                  subst hk
                  rw [clash_false hrr (Nat.le_of_lt hi) m4, if_neg (by decide)]
                  refine stp ?_
                  exact ret_tells rfl (AVle.refl _)
                have g := yes_of g
                try dsimp only at g
                have hk : k < i := by omega
                refine stp ?_
                refine aw_loop (fun y : Nat × Nat => mk 140 [(0, trows l), (1, int i), (5, .bp (0, nx) 0), (7, int k), (8, int y.1)] ⟨[((0, nx), .c (trowC r))], [], y.2, 1⟩) (fun y => y.1 ≤ 5 ∧ ∀ j, j < y.1 → cN r (l.getD k trow0) j = false) (fun y => 5 - y.1) ?_ ?_
                · exact ⟨(0, nx6), ⟨Nat.zero_le _, fun j h => absurd h (Nat.not_lt_zero _)⟩, ele_tell (pm := []) _ [] rfl rfl (List.Sublist.refl _) (List.Sublist.refl _) (BxLe.refl _) trivial ⟨AVle.refl _, AVle.refl _, AVle.refl _, AVle.refl _, AVle.refl _, trivial⟩⟩
                · rintro ⟨a, nx8⟩ ⟨n3, n4⟩
                  dsimp only at n3 n4
                  obtain rfl | rfl | rfl | rfl | rfl | rfl : a = 0 ∨ a = 1 ∨ a = 2 ∨ a = 3 ∨ a = 4 ∨ a = 5 := by omega
                  · have hcn : cN r (l.getD k trow0) 0 = (decide (r.a0 ≥ 0) && decide ((l.getD k trow0).a0 = r.a0)) := rfl
                    cases hd : decide (r.a0 ≥ 0) with
                    | false =>
                      have e : cN r (l.getD k trow0) 0 = false := by rw [hcn, hd]; rfl
                      (refine stpR ?_; refine aw_region ?_; refine stpR ?_)
                      (refine aw_draw 19 ?_ ?_ ?_ ?_; (· kernel_rfl); (· kernel_rfl); (· kernel_rfl))
                      refine stp ?_
                      refine ⟨⟨Int.natCast_nonneg _, show ((0 : Nat) : Int) < 5 by decide⟩, splitO_eq (b := .bp (0, nx) (1 + 0)) (congrArg (AV.bp (0, nx)) (by rw [c_intT]; rfl)) ?_⟩
                      refine stp ?_
                      (conv => whnf)
                      refine lit_eq hd ?_
                      refine stp ?_
                      exact back (0 + 1, nx8) ⟨by dsimp only; omega, fun j hj => by dsimp only at hj; rcases Nat.lt_or_ge j 0 with q | q; exact n4 j q; rw [show j = 0 by omega]; exact e⟩ (by dsimp only; omega) (ele_tell (pm := []) _ [] rfl rfl (List.Sublist.refl _) (List.Sublist.refl _) (BxLe.refl _) trivial ⟨AVle.refl _, AVle.refl _, AVle.refl _, AVle.refl _, AVle.refl _, trivial⟩)
                    | true =>
                      (refine stpR ?_; refine aw_region ?_; refine stpR ?_)
                      (refine aw_draw 19 ?_ ?_ ?_ ?_; (· kernel_rfl); (· kernel_rfl); (· kernel_rfl))
                      refine stp ?_
                      refine ⟨⟨Int.natCast_nonneg _, show ((0 : Nat) : Int) < 5 by decide⟩, splitO_eq (b := .bp (0, nx) (1 + 0)) (congrArg (AV.bp (0, nx)) (by rw [c_intT]; rfl)) ?_⟩
                      refine stp ?_
                      (conv => whnf)
                      refine lit_eq hd ?_
                      refine stp ?_
                      refine ⟨⟨by first | omega | (dsimp only; omega), by first | omega | (dsimp only; omega)⟩, ?_⟩
                      refine stp ?_
                      refine ⟨⟨Int.natCast_nonneg _, show ((0 : Nat) : Int) < 5 by decide, by rw [c_intT]; exact Nat.le_of_ble_eq_true rfl⟩, splitO_eq (b := .rp (List.drop (1 + 0) (trowC (l.getD k trow0)))) (congrArg AV.rp (by rw [c_intT]; rfl)) ?_⟩
                      refine stp ?_
                      refine ⟨⟨Int.natCast_nonneg _, show ((0 : Nat) : Int) < 5 by decide⟩, splitO_eq (b := .bp (0, nx) (1 + 0)) (congrArg (AV.bp (0, nx)) (by rw [c_intT]; rfl)) ?_⟩
                      refine stp ?_
                      intro c hc
                      have hc2 : c = decide ((l.getD k trow0).a0 = r.a0) := hc.trans (by rw [Bool.eq_iff_iff]; simp)
                      clear hc
                      rw [hd, ← hc2, Bool.true_and] at hcn
                      clear hc2
                      cases c
                      · have e := hcn
                        refine stp ?_
                        exact back (0 + 1, nx8) ⟨by dsimp only; omega, fun j hj => by dsimp only at hj; rcases Nat.lt_or_ge j 0 with q | q; exact n4 j q; rw [show j = 0 by omega]; exact e⟩ (by dsimp only; omega) (ele_tell (pm := []) _ [] rfl rfl (List.Sublist.refl _) (List.Sublist.refl _) (BxLe.refl _) trivial ⟨AVle.refl _, AVle.refl _, AVle.refl _, AVle.refl _, AVle.refl _, trivial⟩)
                      · rw [clash_true hrr hk hi (by rw [clashN_true (a := 0) (by decide) hcn]; rfl), if_pos rfl]
                        refine stp ?_
                        exact ret_tells rfl (AVle.refl _)
                  · have hcn : cN r (l.getD k trow0) 1 = (decide (r.a1 ≥ 0) && decide ((l.getD k trow0).a1 = r.a1)) := rfl
                    cases hd : decide (r.a1 ≥ 0) with
                    | false =>
                      have e : cN r (l.getD k trow0) 1 = false := by rw [hcn, hd]; rfl
                      (refine stpR ?_; refine aw_region ?_; refine stpR ?_)
                      (refine aw_draw 19 ?_ ?_ ?_ ?_; (· kernel_rfl); (· kernel_rfl); (· kernel_rfl))
                      refine stp ?_
                      refine ⟨⟨Int.natCast_nonneg _, show ((1 : Nat) : Int) < 5 by decide⟩, splitO_eq (b := .bp (0, nx) (1 + 1)) (congrArg (AV.bp (0, nx)) (by rw [c_intT]; rfl)) ?_⟩
                      refine stp ?_
                      (conv => whnf)
                      refine lit_eq hd ?_
                      refine stp ?_
                      exact back (1 + 1, nx8) ⟨by dsimp only; omega, fun j hj => by dsimp only at hj; rcases Nat.lt_or_ge j 1 with q | q; exact n4 j q; rw [show j = 1 by omega]; exact e⟩ (by dsimp only; omega) (ele_tell (pm := []) _ [] rfl rfl (List.Sublist.refl _) (List.Sublist.refl _) (BxLe.refl _) trivial ⟨AVle.refl _, AVle.refl _, AVle.refl _, AVle.refl _, AVle.refl _, trivial⟩)
                    | true =>
                      (refine stpR ?_; refine aw_region ?_; refine stpR ?_)
                      (refine aw_draw 19 ?_ ?_ ?_ ?_; (· kernel_rfl); (· kernel_rfl); (· kernel_rfl))
                      refine stp ?_
                      refine ⟨⟨Int.natCast_nonneg _, show ((1 : Nat) : Int) < 5 by decide⟩, splitO_eq (b := .bp (0, nx) (1 + 1)) (congrArg (AV.bp (0, nx)) (by rw [c_intT]; rfl)) ?_⟩
                      refine stp ?_
                      (conv => whnf)
                      refine lit_eq hd ?_
                      refine stp ?_
                      refine ⟨⟨by first | omega | (dsimp only; omega), by first | omega | (dsimp only; omega)⟩, ?_⟩
                      refine stp ?_
                      refine ⟨⟨Int.natCast_nonneg _, show ((1 : Nat) : Int) < 5 by decide, by rw [c_intT]; exact Nat.le_of_ble_eq_true rfl⟩, splitO_eq (b := .rp (List.drop (1 + 1) (trowC (l.getD k trow0)))) (congrArg AV.rp (by rw [c_intT]; rfl)) ?_⟩
                      refine stp ?_
                      refine ⟨⟨Int.natCast_nonneg _, show ((1 : Nat) : Int) < 5 by decide⟩, splitO_eq (b := .bp (0, nx) (1 + 1)) (congrArg (AV.bp (0, nx)) (by rw [c_intT]; rfl)) ?_⟩
                      refine stp ?_
                      intro c hc
                      have hc2 : c = decide ((l.getD k trow0).a1 = r.a1) := hc.trans (by rw [Bool.eq_iff_iff]; simp)
                      clear hc
                      rw [hd, ← hc2, Bool.true_and] at hcn
                      clear hc2
                      cases c
                      · have e := hcn
                        refine stp ?_
                        exact back (1 + 1, nx8) ⟨by dsimp only; omega, fun j hj => by dsimp only at hj; rcases Nat.lt_or_ge j 1 with q | q; exact n4 j q; rw [show j = 1 by omega]; exact e⟩ (by dsimp only; omega) (ele_tell (pm := []) _ [] rfl rfl (List.Sublist.refl _) (List.Sublist.refl _) (BxLe.refl _) trivial ⟨AVle.refl _, AVle.refl _, AVle.refl _, AVle.refl _, AVle.refl _, trivial⟩)
                      · rw [clash_true hrr hk hi (by rw [clashN_true (a := 1) (by decide) hcn]; rfl), if_pos rfl]
                        refine stp ?_
                        exact ret_tells rfl (AVle.refl _)
                  · have hcn : cN r (l.getD k trow0) 2 = (decide (r.a2 ≥ 0) && decide ((l.getD k trow0).a2 = r.a2)) := rfl
                    cases hd : decide (r.a2 ≥ 0) with
                    | false =>
                      have e : cN r (l.getD k trow0) 2 = false := by rw [hcn, hd]; rfl
                      (refine stpR ?_; refine aw_region ?_; refine stpR ?_)
                      (refine aw_draw 19 ?_ ?_ ?_ ?_; (· kernel_rfl); (· kernel_rfl); (· kernel_rfl))
                      refine stp ?_
                      refine ⟨⟨Int.natCast_nonneg _, show ((2 : Nat) : Int) < 5 by decide⟩, splitO_eq (b := .bp (0, nx) (1 + 2)) (congrArg (AV.bp (0, nx)) (by rw [c_intT]; rfl)) ?_⟩
                      refine stp ?_
                      (conv => whnf)
                      refine lit_eq hd ?_
                      refine stp ?_
                      exact back (2 + 1, nx8) ⟨by dsimp only; omega, fun j hj => by dsimp only at hj; rcases Nat.lt_or_ge j 2 with q | q; exact n4 j q; rw [show j = 2 by omega]; exact e⟩ (by dsimp only; omega) (ele_tell (pm := []) _ [] rfl rfl (List.Sublist.refl _) (List.Sublist.refl _) (BxLe.refl _) trivial ⟨AVle.refl _, AVle.refl _, AVle.refl _, AVle.refl _, AVle.refl _, trivial⟩)
                    | true =>
                      (refine stpR ?_; refine aw_region ?_; refine stpR ?_)
                      (refine aw_draw 19 ?_ ?_ ?_ ?_; (· kernel_rfl); (· kernel_rfl); (· kernel_rfl))
                      refine stp ?_
                      refine ⟨⟨Int.natCast_nonneg _, show ((2 : Nat) : Int) < 5 by decide⟩, splitO_eq (b := .bp (0, nx) (1 + 2)) (congrArg (AV.bp (0, nx)) (by rw [c_intT]; rfl)) ?_⟩
                      refine stp ?_
                      (conv => whnf)
                      refine lit_eq hd ?_
                      refine stp ?_
                      refine ⟨⟨by first | omega | (dsimp only; omega), by first | omega | (dsimp only; omega)⟩, ?_⟩
                      refine stp ?_
                      refine ⟨⟨Int.natCast_nonneg _, show ((2 : Nat) : Int) < 5 by decide, by rw [c_intT]; exact Nat.le_of_ble_eq_true rfl⟩, splitO_eq (b := .rp (List.drop (1 + 2) (trowC (l.getD k trow0)))) (congrArg AV.rp (by rw [c_intT]; rfl)) ?_⟩
                      refine stp ?_
                      refine ⟨⟨Int.natCast_nonneg _, show ((2 : Nat) : Int) < 5 by decide⟩, splitO_eq (b := .bp (0, nx) (1 + 2)) (congrArg (AV.bp (0, nx)) (by rw [c_intT]; rfl)) ?_⟩
                      refine stp ?_
                      intro c hc
                      have hc2 : c = decide ((l.getD k trow0).a2 = r.a2) := hc.trans (by rw [Bool.eq_iff_iff]; simp)
                      clear hc
                      rw [hd, ← hc2, Bool.true_and] at hcn
                      clear hc2
                      cases c
                      · have e := hcn
                        refine stp ?_
                        exact back (2 + 1, nx8) ⟨by dsimp only; omega, fun j hj => by dsimp only at hj; rcases Nat.lt_or_ge j 2 with q | q; exact n4 j q; rw [show j = 2 by omega]; exact e⟩ (by dsimp only; omega) (ele_tell (pm := []) _ [] rfl rfl (List.Sublist.refl _) (List.Sublist.refl _) (BxLe.refl _) trivial ⟨AVle.refl _, AVle.refl _, AVle.refl _, AVle.refl _, AVle.refl _, trivial⟩)
                      · rw [clash_true hrr hk hi (by rw [clashN_true (a := 2) (by decide) hcn]; rfl), if_pos rfl]
                        refine stp ?_
                        exact ret_tells rfl (AVle.refl _)
                  · have hcn : cN r (l.getD k trow0) 3 = (decide (r.a3 ≥ 0) && decide ((l.getD k trow0).a3 = r.a3)) := rfl
                    cases hd : decide (r.a3 ≥ 0) with
                    | false =>
                      have e : cN r (l.getD k trow0) 3 = false := by rw [hcn, hd]; rfl
                      (refine stpR ?_; refine aw_region ?_; refine stpR ?_)
                      (refine aw_draw 19 ?_ ?_ ?_ ?_; (· kernel_rfl); (· kernel_rfl); (· kernel_rfl))
                      refine stp ?_
                      refine ⟨⟨Int.natCast_nonneg _, show ((3 : Nat) : Int) < 5 by decide⟩, splitO_eq (b := .bp (0, nx) (1 + 3)) (congrArg (AV.bp (0, nx)) (by rw [c_intT]; rfl)) ?_⟩
                      refine stp ?_
                      (conv => whnf)
                      refine lit_eq hd ?_
                      refine stp ?_
                      exact back (3 + 1, nx8) ⟨by dsimp only; omega, fun j hj => by dsimp only at hj; rcases Nat.lt_or_ge j 3 with q | q; exact n4 j q; rw [show j = 3 by omega]; exact e⟩ (by dsimp only; omega) (ele_tell (pm := []) _ [] rfl rfl (List.Sublist.refl _) (List.Sublist.refl _) (BxLe.refl _) trivial ⟨AVle.refl _, AVle.refl _, AVle.refl _, AVle.refl _, AVle.refl _, trivial⟩)
                    | true =>
                      (refine stpR ?_; refine aw_region ?_; refine stpR ?_)
                      (refine aw_draw 19 ?_ ?_ ?_ ?_; (· kernel_rfl); (· kernel_rfl); (· kernel_rfl))
                      refine stp ?_
                      refine ⟨⟨Int.natCast_nonneg _, show ((3 : Nat) : Int) < 5 by decide⟩, splitO_eq (b := .bp (0, nx) (1 + 3)) (congrArg (AV.bp (0, nx)) (by rw [c_intT]; rfl)) ?_⟩
                      refine stp ?_
                      (conv => whnf)
                      refine lit_eq hd ?_
                      refine stp ?_
                      refine ⟨⟨by first | omega | (dsimp only; omega), by first | omega | (dsimp only; omega)⟩, ?_⟩
                      refine stp ?_
                      refine ⟨⟨Int.natCast_nonneg _, show ((3 : Nat) : Int) < 5 by decide, by rw [c_intT]; exact Nat.le_of_ble_eq_true rfl⟩, splitO_eq (b := .rp (List.drop (1 + 3) (trowC (l.getD k trow0)))) (congrArg AV.rp (by rw [c_intT]; rfl)) ?_⟩
                      refine stp ?_
                      refine ⟨⟨Int.natCast_nonneg _, show ((3 : Nat) : Int) < 5 by decide⟩, splitO_eq (b := .bp (0, nx) (1 + 3)) (congrArg (AV.bp (0, nx)) (by rw [c_intT]; rfl)) ?_⟩
                      refine stp ?_
                      intro c hc
                      have hc2 : c = decide ((l.getD k trow0).a3 = r.a3) := hc.trans (by rw [Bool.eq_iff_iff]; simp)
                      clear hc
                      rw [hd, ← hc2, Bool.true_and] at hcn
                      clear hc2
                      cases c
                      · have e := hcn
                        refine stp ?_
                        exact back (3 + 1, nx8) ⟨by dsimp only; omega, fun j hj => by dsimp only at hj; rcases Nat.lt_or_ge j 3 with q | q; exact n4 j q; rw [show j = 3 by omega]; exact e⟩ (by dsimp only; omega) (ele_tell (pm := []) _ [] rfl rfl (List.Sublist.refl _) (List.Sublist.refl _) (BxLe.refl _) trivial ⟨AVle.refl _, AVle.refl _, AVle.refl _, AVle.refl _, AVle.refl _, trivial⟩)
                      · rw [clash_true hrr hk hi (by rw [clashN_true (a := 3) (by decide) hcn]; rfl), if_pos rfl]
                        refine stp ?_
                        exact ret_tells rfl (AVle.refl _)
                  · have hcn : cN r (l.getD k trow0) 4 = (decide (r.a4 ≥ 0) && decide ((l.getD k trow0).a4 = r.a4)) := rfl
                    cases hd : decide (r.a4 ≥ 0) with
                    | false =>
                      have e : cN r (l.getD k trow0) 4 = false := by rw [hcn, hd]; rfl
                      (refine stpR ?_; refine aw_region ?_; refine stpR ?_)
                      (refine aw_draw 19 ?_ ?_ ?_ ?_; (· kernel_rfl); (· kernel_rfl); (· kernel_rfl))
                      refine stp ?_
                      refine ⟨⟨Int.natCast_nonneg _, show ((4 : Nat) : Int) < 5 by decide⟩, splitO_eq (b := .bp (0, nx) (1 + 4)) (congrArg (AV.bp (0, nx)) (by rw [c_intT]; rfl)) ?_⟩
                      refine stp ?_
                      (conv => whnf)
                      refine lit_eq hd ?_
                      refine stp ?_
                      exact back (4 + 1, nx8) ⟨by dsimp only; omega, fun j hj => by dsimp only at hj; rcases Nat.lt_or_ge j 4 with q | q; exact n4 j q; rw [show j = 4 by omega]; exact e⟩ (by dsimp only; omega) (ele_tell (pm := []) _ [] rfl rfl (List.Sublist.refl _) (List.Sublist.refl _) (BxLe.refl _) trivial ⟨AVle.refl _, AVle.refl _, AVle.refl _, AVle.refl _, AVle.refl _, trivial⟩)
                    | true =>
                      (refine stpR ?_; refine aw_region ?_; refine stpR ?_)
                      (refine aw_draw 19 ?_ ?_ ?_ ?_; (· kernel_rfl); (· kernel_rfl); (· kernel_rfl))
                      refine stp ?_
                      refine ⟨⟨Int.natCast_nonneg _, show ((4 : Nat) : Int) < 5 by decide⟩, splitO_eq (b := .bp (0, nx) (1 + 4)) (congrArg (AV.bp (0, nx)) (by rw [c_intT]; rfl)) ?_⟩
                      refine stp ?_
                      (conv => whnf)
                      refine lit_eq hd ?_
                      refine stp ?_
                      refine ⟨⟨by first | omega | (dsimp only; omega), by first | omega | (dsimp only; omega)⟩, ?_⟩
                      refine stp ?_
                      refine ⟨⟨Int.natCast_nonneg _, show ((4 : Nat) : Int) < 5 by decide, by rw [c_intT]; exact Nat.le_of_ble_eq_true rfl⟩, splitO_eq (b := .rp (List.drop (1 + 4) (trowC (l.getD k trow0)))) (congrArg AV.rp (by rw [c_intT]; rfl)) ?_⟩
                      refine stp ?_
                      refine ⟨⟨Int.natCast_nonneg _, show ((4 : Nat) : Int) < 5 by decide⟩, splitO_eq (b := .bp (0, nx) (1 + 4)) (congrArg (AV.bp (0, nx)) (by rw [c_intT]; rfl)) ?_⟩
                      refine stp ?_
                      intro c hc
                      have hc2 : c = decide ((l.getD k trow0).a4 = r.a4) := hc.trans (by rw [Bool.eq_iff_iff]; simp)
                      clear hc
                      rw [hd, ← hc2, Bool.true_and] at hcn
                      clear hc2
                      cases c
                      · have e := hcn
                        refine stp ?_
                        exact back (4 + 1, nx8) ⟨by dsimp only; omega, fun j hj => by dsimp only at hj; rcases Nat.lt_or_ge j 4 with q | q; exact n4 j q; rw [show j = 4 by omega]; exact e⟩ (by dsimp only; omega) (ele_tell (pm := []) _ [] rfl rfl (List.Sublist.refl _) (List.Sublist.refl _) (BxLe.refl _) trivial ⟨AVle.refl _, AVle.refl _, AVle.refl _, AVle.refl _, AVle.refl _, trivial⟩)
                      · rw [clash_true hrr hk hi (by rw [clashN_true (a := 4) (by decide) hcn]; rfl), if_pos rfl]
                        refine stp ?_
                        exact ret_tells rfl (AVle.refl _)
                  · have hN := clashN_false n4
                    have hM := clashM_tests r (l.getD k trow0)
                    cases hd1 : decide (r.mux > 0) with
                    | false =>
                      have e : clashM r (l.getD k trow0) = false := by rw [hM, hd1]; rfl
                      (refine stpR ?_; refine aw_region ?_; refine stpR ?_)
                      (refine aw_draw 23 ?_ ?_ ?_ ?_; (· kernel_rfl); (· kernel_rfl); (· kernel_rfl))
                      refine stp ?_
                      (conv => whnf)
                      refine lit_eq hd1 ?_
                      refine stp ?_
                      exact back (k + 1, nx8) ⟨by dsimp only; omega, fun j hj => by dsimp only at hj; rcases Nat.lt_or_ge j k with q | q; exact m4 j q; rw [show j = k by omega, hN, Bool.false_or]; exact e⟩ (by dsimp only; omega) (ele_tell (pm := []) _ [] rfl rfl (List.Sublist.refl _) (List.Sublist.refl _) (BxLe.refl _) trivial ⟨AVle.refl _, AVle.refl _, AVle.refl _, le_int (wrap_succ (by first | omega | (dsimp only; omega))), trivial⟩)
                    | true =>
                      cases hd2 : ((l.getD k trow0).mux == r.mux) with
                      | false =>
                        have e : clashM r (l.getD k trow0) = false := by rw [hM, hd1, hd2]; rfl
                        (refine stpR ?_; refine aw_region ?_; refine stpR ?_)
                        (refine aw_draw 23 ?_ ?_ ?_ ?_; (· kernel_rfl); (· kernel_rfl); (· kernel_rfl))
                        refine stp ?_
                        (conv => whnf)
                        refine lit_eq hd1 ?_
                        refine stp ?_
                        refine ⟨⟨by first | omega | (dsimp only; omega), by first | omega | (dsimp only; omega)⟩, ?_⟩
                        refine stp ?_
                        (conv => whnf)
                        refine lit_eq hd2 ?_
                        refine stp ?_
                        exact back (k + 1, nx8) ⟨by dsimp only; omega, fun j hj => by dsimp only at hj; rcases Nat.lt_or_ge j k with q | q; exact m4 j q; rw [show j = k by omega, hN, Bool.false_or]; exact e⟩ (by dsimp only; omega) (ele_tell (pm := []) _ [] rfl rfl (List.Sublist.refl _) (List.Sublist.refl _) (BxLe.refl _) trivial ⟨AVle.refl _, AVle.refl _, AVle.refl _, le_int (wrap_succ (by first | omega | (dsimp only; omega))), trivial⟩)
                      | true =>
                        (refine stpR ?_; refine aw_region ?_; refine stpR ?_)
                        (refine aw_draw 23 ?_ ?_ ?_ ?_; (· kernel_rfl); (· kernel_rfl); (· kernel_rfl))
                        refine stp ?_
                        (conv => whnf)
                        refine lit_eq hd1 ?_
                        refine stp ?_
                        refine ⟨⟨by first | omega | (dsimp only; omega), by first | omega | (dsimp only; omega)⟩, ?_⟩
                        refine stp ?_
                        (conv => whnf)
                        refine lit_eq hd2 ?_
                        refine stp ?_
                        refine ⟨⟨by first | omega | (dsimp only; omega), by first | omega | (dsimp only; omega)⟩, ?_⟩
                        refine stp ?_
                        intro c hc
                        have hc2 : c = ((l.getD k trow0).sub == r.sub) := hc
                        clear hc
                        rw [hd1, hd2, ← hc2, Bool.true_and, Bool.true_and] at hM
                        clear hc2
                        cases c
                        · have e := hM
                          refine stp ?_
                          exact back (k + 1, nx8) ⟨by dsimp only; omega, fun j hj => by dsimp only at hj; rcases Nat.lt_or_ge j k with q | q; exact m4 j q; rw [show j = k by omega, hN, Bool.false_or]; exact e⟩ (by dsimp only; omega) (ele_tell (pm := []) _ [] rfl rfl (List.Sublist.refl _) (List.Sublist.refl _) (BxLe.refl _) trivial ⟨AVle.refl _, AVle.refl _, AVle.refl _, le_int (wrap_succ (by first | omega | (dsimp only; omega))), trivial⟩)
                        · rw [clash_true hrr hk hi (by rw [hM, Bool.or_true]), if_pos rfl]
                          refine stp ?_
                          exact ret_tells rfl (AVle.refl _)
end Go.Proofs.W

namespace Go.Proofs.W
open Go.Vl
set_option maxRecDepth 100000

def right11 (l : List TRow) : Int × Int := if 400 < l.length then (0, 3) else match (List.range l.length).find? (fun i => decide (rowI l i ≠ 0)) with
  | some i => ((i : Int), rowI l i)
  | none => (0, 0)
theorem find_range {n : Nat} {p : Nat → Bool} {i : Nat} (hi : i < n) (h : ∀ j, j < i → p j = false) (hp : p i = true) : (List.range n).find? p = some i := by
  rw [List.find?_range_eq_some]
  exact ⟨hp, List.mem_range.2 hi, fun j hj => by rw [h j hj]; rfl⟩
theorem find_range0 {n : Nat} {p : Nat → Bool} (h : ∀ j, j < n → p j = false) : (List.range n).find? p = none := by
  rw [List.find?_eq_none]
  intro x hx
  rw [h x (List.mem_range.1 hx)]; decide
theorem ref11right_spec (l : List TRow) (hl : l.length ≤ 1000000) : Tells Tryz.prog 21 [trows l] (.tup [int (right11 l).1, int (right11 l).2]) := by
  unfold right11
  refine tells_of_aw Tryz.func21 rfl rfl fun nx => ?_
  by_cases h4 : 400 < l.length
  · rw [if_pos h4]
    refine stp ?_
    intro c hc
    obtain rfl : c = true := hc.trans (decide_eq_true (by omega))
    refine stp ?_
    exact ret_tells rfl (AVle.refl _)
  · rw [if_neg h4]
    refine stp ?_
    intro c hc
    obtain rfl : c = false := hc.trans (decide_eq_false (by omega))
    refine stp ?_
    refine aw_loop (fun y : Nat × Nat => mk 22 [(0, trows l), (4, int y.1)] ⟨[], [], y.2, 0⟩) (fun y => y.1 ≤ l.length ∧ ∀ j, j < y.1 → rowI l j = 0) (fun y => l.length - y.1) ?_ ?_
    · exact ⟨(0, nx), ⟨Nat.zero_le _, fun j hj => absurd hj (Nat.not_lt_zero _)⟩, ele_mk rfl rfl ⟨AVle.refl _, AVle.refl _, trivial⟩⟩
    · rintro ⟨i, nx2⟩ ⟨h1, h2⟩
      dsimp only at h1 h2
      refine stp ?_
      intro c g; cases c
      · have g := not_of g
        try dsimp only at g
        have hi : i = l.length := by omega
        subst hi
        rw [find_range0 (fun j hj => decide_eq_false (fun q => q (h2 j hj)))]
        refine stp ?_
        exact ret_tells rfl (AVle.refl _)
      · have g := yes_of g
        try dsimp only at g
        have hi : i < l.length := by omega
        have hrow := ref11row_spec l i hi hl
        refine stp ?_
        refine aop_tells rfl rfl hrow ⟨AVle.refl _, AVle.refl _, trivial⟩ fun nx3 => ?_
        refine stp ?_
        intro c hc
        have hc2 : c = decide (rowI l i ≠ 0) := hc.trans (by rw [Bool.eq_iff_iff]; simp)
        clear hc
        cases c
        · have e : rowI l i = 0 := by have := of_decide_eq_false hc2.symm; omega
          clear hc2
          refine stp ?_
          exact back (i + 1, nx3) ⟨hi, fun j hj => by dsimp only at hj; rcases Nat.lt_or_ge j i with q | q; exact h2 j q; rw [show j = i by omega]; exact e⟩ (by dsimp only; omega) (ele_mk rfl rfl ⟨AVle.refl _, le_int (wrap_succ (by first | omega | (dsimp only; omega))), trivial⟩)
        · have e : (List.range l.length).find? (fun i => decide (rowI l i ≠ 0)) = some i := find_range hi (fun j hj => decide_eq_false (fun q => q (h2 j hj))) hc2.symm
          clear hc2
          rw [e]
          refine stp ?_
          exact ret_tells rfl (AVle.refl _)
end Go.Proofs.W

namespace Go.Proofs.W
open Go.Vl
set_option maxRecDepth 100000

/-- What was seen of the rows so far. -/
def SeenOf (l : List TRow) (k : Nat) (S : Seen) : Prop := (∀ (a : Nat) (n : Int), a < 5 → (((a : Int), n) ∈ S ↔ n ≠ -1 ∧ ∃ j, j < k ∧ (l.getD j trow0).num a = n)) ∧ (∀ m s : Int, m = 1 ∨ m = 2 → ((5 + m, s) ∈ S ↔ ∃ j, j < k ∧ (l.getD j trow0).mux = m ∧ (l.getD j trow0).sub = s))
theorem numsR_none {r : TRow} {S : Seen} : ∀ {k : Nat}, numsR r S k = none → ∃ a, a < k ∧ r.num a ≠ -1 ∧ ((a : Int), r.num a) ∈ S
  | 0, h => by unfold numsR at h; cases h
  | k + 1, h => by
    unfold numsR at h
    cases hk : numsR r S k with
    | none => obtain ⟨a, h1, h2⟩ := numsR_none hk; exact ⟨a, by omega, h2⟩
    | some S' =>
      rw [hk] at h
      dsimp only at h
      split at h
      · cases h
      · rename_i hn
        split at h
        · rename_i hm
          refine ⟨k, Nat.lt_succ_self _, hn, ?_⟩
          have : ∀ {m : Nat} {S' : Seen}, numsR r S m = some S' → ∀ x ∈ S', x ∈ S ∨ ∃ a, a < m ∧ x = ((a : Int), r.num a) := by
            intro m
            induction m with
            | zero => intro S' h x hx; unfold numsR at h; cases h; exact .inl hx
            | succ m ih =>
              intro S' h x hx
              unfold numsR at h
              cases hm : numsR r S m with
              | none => rw [hm] at h; cases h
              | some S1 =>
                rw [hm] at h
                dsimp only at h
                split at h
                · cases h
                  rcases ih hm x hx with q | ⟨a, q1, q2⟩
                  · exact .inl q
                  · exact .inr ⟨a, by omega, q2⟩
                · split at h
                  · cases h
                  · cases h
                    rcases List.mem_append.1 hx with hx | hx
                    · rcases ih hm x hx with q | ⟨a, q1, q2⟩
                      · exact .inl q
                      · exact .inr ⟨a, by omega, q2⟩
                    · exact .inr ⟨m, Nat.lt_succ_self _, List.mem_singleton.1 hx⟩
          rcases this hk _ hm with q | ⟨a, q1, q2⟩
          · exact q
          · have := congrArg Prod.fst q2
            dsimp only at this
            omega
        · cases h
theorem numsR_some {r : TRow} {S : Seen} : ∀ {k : Nat} {S' : Seen}, numsR r S k = some S' → (∀ x, x ∈ S' ↔ x ∈ S ∨ ∃ a, a < k ∧ r.num a ≠ -1 ∧ x = ((a : Int), r.num a)) ∧ ∀ a, a < k → r.num a ≠ -1 → ¬ ((a : Int), r.num a) ∈ S
  | 0, S', h => by
    unfold numsR at h; cases h
    exact ⟨fun x => ⟨.inl, fun q => by rcases q with q | ⟨a, q, _⟩; exact q; omega⟩, fun a ha => by omega⟩
  | k + 1, S', h => by
    unfold numsR at h
    cases hk : numsR r S k with
    | none => rw [hk] at h; cases h
    | some S1 =>
      rw [hk] at h
      dsimp only at h
      obtain ⟨i1, i2⟩ := numsR_some hk
      split at h
      · rename_i hn
        cases h
        refine ⟨fun x => (i1 x).trans ⟨fun q => ?_, fun q => ?_⟩, fun a ha hna => ?_⟩
        · rcases q with q | ⟨a, q1, q2⟩
          · exact .inl q
          · exact .inr ⟨a, by omega, q2⟩
        · rcases q with q | ⟨a, q1, q2⟩
          · exact .inl q
          · rcases Nat.lt_or_ge a k with w | w
            · exact .inr ⟨a, w, q2⟩
            · rw [show a = k by omega] at q2; exact absurd hn q2.1
        · rcases Nat.lt_or_ge a k with w | w
          · exact i2 a w hna
          · rw [show a = k by omega] at hna; exact absurd hn hna
      · rename_i hn
        split at h
        · cases h
        · rename_i hm
          cases h
          refine ⟨fun x => ?_, fun a ha hna => ?_⟩
          · rw [List.mem_append, i1, List.mem_singleton]
            constructor
            · rintro ((q | ⟨a, q1, q2⟩) | q)
              · exact .inl q
              · exact .inr ⟨a, by omega, q2⟩
              · exact .inr ⟨k, Nat.lt_succ_self _, hn, q⟩
            · rintro (q | ⟨a, q1, q2, q3⟩)
              · exact .inl (.inl q)
              · rcases Nat.lt_or_ge a k with w | w
                · exact .inl (.inr ⟨a, w, q2, q3⟩)
                · rw [show a = k by omega] at q3; exact .inr q3
          · rcases Nat.lt_or_ge a k with w | w
            · exact i2 a w hna
            · rw [show a = k by omega]
              exact fun q => hm ((i1 _).2 (.inl q))
theorem clash_iff {l : List TRow} {i : Nat} (hi : i < l.length) : clashB l i = true ↔ ∃ j, j < i ∧ ((∃ a, a < 5 ∧ 0 ≤ (l.getD i trow0).num a ∧ (l.getD j trow0).num a = (l.getD i trow0).num a) ∨ (0 < (l.getD i trow0).mux ∧ (l.getD j trow0).mux = (l.getD i trow0).mux ∧ (l.getD j trow0).sub = (l.getD i trow0).sub)) := by
  constructor
  · intro h
    unfold clashB at h
    rw [List.any_eq_true] at h
    obtain ⟨s, hs, h⟩ := h
    obtain ⟨j, hj, rfl⟩ := List.mem_iff_getElem.1 hs
    rw [List.length_take] at hj
    rw [List.getElem_take] at h
    have hg : l.getD j trow0 = l[j] := by simp [List.getD, show j < l.length by omega]
    refine ⟨j, by omega, ?_⟩
    rw [hg]
    rw [Bool.or_eq_true] at h
    rcases h with h | h
    · left
      unfold clashN at h
      rw [List.any_eq_true] at h
      obtain ⟨a, ha, h⟩ := h
      rw [Bool.and_eq_true, decide_eq_true_iff, decide_eq_true_iff] at h
      exact ⟨a, by simp at ha; omega, h⟩
    · right
      unfold clashM at h
      rw [Bool.and_eq_true, Bool.and_eq_true, decide_eq_true_iff, decide_eq_true_iff, decide_eq_true_iff] at h
      exact h
  · rintro ⟨j, hj, h⟩
    refine clash_true rfl hj hi ?_
    rw [Bool.or_eq_true]
    rcases h with ⟨a, ha, h1, h2⟩ | ⟨h1, h2, h3⟩
    · exact .inl (clashN_true ha (by unfold cN; rw [decide_eq_true h1, decide_eq_true h2]; rfl))
    · exact .inr (by unfold clashM; rw [decide_eq_true h1, decide_eq_true h2, decide_eq_true h3]; rfl)
theorem bad_num {r : TRow} (h : badR r = false) {a : Nat} (ha : a < 5) : -1 ≤ r.num a := by
  have : badN (r.num a) = false := by
    cases hq : badN (r.num a) with
    | false => rfl
    | true => rw [bad_some ha hq.symm] at h; cases h
  unfold badN at this
  rw [Bool.or_eq_false_iff, decide_eq_false_iff_not] at this
  omega
theorem row_iff {l : List TRow} {i : Nat} {S : Seen} (hi : i < l.length) (hS : SeenOf l i S) : (rowI l i = 0 → ∃ S', rowE l i S = .ok S' ∧ SeenOf l (i + 1) S') ∧ (rowI l i ≠ 0 → ∃ e, rowE l i S = .error e ∧ e ≠ 0) := by
  obtain ⟨s1, s2⟩ := hS
  cases hn : nameB (l.getD i trow0).name.data.toList with
  | false => rw [rowI_13 hn]; exact ⟨(fun h => by cases h), fun _ => ⟨13, rowE_13 hn, by decide⟩⟩
  | true =>
    rw [rowI_ord hn]
    cases ho : ordB l i with
    | true => rw [if_pos rfl]; exact ⟨(fun h => by cases h), fun _ => ⟨15, rowE_15 hn ho, by decide⟩⟩
    | false =>
      rw [if_neg (by decide)]
      cases hb : badR (l.getD i trow0) with
      | true =>
        rw [if_pos rfl]
        exact ⟨(fun h => by cases h), fun _ => ⟨16, rowE_16 hn ho (by rw [ranged_eq, hb]; rfl), by decide⟩⟩
      | false =>
        rw [if_neg (by decide)]
        cases hm : muxBad (l.getD i trow0) with
        | true =>
          rw [if_pos rfl]
          exact ⟨(fun h => by cases h), fun _ => ⟨16, rowE_16 hn ho (by rw [ranged_eq, hb, hm]; rfl), by decide⟩⟩
        | false =>
          rw [if_neg (by decide)]
          have hrg : rangedR (l.getD i trow0) = true := by rw [ranged_eq, hb, hm]; rfl
          cases ha : a2Bad (l.getD i trow0) with
          | true =>
            rw [if_pos rfl]
            have ha' : (l.getD i trow0).a2 = 102 ∨ (l.getD i trow0).a2 = 117 := by unfold a2Bad at ha; simpa using ha
            exact ⟨(fun h => by cases h), fun _ => ⟨17, rowE_17 hn ho hrg ha', by decide⟩⟩
          | false =>
            rw [if_neg (by decide)]
            have ha' : ¬ ((l.getD i trow0).a2 = 102 ∨ (l.getD i trow0).a2 = 117) := fun q => by
              unfold a2Bad at ha
              rcases q with q | q
              · rw [decide_eq_true q] at ha; cases ha
              · rw [decide_eq_true q, Bool.or_true] at ha; cases ha
            rw [rowE_rest hn ho hrg ha']
            cases hns : numsR (l.getD i trow0) S 5 with
            | none =>
              obtain ⟨a, h1, h2, h3⟩ := numsR_none hns
              obtain ⟨_, j, hj, h4⟩ := (s1 a _ h1).1 h3
              have hc : clashB l i = true := (clash_iff hi).2 ⟨j, hj, .inl ⟨a, h1, by have := bad_num hb h1; omega, h4⟩⟩
              rw [hc, if_pos rfl]
              exact ⟨(fun h => by cases h), fun _ => ⟨15, rfl, by decide⟩⟩
            | some S1 =>
              obtain ⟨i1, i2⟩ := numsR_some hns
              dsimp only
              have hnoN : ∀ j, j < i → ∀ a, a < 5 → 0 ≤ (l.getD i trow0).num a → (l.getD j trow0).num a ≠ (l.getD i trow0).num a := fun j hj a h1 h2 h3 => i2 a h1 (by omega) ((s1 a _ h1).2 ⟨by omega, j, hj, h3⟩)
              have hS1 : ∀ (a : Nat) (n : Int), a < 5 → (((a : Int), n) ∈ S1 ↔ n ≠ -1 ∧ ∃ j, j < i + 1 ∧ (l.getD j trow0).num a = n) := fun a n h5 => by
                rw [i1, s1 a n h5]
                constructor
                · rintro (⟨q1, j, q2, q3⟩ | ⟨b, q1, q2, q3⟩)
                  · exact ⟨q1, j, by omega, q3⟩
                  · have e1 : a = b := by have := congrArg Prod.fst q3; dsimp only at this; omega
                    have e2 : n = (l.getD i trow0).num b := congrArg Prod.snd q3
                    subst e1
                    exact ⟨by rw [e2]; exact q2, i, Nat.lt_succ_self _, e2.symm⟩
                · rintro ⟨q1, j, q2, q3⟩
                  rcases Nat.lt_or_ge j i with w | w
                  · exact .inl ⟨q1, j, w, q3⟩
                  · have e : j = i := by omega
                    subst e
                    exact .inr ⟨a, h5, by rw [q3]; exact q1, by rw [q3]⟩
              unfold muxR
              by_cases hm0 : (l.getD i trow0).mux = 0
              · rw [if_pos hm0]
                have hc : clashB l i = false := by
                  rw [Bool.eq_false_iff, Ne, clash_iff hi]
                  rintro ⟨j, hj, ⟨a, h1, h2, h3⟩ | ⟨h1, _⟩⟩
                  · exact hnoN j hj a h1 h2 h3
                  · omega
                rw [hc, if_neg (by decide)]
                refine ⟨fun _ => ⟨S1, rfl, hS1, fun m s hms => ?_⟩, fun h => absurd rfl h⟩
                rw [i1, s2 m s hms]
                constructor
                · rintro (⟨j, q2, q3⟩ | ⟨b, q1, q2, q3⟩)
                  · exact ⟨j, by omega, q3⟩
                  · have := congrArg Prod.fst q3; dsimp only at this; omega
                · rintro ⟨j, q2, q3, q4⟩
                  rcases Nat.lt_or_ge j i with w | w
                  · exact .inl ⟨j, w, q3, q4⟩
                  · have e : j = i := by omega
                    subst e; omega
              · rw [if_neg hm0]
                have hm12 := ranged_mux hrg hm0
                by_cases hin : (5 + (l.getD i trow0).mux, (l.getD i trow0).sub) ∈ S1
                · rw [if_pos hin]
                  have hinS : (5 + (l.getD i trow0).mux, (l.getD i trow0).sub) ∈ S := by
                    rcases (i1 _).1 hin with q | ⟨b, q1, q2, q3⟩
                    · exact q
                    · have := congrArg Prod.fst q3; dsimp only at this; omega
                  obtain ⟨j, hj, q1, q2⟩ := (s2 _ _ hm12).1 hinS
                  have hc : clashB l i = true := (clash_iff hi).2 ⟨j, hj, .inr ⟨by omega, q1, q2⟩⟩
                  rw [hc, if_pos rfl]
                  exact ⟨(fun h => by cases h), fun _ => ⟨15, rfl, by decide⟩⟩
                · rw [if_neg hin]
                  have hc : clashB l i = false := by
                    rw [Bool.eq_false_iff, Ne, clash_iff hi]
                    rintro ⟨j, hj, ⟨a, h1, h2, h3⟩ | ⟨h1, h2, h3⟩⟩
                    · exact hnoN j hj a h1 h2 h3
                    · exact hin ((i1 _).2 (.inl ((s2 _ _ hm12).2 ⟨j, hj, h2, h3⟩)))
                  rw [hc, if_neg (by decide)]
                  refine ⟨fun _ => ⟨_, rfl, fun a n h5 => ?_, fun m s hms => ?_⟩, fun h => absurd rfl h⟩
                  · rw [List.mem_append, hS1 a n h5, List.mem_singleton]
                    constructor
                    · rintro (q | q)
                      · exact q
                      · have := congrArg Prod.fst q; dsimp only at this; omega
                    · exact .inl
                  · rw [List.mem_append, i1, s2 m s hms, List.mem_singleton]
                    constructor
                    · rintro ((⟨j, q2, q3⟩ | ⟨b, q1, q2, q3⟩) | q)
                      · exact ⟨j, by omega, q3⟩
                      · have := congrArg Prod.fst q3; dsimp only at this; omega
                      · have e1 := congrArg Prod.fst q
                        have e2 := congrArg Prod.snd q
                        dsimp only at e1 e2
                        exact ⟨i, Nat.lt_succ_self _, by omega, e2.symm⟩
                    · rintro ⟨j, q2, q3, q4⟩
                      rcases Nat.lt_or_ge j i with w | w
                      · exact .inl (.inl ⟨j, w, q3, q4⟩)
                      · have e : j = i := by omega
                        subst e
                        exact .inr (by rw [q3, q4])
theorem rowsS_ok {l : List TRow} : ∀ {k : Nat}, k ≤ l.length → (∀ j, j < k → rowI l j = 0) → ∃ S, rowsS l k = .ok S ∧ SeenOf l k S
  | 0, _, _ => ⟨[], rfl, fun a n _ => by simp, fun m s _ => by simp⟩
  | k + 1, hk, h => by
    obtain ⟨S, h1, h2⟩ := rowsS_ok (k := k) (by omega) fun j hj => h j (by omega)
    obtain ⟨S', h3, h4⟩ := (row_iff (by omega) h2).1 (h k (by omega))
    exact ⟨S', rows_next h1 h3, h4⟩
theorem first_bad {l : List TRow} : (∀ j, j < l.length → rowI l j = 0) ∨ ∃ i, i < l.length ∧ rowI l i ≠ 0 ∧ ∀ j, j < i → rowI l j = 0 := by
  have : ∀ n, n ≤ l.length → (∀ j, j < n → rowI l j = 0) ∨ ∃ i, i < l.length ∧ rowI l i ≠ 0 ∧ ∀ j, j < i → rowI l j = 0 := by
    intro n
    induction n with
    | zero => exact fun _ => .inl fun j hj => absurd hj (Nat.not_lt_zero j)
    | succ n ih =>
      intro hn
      rcases ih (by omega) with h | h
      · by_cases q : rowI l n = 0
        · exact .inl fun j hj => by rcases Nat.lt_or_ge j n with w | w; exact h j w; rw [show j = n by omega]; exact q
        · exact .inr ⟨n, by omega, q, h⟩
      · exact .inr h
  exact this _ (Nat.le_refl _)
theorem tab_right (l : List TRow) : (tabR l).2 = 0 ↔ (right11 l).2 = 0 := by
  by_cases h4 : 400 < l.length
  · unfold tabR right11
    rw [if_pos h4, if_pos h4]
  · rcases first_bad (l := l) with h | ⟨i, hi, h1, h2⟩
    · obtain ⟨S, hS, -⟩ := rowsS_ok (Nat.le_refl _) h
      rw [tab_ok h4 hS]
      unfold right11
      rw [if_neg h4, find_range0 (fun j hj => decide_eq_false (fun q => q (h j hj)))]
    · obtain ⟨S, hS, hs⟩ := rowsS_ok (k := i) (by omega) h2
      obtain ⟨e, he, hne⟩ := (row_iff hi hs).2 h1
      rw [tab_err h4 hi hS he]
      unfold right11
      rw [if_neg h4, find_range (p := fun i => decide (rowI l i ≠ 0)) hi (fun j hj => decide_eq_false (fun q => q (h2 j hj))) (decide_eq_true h1)]
      exact ⟨fun q => absurd q hne, fun q => absurd q h1⟩
theorem right_rows {l : List TRow} (h : (tabR l).2 = 0) : l.length ≤ 400 ∧ ∀ j, j < l.length → rowI l j = 0 := by
  rw [tab_right] at h
  unfold right11 at h
  by_cases h4 : 400 < l.length
  · rw [if_pos h4] at h; cases h
  · rcases first_bad (l := l) with q | ⟨i, hi, h1, h2⟩
    · exact ⟨by omega, q⟩
    · rw [if_neg h4, find_range (p := fun i => decide (rowI l i ≠ 0)) hi (fun j hj => decide_eq_false (fun q => q (h2 j hj))) (decide_eq_true h1)] at h
      exact absurd h h1
theorem row_good {l : List TRow} {i : Nat} (h : rowI l i = 0) : nameB (l.getD i trow0).name.data.toList = true ∧ ordB l i = false ∧ badR (l.getD i trow0) = false ∧ muxBad (l.getD i trow0) = false ∧ a2Bad (l.getD i trow0) = false ∧ clashB l i = false := by
  cases hn : nameB (l.getD i trow0).name.data.toList with
  | false => rw [rowI_13 hn] at h; cases h
  | true =>
    rw [rowI_ord hn] at h
    split at h
    · cases h
    split at h
    · cases h
    split at h
    · cases h
    split at h
    · cases h
    split at h
    · cases h
    simp_all
theorem tab_name {l : List TRow} (h : (tabR l).2 = 0) {i : Nat} (hi : i < l.length) : (l.getD i trow0).name.size ≠ 0 := by
  have := (row_good ((right_rows h).2 i hi)).1
  have := ((nameB_ref _).1 this).1
  exact this
end Go.Proofs.W

namespace Go.Proofs.W
open Go.Vl
set_option maxRecDepth 100000

def nameR (l : List TRow) (r : Rec) : ByteArray := (ofI l r).name
def ownN (l : List TRow) (s : ByteArray) (rs : List Rec) : List Rec := rs.filter fun r => kS s (nameR l r)
def xarg (l : List TRow) (r : Rec) (k : Nat) : Nat := argI (ofI l r).abi.toNat r k
def OwnOk (l : List TRow) (rs : List Rec) (g : Gat) : Prop := ∃ r0 rest, ownN l g.name rs = r0 :: rest ∧ g.m = rest.length + 1 ∧ (∀ k, g.a k = xarg l r0 k) ∧ ∀ k, g.b k = rest.all fun r => decide (xarg l r0 k = xarg l r k)
structure GInv (l : List TRow) (rs : List Rec) (S : List Gat × Bool) : Prop where
  nd : (S.1.map Gat.name).Nodup
  nz : ∀ g ∈ S.1, g.name.size ≠ 0
  own : ∀ g ∈ S.1, OwnOk l rs g
  all : ∀ r ∈ rs, (nameR l r).size ≠ 0 → ∃ g ∈ S.1, g.name = nameR l r
  x : S.2 = rs.any fun r => decide ((nameR l r).size ≠ 0) && decide ((ofI l r).abi = 1)
end Go.Proofs.W

namespace Go.Proofs.W
open Go.Vl
set_option maxRecDepth 100000

theorem atO_lt {l : List TRow} {r : Rec} {i : Nat} (h : atO l r = some i) : i < l.length := by
  unfold atO at h
  cases hs : selO r.arch r.num with
  | none => rw [hs] at h; cases h
  | some a =>
    rw [hs] at h
    dsimp only at h
    split at h <;> exact idx_lt h
end Go.Proofs.W

namespace Go.Proofs.W
open Go.Vl
set_option maxRecDepth 100000

def actionP (p : Pol) (l : List TRow) (r : Rec) : A2 := if (!(ofI l r).some || (decide ((ofI l r).abi = 1) && !p.x32)) = true then (1, 0) else if (ofI l r).name.size = 0 then p.dflt else if (ofI l r).muxed = true then blindP p (ofI l r).name else decP p (ofI l r).name (argI (ofI l r).abi.toNat r)
def polOk (p : Pol) : Prop := p.rules.length ≤ 1000000 ∧ ∀ r ∈ p.rules, r.conds.length ≤ 1000000 ∧ ∀ c ∈ r.conds, c.ok
theorem argI_lt {r : Rec} (h : r.ok) (a k : Nat) : argI a r k < 18446744073709551616 := by
  have := arg_lt h k
  unfold argI; split <;> omega
set_option maxHeartbeats 4000000 in
theorem action_law (p : Pol) (l : List TRow) (r : Rec) (hp : polOk p) (hl : l.length ≤ 1000000) (hr : r.ok) : Tells Tryz.prog 53 [polA p, trows l, recA r] (actP (actionP p l r)) := by
  have hof := muxof_spec l r hr (by omega)
  have hab := ofI_abi (l := l) (r := r)
  have hbl := blind_spec p (ofI l r).name hp.1
  have hdc := decide_spec p (ofI l r).name (argI (ofI l r).abi.toNat r) hp.1 (fun q hq => let_spec _ (argI_lt hr _) q (by have := (hp.2 q hq).1; omega) (hp.2 q hq).2)
  unfold actionP
  generalize ofI l r = c at hof hab hbl hdc
  obtain ⟨sm, ab, nm, mx⟩ := c
  dsimp only at hab hbl hdc
  generalize blindP p nm = bl at hbl
  generalize decP p nm (argI ab.toNat r) = dc at hdc
  obtain ⟨⟨k, n⟩, x32, rs⟩ := p
  dsimp only
  generalize hA : (if (!sm || (decide (ab = 1) && !x32)) = true then ((1, 0) : A2) else if nm.size = 0 then (k, n) else if mx = true then bl else dc) = A
  obtain ⟨b1, b2⟩ := bl
  obtain ⟨d1, d2⟩ := dc
  refine tells_of_aw Tryz.func53 rfl rfl fun nx => ?_
  refine stp ?_
  refine splitO_eq (b := recA r) rfl ?_
  refine stp ?_
  refine aop_tells rfl rfl hof ⟨AVle.refl _, AVle.refl _, trivial⟩ fun nx2 => ?_
  cases sm with
  | false =>
    rw [if_pos (by rfl)] at hA
    refine stp ?_
    exact ret_tells_all rfl ⟨rfl, trivial⟩ (AVle.of_eq (by rw [← hA]; rfl))
  | true =>
    refine stpR ?_
    refine aw_mid (fun y : Nat => mk 47 [(3, .bp (0, nx) 0), (5, .bp (1, nx + 1) 0), (6, .bp (2, nx + 2) 0), (7, .bp (3, nx2) 0), (1, trows l), (11, boolA (decide (ab = 1) && !x32))] ⟨[((3, nx2), .c [boolA true, int ab, strA nm, boolA mx]), ((2, nx + 2), .c [int 0, int 0]), ((1, nx + 1), .c (recC r)), ((0, nx), .c [int k, int n, boolA x32, ruls rs])], [], y, 4⟩) (fun _ => True) ?_ ?_
    · refine aw_region ?_
      refine stp ?_
      intro c hc
      have hc2 : c = decide (ab = 1) := hc.trans (by rw [Bool.eq_iff_iff]; simp)
      clear hc
      cases c
      · refine stp ?_
        exact ⟨nx2 + 1, trivial, ele_tell (pm := []) (bx := [((3, nx2), .c [boolA true, int ab, strA nm, boolA mx]), ((2, nx + 2), .c [int 0, int 0]), ((1, nx + 1), .c (recC r)), ((0, nx), .c [int k, int n, boolA x32, ruls rs])]) _ _ rfl rfl (List.Sublist.refl _) (List.Sublist.refl _) (BxLe.refl _) trivial ⟨AVle.refl _, AVle.refl _, AVle.refl _, AVle.refl _, AVle.refl _, AVle.of_eq (by rw [← hc2]; rfl), trivial⟩⟩
      · cases x32
        · refine stp ?_
          exact ⟨nx2 + 1, trivial, ele_tell (pm := []) (bx := [((3, nx2), .c [boolA true, int ab, strA nm, boolA mx]), ((2, nx + 2), .c [int 0, int 0]), ((1, nx + 1), .c (recC r)), ((0, nx), .c [int k, int n, boolA false, ruls rs])]) _ _ rfl rfl (List.Sublist.refl _) (List.Sublist.refl _) (BxLe.refl _) trivial ⟨AVle.refl _, AVle.refl _, AVle.refl _, AVle.refl _, AVle.refl _, AVle.of_eq (by rw [← hc2]; rfl), trivial⟩⟩
        · refine stp ?_
          exact ⟨nx2 + 1, trivial, ele_tell (pm := []) (bx := [((3, nx2), .c [boolA true, int ab, strA nm, boolA mx]), ((2, nx + 2), .c [int 0, int 0]), ((1, nx + 1), .c (recC r)), ((0, nx), .c [int k, int n, boolA true, ruls rs])]) _ _ rfl rfl (List.Sublist.refl _) (List.Sublist.refl _) (BxLe.refl _) trivial ⟨AVle.refl _, AVle.refl _, AVle.refl _, AVle.refl _, AVle.refl _, AVle.of_eq (by rw [← hc2]; rfl), trivial⟩⟩
    · rintro nx3 -
      generalize hb : (decide (ab = 1) && !x32) = bb at hA
      cases bb with
      | true =>
        rw [if_pos (by rfl)] at hA
        refine stp ?_
        exact ret_tells_all rfl ⟨rfl, trivial⟩ (AVle.of_eq (by rw [← hA]; rfl))
      | false =>
        rw [if_neg (by decide)] at hA
        refine stp ?_
        intro c hc
        have hc2 : c = decide (nm.size = 0) := hc.trans size0
        clear hc
        cases c
        · have h0 : ¬ nm.size = 0 := of_decide_eq_false hc2.symm
          rw [if_neg h0] at hA
          obtain ⟨ha5, hab2⟩ := hab h0
          have har := abiargs_spec ab.toNat ha5 r hr
          rw [← hab2] at har
          cases mx with
          | true =>
            rw [if_pos rfl] at hA
            refine stp ?_
            refine splitO_eq (b := strA nm) rfl ?_
            refine stp ?_
            refine aop_tells rfl rfl hbl ⟨AVle.refl _, AVle.refl _, trivial⟩ fun nx4 => ?_
            refine stp ?_
            exact ret_tells_all rfl ⟨rfl, trivial⟩ (AVle.of_eq (by rw [← hA]; rfl))
          | false =>
            rw [if_neg (by decide)] at hA
            refine stp ?_
            refine aw_mixN 8 _ (fun _ => false) (fun i => match i with | 6 => true | 7 => true | _ => false) [0, 1, 2, 3, 4, 5, 6, 7] (by kernel_rfl) (by kernel_rfl) (HB.refl _) ?_
            refine stp ?_
            refine ⟨_, pure_tells rfl rfl rfl har ⟨AVle.refl _, AVle.refl _, trivial⟩ noid_arr, ?_⟩
            refine stp ?_
            refine ⟨_, pure_tells rfl rfl rfl hdc ⟨AVle.refl _, AVle.refl _, AVle.refl _, trivial⟩ (NoId.ag (by intro y hy; simp at hy; rcases hy with rfl | rfl <;> exact NoId.v _)), ?_⟩
            refine stp ?_
            exact ret_tells_all rfl ⟨rfl, trivial⟩ (AVle.of_eq (by rw [← hA]; rfl))
        · have h0 : nm.size = 0 := of_decide_eq_true hc2.symm
          rw [if_pos h0] at hA
          refine stp ?_
          exact ret_tells_all rfl ⟨rfl, trivial⟩ (AVle.of_eq (by rw [← hA]; rfl))
def codeA (a : A2) : Nat := kb (a.1.toNat - 1) + a.2.toNat
theorem right_parts {k n : Int} (h : right9 k n = true) : ∃ k' n' : Nat, k = (k' + 1 : Nat) ∧ n = (n' : Nat) ∧ k' < 8 ∧ n' ≤ km k' := by
  unfold right9 at h
  simp only [Bool.and_eq_true, decide_eq_true_eq] at h
  obtain ⟨⟨⟨h1, h2⟩, h3⟩, h4⟩ := h
  refine ⟨(k - 1).toNat, n.toNat, by omega, by omega, by omega, ?_⟩
  unfold most9 at h4
  unfold km
  split at h4
  · rw [if_pos (by omega)]; omega
  · split at h4
    · rw [if_neg (by omega), if_pos (by omega)]; omega
    · rw [if_neg (by omega), if_neg (by omega)]; omega
theorem code_of (a : A2) (h : right9 a.1 a.2 = true) : Tells Tryz.prog 52 [actP a] (.tup [u32 (codeA a : Nat), int 0]) := by
  obtain ⟨k, n⟩ := a
  obtain ⟨k', n', rfl, rfl, h1, h2⟩ := right_parts h
  have := code_spec9 k' n' h1 h2
  unfold codeA
  dsimp only
  rw [show ((k' + 1 : Nat) : Int).toNat - 1 = k' by omega, show ((n' : Nat) : Int).toNat = n' by omega]
  exact this
theorem codeA_lt {a : A2} (h : right9 a.1 a.2 = true) : codeA a < 4294967296 := by
  obtain ⟨k, n⟩ := a
  obtain ⟨k', n', rfl, rfl, h1, h2⟩ := right_parts h
  have := kb_le h1
  unfold codeA
  dsimp only
  rw [show ((k' + 1 : Nat) : Int).toNat - 1 = k' by omega, show ((n' : Nat) : Int).toNat = n' by omega]
  omega
theorem rights {p : Pol} (h : rightP p = true) : right9 p.dflt.1 p.dflt.2 = true ∧ ∀ r ∈ p.rules, rightR r = true := by
  unfold rightP at h
  simp only [Bool.and_eq_true, decide_eq_true_eq, Bool.not_eq_true', List.any_eq_false, Bool.not_eq_false'] at h
  refine ⟨h.1, fun r hr => ?_⟩
  have := h.2.2 r hr
  simpa using this
theorem rule_right {r : Rul} (h : rightR r = true) : right9 r.act.1 r.act.2 = true := by
  unfold rightR at h
  simp only [Bool.and_eq_true] at h
  exact h.2.1
theorem blind_right {p : Pol} (h : rightP p = true) (nm : ByteArray) : right9 (blindP p nm).1 (blindP p nm).2 = true := by
  obtain ⟨h1, h2⟩ := rights h
  unfold blindP
  cases hf : p.rules.find? (fun r => kS r.name nm) with
  | none => exact h1
  | some r =>
    dsimp only
    split
    · exact rule_right (h2 r (List.mem_of_find?_eq_some hf))
    · exact h1
theorem dec_right {p : Pol} (h : rightP p = true) (nm : ByteArray) (x : Nat → Nat) : right9 (decP p nm x).1 (decP p nm x).2 = true := by
  obtain ⟨h1, h2⟩ := rights h
  unfold decP
  cases hf : p.rules.find? (fun r => kS r.name nm && letB x r) with
  | none => exact h1
  | some r => exact rule_right (h2 r (List.mem_of_find?_eq_some hf))
theorem action_right {p : Pol} (h : rightP p = true) (l : List TRow) (r : Rec) : right9 (actionP p l r).1 (actionP p l r).2 = true := by
  unfold actionP
  split
  · decide
  · split
    · exact (rights h).1
    · split
      · exact blind_right h _
      · exact dec_right h _ _
def judgeR (p : Pol) (l : List TRow) (r : Rec) : Nat × Int := if rightP p = false then (0, 13) else if (tabR l).2 ≠ 0 then (0, 18) else (codeA (actionP p l r), 0)
set_option maxHeartbeats 2000000 in
theorem judge_law (p : Pol) (l : List TRow) (r : Rec) (hp : polOk p) (hpk : p.ok) (hl : l.length ≤ 1000000) (hn : ∀ q ∈ l, q.name.size ≤ maxLen) (hr : r.ok) : Tells Tryz.prog 18 [polA p, trows l, recA r] (.tup [u32 ((judgeR p l r).1 : Nat), int (judgeR p l r).2]) := by
  have hrp := pright_spec p hpk
  have htb := tabright_spec l hl hn
  have hac := action_law p l r hp hl hr
  have hcd : rightP p = true → _ := fun h => code_of (actionP p l r) (action_right h l r)
  generalize hJ : judgeR p l r = J
  unfold judgeR at hJ
  generalize rightP p = b at hrp hcd hJ
  generalize tabR l = tb at htb hJ
  generalize actionP p l r = A at hac hcd hJ
  obtain ⟨a1, a2⟩ := A
  obtain ⟨⟨k, n⟩, x32, rs⟩ := p
  refine tells_of_aw Tryz.func18 rfl rfl fun nx => ?_
  refine stp ?_
  refine splitO_eq (b := polA ⟨(k, n), x32, rs⟩) rfl ?_
  refine stp ?_
  refine aop_tells rfl rfl hrp ⟨AVle.refl _, trivial⟩ fun nx2 => ?_
  cases b with
  | false =>
    rw [if_pos rfl] at hJ
    subst hJ
    refine stp ?_
    exact ret_tells_all rfl trivial (AVle.refl _)
  | true =>
    rw [if_neg (by decide)] at hJ
    refine stp ?_
    refine aop_tells rfl rfl htb ⟨AVle.refl _, trivial⟩ fun nx3 => ?_
    refine stp ?_
    intro c hc
    by_cases h0 : tb.2 = 0
    · rw [if_neg (fun q => q h0)] at hJ
      subst hJ
      obtain rfl : c = false := hc.trans (bne_eq_false_iff_eq.2 h0)
      refine stp ?_
      refine splitO_eq (b := recA r) rfl ?_
      refine stp ?_
      refine aop_tells rfl rfl hac ⟨AVle.refl _, AVle.refl _, AVle.refl _, trivial⟩ fun nx4 => ?_
      refine stp ?_
      refine aop_tells rfl rfl (hcd rfl) ⟨AVle.refl _, trivial⟩ fun nx5 => ?_
      refine stp ?_
      exact ret_tells_all rfl trivial (AVle.refl _)
    · rw [if_pos h0] at hJ
      subst hJ
      obtain rfl : c = true := hc.trans (bne_iff_ne.2 h0)
      refine stp ?_
      exact ret_tells_all rfl trivial (AVle.refl _)
end Go.Proofs.W

namespace Go.Proofs.W
open Go.Vl
set_option maxRecDepth 100000

end Go.Proofs.W

namespace Go.Proofs.W
open Go.Vl
set_option maxRecDepth 100000

end Go.Proofs.W

namespace Go.Proofs
open Go.Shelf
shelf_lay Lays.n125 Nm 125 at Tryz as Tryz.lays125
end Go.Proofs
namespace Go.Proofs.W
open Go.Vl Go.Shelf
set_option maxRecDepth 100000

end Go.Proofs.W

namespace Go.Proofs.W
open Go.Vl
set_option maxRecDepth 100000

end Go.Proofs.W

namespace Go.Proofs.W
open Go.Vl
set_option maxRecDepth 100000

instance : Inhabited Cnd := ⟨cnd0⟩
end Go.Proofs.W

namespace Go.Proofs.W
open Go.Vl
set_option maxRecDepth 100000

end Go.Proofs.W

namespace Go.Proofs.W
open Go.Vl
set_option maxRecDepth 100000

end Go.Proofs.W

namespace Go.Proofs.W
open Go.Vl
set_option maxRecDepth 100000

end Go.Proofs.W
