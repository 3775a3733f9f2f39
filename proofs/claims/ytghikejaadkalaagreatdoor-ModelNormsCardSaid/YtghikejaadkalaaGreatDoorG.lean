import Derived.Test.YtghikejaadkalaaGreatDoorD
import Derived.Test.YtghikejaadkalaaGreatDoorE
import Derived.Test.YtghikejaadkalaaGreatDoorC
import Derived.Test.YtghikejaadkalaaGreatDoorF
import Derived.Shelf.Strconv.Itoa3
import Derived.Shelf.Lay
import Derived.Ground.NamesProg
import Derived.Test.YtghikejaadkalaaGreatDoorProg
import Derived.LaidSub
import Derived.MakeChecks
import Derived.Test.YtghikejaadkalaaGreatDoorRows
import Derived.OpenShut
import Derived.Deep.DeepHandedRow
import Derived.Lib.LaidTab
import Derived.ProofKit
set_option linter.unusedVariables false
set_option linter.unusedSimpArgs false
namespace Go.Proofs.W
open Go.Vl
set_option maxRecDepth 100000

theorem ownEq_trow {a b : Own} (h : a = b) : OwnLe a b := h ▸ OwnLe.refl a
theorem gr_trow : growOk Tryz.prog 106 = true := by kernel_rfl
theorem gc_trow : Tryz.prog.cellsOf 106 = 8 := by kernel_rfl
theorem gb_trow : Tryz.prog.bytesOf 106 = 72 := by kernel_rfl
theorem gl_trow (x : TRow) : (trowA x).cells.length = 8 := rfl
theorem g1_trow (x : TRow) : (trowA x).cells.all isOne = true := rfl
/-- slices.Grow of nil: a box with room. -/
theorem grow_trow (n : Nat) (h0 : 0 < n) (hn : n ≤ 100000) (nx : Nat) :
    ECall Tryz.prog 142 [.os 0 0 (fun _ => .any) none, int n] ⟨[], [], nx, 0⟩ (fun r h' => ∃ s cap nx' nn', n ≤ cap ∧ r = .hs (0, s) 0 0 cap ∧ h' = ⟨[((0, s), .c (List.replicate (cap * 8) .any))], [], nx', nn'⟩) := by
  refine ECall.wk (ecall_of_aw Tryz.func142 rfl rfl ?_)
  (repeat((conv=>whnf);first|apply ω0|apply ω1|apply ω2|refine τ3 rfl ?_|refine τ4 rfl ?_|refine ⟨rfl,?_⟩|apply τa|refine τb rfl ?_|refine ⟨⟨by kernel_rfl,by kernel_rfl⟩,?_⟩|refine ⟨by decide,?_⟩|apply τt|apply τf))
  refine aop_cap0 rfl rfl Tryz.underlying49 ?_
  (repeat((conv=>whnf);first|apply ω0|apply ω1|apply ω2|refine τ3 rfl ?_|refine τ4 rfl ?_|refine ⟨rfl,?_⟩|apply τa|refine τb rfl ?_|refine ⟨⟨by kernel_rfl,by kernel_rfl⟩,?_⟩|refine ⟨by decide,?_⟩|apply τt|apply τf))
  intro c hc
  replace hc : c = decide (IntKind.i64.wrap ((n : Int) - 0) > 0) := hc
  rw [wrap_id (by omega) (by omega), decide_eq_true (by omega)] at hc
  subst hc
  (repeat((conv=>whnf);first|apply ω0|apply ω2|refine τ3 rfl ?_|refine τ4 rfl ?_|refine ⟨rfl,?_⟩|apply τa|refine τb rfl ?_|refine ⟨⟨by kernel_rfl,by kernel_rfl⟩,?_⟩|refine ⟨by decide,?_⟩|apply τt|apply τf))
  refine aw_regionY (fun i => match i with | 7 => true | 6 => true | 4 => true | 1 => true | _ => false) 10 ?_
  (repeat((conv=>whnf);first|apply ω0|apply ω1|apply ω2|refine τ3 rfl ?_|refine τ4 rfl ?_|refine ⟨rfl,?_⟩|apply τa|refine τb rfl ?_|refine ⟨⟨by kernel_rfl,by kernel_rfl⟩,?_⟩|refine ⟨by decide,?_⟩|apply τt|apply τf))
  refine aop_cap0 rfl rfl Tryz.underlying49 ?_
  (repeat((conv=>whnf);first|apply ω0|apply ω1|apply ω2|refine τ3 rfl ?_|refine τ4 rfl ?_|refine ⟨rfl,?_⟩|apply τa|refine τb rfl ?_|refine ⟨⟨by kernel_rfl,by kernel_rfl⟩,?_⟩|refine ⟨by decide,?_⟩|apply τt|apply τf))
  refine aop_cut0 rfl rfl rfl Tryz.underlying49 Tryz.underlying106 ?_
  (repeat((conv=>whnf);first|apply ω0|apply ω1|apply ω2|refine τ3 rfl ?_|refine τ4 rfl ?_|refine ⟨rfl,?_⟩|apply τa|refine τb rfl ?_|refine ⟨⟨by kernel_rfl,by kernel_rfl⟩,?_⟩|refine ⟨by decide,?_⟩|apply τt|apply τf))
  have hw : IntKind.i64.wrap ((n : Int) - 0) = n := by rw [wrap_id (by omega) (by omega)]; omega
  refine aop_appendZB0 (m := n) (kq := .i64) (kn := .i64) (e := 106) rfl rfl (congrArg (fun z => AV.v (.int .i64 z)) hw) (by omega) Tryz.underlying3 Tryz.underlying49 gr_trow (by rw [gb_trow]; omega) (by omega) fun cap hcap => ?_
  (repeat((conv=>whnf);first|apply ω0|apply ω1|apply ω2|refine τ3 rfl ?_|refine τ4 rfl ?_|refine ⟨rfl,?_⟩|apply τa|refine τb rfl ?_|refine ⟨⟨by kernel_rfl,by kernel_rfl⟩,?_⟩|refine ⟨by decide,?_⟩|apply τt|apply τf))
  refine aop_cutB (l := 0) (k' := .i64) rfl rfl rfl Tryz.underlying49 Tryz.underlying106 (Nat.zero_le _) (by omega) ?_
  (repeat((conv=>whnf);first|apply ω0|apply ω1|apply ω2|refine τ3 rfl ?_|refine τ4 rfl ?_|refine ⟨rfl,?_⟩|apply τa|refine τb rfl ?_|refine ⟨⟨by kernel_rfl,by kernel_rfl⟩,?_⟩|refine ⟨by decide,?_⟩|apply τt|apply τf))
  exact ret_is rfl ⟨_, _, AVle.refl _, HLe.refl _, nx, cap, _, _, hcap, rfl, by rw [gc_trow]; rfl⟩
theorem grow0_trow : Tells Tryz.prog 142 [.os 0 0 (fun _ => .any) none, int (0 : Nat)] (.os 0 0 (fun _ => .any) none) := by
  refine tells_of_aw Tryz.func142 rfl rfl fun nx => ?_
  (repeat((conv=>whnf);first|apply ω0|apply ω1|apply ω2|refine τ3 rfl ?_|refine τ4 rfl ?_|refine ⟨rfl,?_⟩|apply τa|refine τb rfl ?_|refine ⟨⟨by kernel_rfl,by kernel_rfl⟩,?_⟩|refine ⟨by decide,?_⟩|apply τt|apply τf))
  refine aop_cap0 rfl rfl Tryz.underlying49 ?_
  (repeat((conv=>whnf);first|apply ω0|apply ω1|apply ω2|refine τ3 rfl ?_|refine τ4 rfl ?_|refine ⟨rfl,?_⟩|apply τa|refine τb rfl ?_|refine ⟨⟨by kernel_rfl,by kernel_rfl⟩,?_⟩|refine ⟨by decide,?_⟩|apply τt|apply τf))
  exact ret_tells rfl (AVle.refl _)
/-- Rows, one behind the other. -/
def rows2_trow (L : List (List TRow)) (oi : Option Vl.Id) : AV := .os 1 L.length (fun k => slOf 8 trowA trow0 (L.getD k [])) oi
theorem flat_trow (l : List TRow) : rowCells l.length (fun k => trowA (l.getD k trow0)) = l.flatMap fun x => (trowA x).cells := by
  have key : ∀ m, m ≤ l.length → rowCells m (fun k => trowA (l.getD k trow0)) = (l.take m).flatMap fun x => (trowA x).cells := by
    intro m
    induction m with
    | zero => intro _; rfl
    | succ m ih =>
      intro hm
      have hm' : m < l.length := by omega
      have e : rowCells (m + 1) (fun k => trowA (l.getD k trow0)) = rowCells m (fun k => trowA (l.getD k trow0)) ++ (trowA (l.getD m trow0)).cells := by unfold rowCells; rw [List.range_succ, List.flatMap_append]; simp
      rw [e, ih (by omega), List.take_add_one, List.flatMap_append]
      simp [List.getD, hm']
  rw [key _ (Nat.le_refl _), List.take_of_length_le (Nat.le_refl _)]
theorem flen_trow (l : List TRow) : (l.flatMap fun x => (trowA x).cells).length = l.length * 8 := by
  induction l with
  | nil => rfl
  | cons x l ih => rw [List.flatMap_cons, List.length_append, ih, gl_trow, List.length_cons]; omega
theorem fget_trow (l : List TRow) (k j : Nat) (hk : k < l.length) (hj : j < 8) : (l.flatMap fun x => (trowA x).cells)[k * 8 + j]? = (trowA (l.getD k trow0)).cells[j]? := by
  rw [← flat_trow]
  exact (rowCells_get (sz := 8) (fun i hi => gl_trow _)).2 k j hk hj
set_option maxHeartbeats 1000000 in
theorem concat_trow (L : List (List TRow)) (hL : L.length ≤ 1000) (hn : L.flatten.length ≤ 100000) (oi : Option Vl.Id) : Tells Tryz.prog 91 [rows2_trow L none] (slOf 8 trowA trow0 L.flatten) := by
  have hpre : ∀ i, i < L.length → (L.take (i + 1)).flatten.length = (L.take i).flatten.length + (L.getD i []).length := fun i hi => by
    rw [take_getD [] hi, List.flatten_append, List.length_append]; simp
  have hle : ∀ i, (L.take i).flatten.length ≤ L.flatten.length := fun i => by
    conv => rhs; rw [← List.take_append_drop i L, List.flatten_append, List.length_append]
    omega
  refine tells_of_aw Tryz.func91 rfl rfl fun nx => ?_
  (repeat((conv=>whnf);first|apply ω0|apply ω1|apply ω2|refine τ3 rfl ?_|refine τ4 rfl ?_|refine ⟨rfl,?_⟩|apply τa|refine τb rfl ?_|refine ⟨⟨by kernel_rfl,by kernel_rfl⟩,?_⟩|refine ⟨by decide,?_⟩|apply τt|apply τf))
  refine aw_midB (fun y : Nat => mk 36 [(0, rows2_trow L none), (3, int (L.flatten.length : Nat))] ⟨[], [], y, 0⟩) (fun _ => True) ?_ ?_
  · refine aw_loop (fun y : Nat × Nat => mk 36 [(0, rows2_trow L none), (3, int ((L.take y.1).flatten.length : Nat)), (9, rows2_trow L none), (10, int L.length), (11, int y.1)] ⟨[], [], y.2, 0⟩) (fun y => y.1 ≤ L.length) (fun y => L.length - y.1) ?_ ?_
    · exact ⟨(0, nx), Nat.zero_le _, ele_keep rfl rfl (List.Sublist.refl _) (List.Sublist.refl _) ⟨AVle.refl _, AVle.refl _, AVle.refl _, AVle.refl _, AVle.refl _, trivial⟩⟩
    · rintro ⟨i, nx1⟩ h1
      dsimp only at h1
      (repeat((conv=>whnf);first|apply ω0|apply ω1|apply ω2|refine τ3 rfl ?_|refine τ4 rfl ?_|refine ⟨rfl,?_⟩|apply τa|refine τb rfl ?_|refine ⟨⟨by kernel_rfl,by kernel_rfl⟩,?_⟩|refine ⟨by decide,?_⟩|apply τt|apply τf))
      intro c g; cases c
      · have g := not_of g
        try dsimp only at g
        obtain rfl : i = L.length := by omega
        (repeat((conv=>whnf);first|apply ω0|apply ω1|apply ω2|refine τ3 rfl ?_|refine τ4 rfl ?_|refine ⟨rfl,?_⟩|apply τa|refine τb rfl ?_|refine ⟨⟨by kernel_rfl,by kernel_rfl⟩,?_⟩|refine ⟨by decide,?_⟩|apply τt|apply τf))
        refine ⟨nx1, trivial, ele_keep rfl rfl (List.Sublist.refl _) (List.Sublist.refl _) ⟨AVle.refl _, ?_, trivial⟩⟩
        exact AVle.of_eq (congrArg (fun z : List (List TRow) => int (z.flatten.length : Nat)) List.take_length)
      · have g := yes_of g
        try dsimp only at g
        have hi : i < L.length := by omega
        have e1 := hpre i hi
        have e2 := hle (i + 1)
        (repeat((conv=>whnf);first|apply ω0|apply ω1|apply ω2|refine τ3 rfl ?_|refine τ4 rfl ?_|refine ⟨rfl,?_⟩|apply τa|refine τb rfl ?_|refine ⟨⟨by kernel_rfl,by kernel_rfl⟩,?_⟩|refine ⟨by decide,?_⟩|apply τt|apply τf))
        refine ⟨⟨by first | omega | (dsimp only; omega), by first | omega | (dsimp only; omega)⟩, ?_⟩
        have hw : IntKind.i64.wrap ((((L.take i).flatten.length : Nat) : Int) + ((L.getD i []).length : Int)) = (((L.take (i + 1)).flatten.length : Nat) : Int) := by rw [wrap_id (by omega) (by omega)]; omega
        (repeat((conv=>whnf);first|apply ω0|apply ω1|apply ω2|refine τ3 rfl ?_|refine τ4 rfl ?_|refine ⟨rfl,?_⟩|apply τa|refine τb rfl ?_|refine ⟨⟨by kernel_rfl,by kernel_rfl⟩,?_⟩|refine ⟨by decide,?_⟩|apply τt|apply τf))
        intro c hc
        replace hc : c = decide (IntKind.i64.wrap ((((L.take i).flatten.length : Nat) : Int) + ((L.getD i []).length : Int)) < 0) := hc
        rw [hw, decide_eq_false (by omega)] at hc
        subst hc
        (repeat((conv=>whnf);first|apply ω0|apply ω1|apply ω2|refine τ3 rfl ?_|refine τ4 rfl ?_|refine ⟨rfl,?_⟩|apply τa|refine τb rfl ?_|refine ⟨⟨by kernel_rfl,by kernel_rfl⟩,?_⟩|refine ⟨by decide,?_⟩|apply τt|apply τf))
        exact back (i + 1, nx1) hi (by dsimp only; omega) (ele_keep rfl rfl (List.Sublist.refl _) (List.Sublist.refl _) ⟨AVle.refl _, le_int hw, AVle.refl _, AVle.refl _, le_int (wrap_succ (by first | omega | (dsimp only; omega))), trivial⟩)
  · intro nx1 _
    rcases Nat.eq_zero_or_pos L.flatten.length with h0 | h0
    · have hemp : ∀ i, i < L.length → (L.getD i []).length = 0 := fun i hi => by
        have := hpre i hi; have := hle (i + 1); omega
      have hnil : L.flatten = [] := List.eq_nil_of_length_eq_zero h0
      rw [hnil]
      (repeat((conv=>whnf);first|apply ω0|apply ω1|apply ω2|refine τ3 rfl ?_|refine τ4 rfl ?_|refine ⟨rfl,?_⟩|apply τa|refine τb rfl ?_|refine ⟨⟨by kernel_rfl,by kernel_rfl⟩,?_⟩|refine ⟨by decide,?_⟩|apply τt|apply τf))
      refine aop_tells rfl rfl grow0_trow ⟨AVle.refl _, AVle.refl _, trivial⟩ fun nx2 => ?_
      (repeat((conv=>whnf);first|apply ω0|apply ω1|apply ω2|refine τ3 rfl ?_|refine τ4 rfl ?_|refine ⟨rfl,?_⟩|apply τa|refine τb rfl ?_|refine ⟨⟨by kernel_rfl,by kernel_rfl⟩,?_⟩|refine ⟨by decide,?_⟩|apply τt|apply τf))
      refine aw_loop (fun y : Nat × Nat => mk 36 [(6, .os 0 0 (fun _ => .any) none), (25, rows2_trow L none), (26, int L.length), (27, int y.1)] ⟨[], [], y.2, 0⟩) (fun y => y.1 ≤ L.length) (fun y => L.length - y.1) ?_ ?_
      · exact ⟨(0, nx2), Nat.zero_le _, ele_keep rfl rfl (List.Sublist.refl _) (List.Sublist.refl _) ⟨AVle.refl _, AVle.refl _, AVle.refl _, AVle.refl _, trivial⟩⟩
      · rintro ⟨i, nx3⟩ h1
        dsimp only at h1
        (repeat((conv=>whnf);first|apply ω0|apply ω1|apply ω2|refine τ3 rfl ?_|refine τ4 rfl ?_|refine ⟨rfl,?_⟩|apply τa|refine τb rfl ?_|refine ⟨⟨by kernel_rfl,by kernel_rfl⟩,?_⟩|refine ⟨by decide,?_⟩|apply τt|apply τf))
        intro c g; cases c
        · (repeat((conv=>whnf);first|apply ω0|apply ω1|apply ω2|refine τ3 rfl ?_|refine τ4 rfl ?_|refine ⟨rfl,?_⟩|apply τa|refine τb rfl ?_|refine ⟨⟨by kernel_rfl,by kernel_rfl⟩,?_⟩|refine ⟨by decide,?_⟩|apply τt|apply τf))
          exact ret_tells rfl AVle.os_sl0
        · have g := yes_of g
          try dsimp only at g
          have hi : i < L.length := by omega
          have e1 := hemp i hi
          have e2 : L.getD i [] = [] := List.eq_nil_of_length_eq_zero e1
          (repeat((conv=>whnf);first|apply ω0|apply ω1|apply ω2|refine τ3 rfl ?_|refine τ4 rfl ?_|refine ⟨rfl,?_⟩|apply τa|refine τb rfl ?_|refine ⟨⟨by kernel_rfl,by kernel_rfl⟩,?_⟩|refine ⟨by decide,?_⟩|apply τt|apply τf))
          refine ⟨⟨by first | omega | (dsimp only; omega), by first | omega | (dsimp only; omega)⟩, ?_⟩
          (repeat((conv=>whnf);first|apply ω0|apply ω1|apply ω2|refine τ3 rfl ?_|refine τ4 rfl ?_|refine ⟨rfl,?_⟩|apply τa|refine τb rfl ?_|refine ⟨⟨by kernel_rfl,by kernel_rfl⟩,?_⟩|refine ⟨by decide,?_⟩|apply τt|apply τf))
          refine appK_intro (fun _ => ?_) (fun h => absurd e1 h)
          (repeat((conv=>whnf);first|apply ω0|apply ω1|apply ω2|refine τ3 rfl ?_|refine τ4 rfl ?_|refine ⟨rfl,?_⟩|apply τa|refine τb rfl ?_|refine ⟨⟨by kernel_rfl,by kernel_rfl⟩,?_⟩|refine ⟨by decide,?_⟩|apply τt|apply τf))
          exact back (i + 1, nx3) hi (by dsimp only; omega) (ele_keep rfl rfl (List.Sublist.refl _) (List.Sublist.refl _) ⟨AVle.refl _, AVle.refl _, AVle.refl _, le_int (wrap_succ (by first | omega | (dsimp only; omega))), trivial⟩)
    · (repeat((conv=>whnf);first|apply ω0|apply ω1|apply ω2|refine τ3 rfl ?_|refine τ4 rfl ?_|refine ⟨rfl,?_⟩|apply τa|refine τb rfl ?_|refine ⟨⟨by kernel_rfl,by kernel_rfl⟩,?_⟩|refine ⟨by decide,?_⟩|apply τt|apply τf))
      refine aop_callF (xs := [.os 0 0 (fun _ => .any) none, int (L.flatten.length : Nat)]) [] [] 1 rfl rfl rfl rfl ⟨AVle.refl _, AVle.refl _, trivial⟩ (grow_trow L.flatten.length h0 hn nx1) (BxLe.refl _) (PmEq.refl _) rfl fun r h' hq => ?_
      obtain ⟨s, cap, nx2, nn2, hcap, rfl, rfl⟩ := hq
      (repeat((conv=>whnf);first|apply ω0|apply ω1|apply ω2|refine τ3 rfl ?_|refine τ4 rfl ?_|refine ⟨rfl,?_⟩|apply τa|refine τb rfl ?_|refine ⟨⟨by kernel_rfl,by kernel_rfl⟩,?_⟩|refine ⟨by decide,?_⟩|apply τt|apply τf))
      refine aw_loop (fun y : Nat × List AV × Nat => mk 36 [(6, .hs (0, s) 0 ((L.take y.1).flatten.length) cap), (25, rows2_trow L none), (26, int L.length), (27, int y.1)] ⟨[((0, s), .c y.2.1)], [], y.2.2, 1⟩) (fun y => y.1 ≤ L.length ∧ y.2.1.length = cap * 8 ∧ y.2.1.take ((L.take y.1).flatten.length * 8) = (L.take y.1).flatten.flatMap fun x => (trowA x).cells) (fun y => L.length - y.1) ?_ ?_
      · exact ⟨(0, List.replicate (cap * 8) .any, nx2), ⟨Nat.zero_le _, by simp, by simp⟩, ele_tell _ _ rfl rfl (List.Sublist.refl _) .slnil (BxLe.refl _) trivial ⟨AVle.refl _, AVle.refl _, AVle.refl _, AVle.refl _, trivial⟩⟩
      · rintro ⟨i, cs, nx3⟩ ⟨h1, h2, h3⟩
        dsimp only at h1 h2 h3
        (repeat((conv=>whnf);first|apply ω0|apply ω1|apply ω2|refine τ3 rfl ?_|refine τ4 rfl ?_|refine ⟨rfl,?_⟩|apply τa|refine τb rfl ?_|refine ⟨⟨by kernel_rfl,by kernel_rfl⟩,?_⟩|refine ⟨by decide,?_⟩|apply τt|apply τf))
        intro c g; cases c
        · have g := not_of g
          try dsimp only at g
          obtain rfl : i = L.length := by omega
          rw [List.take_length] at h3
          have hcl : L.flatten.length * 8 ≤ cap * 8 := Nat.mul_le_mul_right _ hcap
          (repeat((conv=>whnf);first|apply ω0|apply ω2|refine τ3 rfl ?_|refine τ4 rfl ?_|refine ⟨rfl,?_⟩|apply τa|refine τb rfl ?_|refine ⟨⟨by kernel_rfl,by kernel_rfl⟩,?_⟩|refine ⟨by decide,?_⟩|apply τt|apply τf))
          refine AW.le (ele_freeze (L := [(6, slOf 8 trowA trow0 L.flatten)]) (bx := []) (pm := []) (nn := 1) [((0, s), .c cs)] rfl rfl (List.Sublist.refl _) .slnil ⟨?_, trivial⟩) ?_
          · refine (Frz.of_le (AVle.of_eq (b := .hs (0, s) 0 L.flatten.length cap) ?_)).trans (Frz.hs (cs := cs) (.head _) hcap (.inr (by omega)) (fun k hk => gl_trow _) (fun k hk j c hj => ?_) (by omega))
            · show AV.hs (0, s) 0 ((L.take L.length).flatten.length) cap = _
              rw [List.take_length]
            · have hjl : j < 8 := by have := (List.getElem?_eq_some_iff.1 hj).1; rw [gl_trow] at this; exact this
              refine ⟨c, ?_, AVle.refl _⟩
              have hkk : k * 8 + j < L.flatten.length * 8 := by
                have : (k + 1) * 8 ≤ L.flatten.length * 8 := Nat.mul_le_mul_right _ hk
                omega
              have h4 := fget_trow L.flatten k j hk hjl
              rw [← h3, List.getElem?_take, if_pos hkk, hj] at h4
              rw [Nat.zero_add]; exact h4
          · (repeat((conv=>whnf);first|apply ω0|apply ω1|apply ω2|refine τ3 rfl ?_|refine τ4 rfl ?_|refine ⟨rfl,?_⟩|apply τa|refine τb rfl ?_|refine ⟨⟨by kernel_rfl,by kernel_rfl⟩,?_⟩|refine ⟨by decide,?_⟩|apply τt|apply τf))
            exact ret_tells rfl (AVle.refl _)
        · have g := yes_of g
          try dsimp only at g
          have hi : i < L.length := by omega
          have e1 := hpre i hi
          have e2 := hle (i + 1)
          have hfl : (L.take (i + 1)).flatten = (L.take i).flatten ++ L.getD i [] := by rw [take_getD [] hi, List.flatten_append]; simp
          have hcl : ((L.take i).flatten.length + (L.getD i []).length) * 8 ≤ cap * 8 := Nat.mul_le_mul_right _ (by omega)
          (repeat((conv=>whnf);first|apply ω0|apply ω1|apply ω2|refine τ3 rfl ?_|refine τ4 rfl ?_|refine ⟨rfl,?_⟩|apply τa|refine τb rfl ?_|refine ⟨⟨by kernel_rfl,by kernel_rfl⟩,?_⟩|refine ⟨by decide,?_⟩|apply τt|apply τf))
          refine ⟨⟨by first | omega | (dsimp only; omega), by first | omega | (dsimp only; omega)⟩, ?_⟩
          (repeat((conv=>whnf);first|apply ω0|apply ω2|refine τ3 rfl ?_|refine τ4 rfl ?_|refine ⟨rfl,?_⟩|apply τa|refine τb rfl ?_|refine ⟨⟨by kernel_rfl,by kernel_rfl⟩,?_⟩|refine ⟨by decide,?_⟩|apply τt|apply τf))
          refine aw_regionY (fun i => match i with | 1 => true | _ => false) 4 ?_
          (repeat((conv=>whnf);first|apply ω0|apply ω1|apply ω2|refine τ3 rfl ?_|refine τ4 rfl ?_|refine ⟨rfl,?_⟩|apply τa|refine τb rfl ?_|refine ⟨⟨by kernel_rfl,by kernel_rfl⟩,?_⟩|refine ⟨by decide,?_⟩|apply τt|apply τf))
          refine aop_appendB (m := (L.getD i []).length) (f' := fun k => trowA ((L.getD i []).getD k trow0)) (szx := 8) (n := (L.take i).flatten.length) (cap := cap) (cs := cs) (i := (0, s)) rfl rfl (.inl rfl) Tryz.underlying49 gr_trow (.inr gc_trow.symm) (by rfl) (by omega) (by rw [gc_trow]; omega) (fun k hk => g1_trow _) (fun _ => by rw [gb_trow]; omega) (fun _ => by omega) (fun hm => ?_) (fun hm hfit => ?_) (fun hm hnf => absurd (by omega) hnf)
          · have e3 : L.getD i [] = [] := List.eq_nil_of_length_eq_zero hm
            rw [e3, List.append_nil] at hfl
            (repeat((conv=>whnf);first|apply ω0|apply ω1|apply ω2|refine τ3 rfl ?_|refine τ4 rfl ?_|refine ⟨rfl,?_⟩|apply τa|refine τb rfl ?_|refine ⟨⟨by kernel_rfl,by kernel_rfl⟩,?_⟩|refine ⟨by decide,?_⟩|apply τt|apply τf))
            exact back (i + 1, cs, nx3) ⟨hi, h2, by dsimp only; rw [hfl]; exact h3⟩ (by dsimp only; omega) (ele_tell _ _ rfl rfl (List.Sublist.refl _) .slnil (BxLe.refl _) trivial ⟨AVle.of_eq (congrArg (fun z => AV.hs (0, s) 0 z cap) (by rw [hfl] : (L.take i).flatten.length = (L.take (i + 1)).flatten.length)), AVle.refl _, AVle.refl _, le_int (wrap_succ (by first | omega | (dsimp only; omega))), trivial⟩)
          · (repeat((conv=>whnf);first|apply ω0|apply ω1|apply ω2|refine τ3 rfl ?_|refine τ4 rfl ?_|refine ⟨rfl,?_⟩|apply τa|refine τb rfl ?_|refine ⟨⟨by kernel_rfl,by kernel_rfl⟩,?_⟩|refine ⟨by decide,?_⟩|apply τt|apply τf))
            refine back (i + 1, splice cs ((L.take i).flatten.length * 8) ((L.getD i []).flatMap fun x => (trowA x).cells), nx3) ⟨hi, ?_, ?_⟩ (by dsimp only; omega) (ele_tell _ _ rfl rfl (List.Sublist.refl _) .slnil ⟨rfl, ownEq_trow (congrArg Own.c ?_), trivial⟩ trivial ⟨AVle.of_eq (congrArg (fun z => AV.hs (0, s) 0 z cap) e1.symm), AVle.refl _, AVle.refl _, le_int (wrap_succ (by first | omega | (dsimp only; omega))), trivial⟩)
            · have hf := flen_trow (L.getD i [])
              simp only [splice_def, List.length_append, List.length_take, List.length_drop, hf]
              omega
            · have hf := flen_trow (L.getD i [])
              dsimp only
              rw [hfl, List.flatMap_append, splice_def, List.length_append, ← List.append_assoc, h3]
              have hpl : (List.flatMap (fun x => (trowA x).cells) (L.take i).flatten ++ List.flatMap (fun x => (trowA x).cells) (L.getD i [])).length = ((L.take i).flatten.length + (L.getD i []).length) * 8 := by
                rw [List.length_append, hf, flen_trow]; omega
              rw [← hpl, List.take_left]
            · rw [gc_trow, flat_trow]
end Go.Proofs.W


namespace Go.Proofs.W
open Go.Vl
set_option maxRecDepth 100000
def earlyL : List TRow := [
  ⟨⟨#[97, 99, 99, 101, 112, 116]⟩, 43, 43, -1, 202, 202, 1, 5⟩,
  ⟨⟨#[97, 99, 99, 101, 112, 116, 52]⟩, 288, 288, 364, 242, 242, 1, 18⟩,
  ⟨⟨#[98, 105, 110, 100]⟩, 49, 49, 361, 200, 200, 1, 2⟩,
  ⟨⟨#[98, 114, 107]⟩, 12, 12, 45, 214, 214, 0, 0⟩,
  ⟨⟨#[99, 108, 111, 110, 101]⟩, 56, 56, 120, 220, 220, 0, 0⟩,
  ⟨⟨#[99, 108, 111, 115, 101]⟩, 3, 3, 6, 57, 57, 0, 0⟩,
  ⟨⟨#[99, 111, 110, 110, 101, 99, 116]⟩, 42, 42, 362, 203, 203, 1, 3⟩,
  ⟨⟨#[100, 117, 112]⟩, 32, 32, 41, 23, 23, 0, 0⟩,
  ⟨⟨#[100, 117, 112, 50]⟩, 33, 33, 63, -1, -1, 0, 0⟩,
  ⟨⟨#[101, 112, 111, 108, 108, 95, 99, 114, 101, 97, 116, 101, 49]⟩, 291, 291, 329, 20, 20, 0, 0⟩,
  ⟨⟨#[101, 112, 111, 108, 108, 95, 99, 116, 108]⟩, 233, 233, 255, 21, 21, 0, 0⟩,
  ⟨⟨#[101, 112, 111, 108, 108, 95, 119, 97, 105, 116]⟩, 232, 232, 256, -1, -1, 0, 0⟩,
  ⟨⟨#[101, 120, 101, 99, 118, 101]⟩, 59, 520, 11, 221, 221, 0, 0⟩,
  ⟨⟨#[101, 120, 105, 116]⟩, 60, 60, 1, 93, 93, 0, 0⟩,
  ⟨⟨#[101, 120, 105, 116, 95, 103, 114, 111, 117, 112]⟩, 231, 231, 252, 94, 94, 0, 0⟩,
  ⟨⟨#[102, 99, 104, 100, 105, 114]⟩, 81, 81, 133, 50, 50, 0, 0⟩,
  ⟨⟨#[102, 99, 110, 116, 108]⟩, 72, 72, 55, 25, 25, 0, 0⟩,
  ⟨⟨#[102, 111, 114, 107]⟩, 57, 57, 2, -1, -1, 0, 0⟩,
  ⟨⟨#[102, 115, 116, 97, 116]⟩, 5, 5, 108, 80, 80, 0, 0⟩,
  ⟨⟨#[102, 117, 116, 101, 120]⟩, 202, 202, 240, 98, 98, 0, 0⟩,
  ⟨⟨#[103, 101, 116, 99, 119, 100]⟩, 79, 79, 183, 17, 17, 0, 0⟩,
  ⟨⟨#[103, 101, 116, 112, 101, 101, 114, 110, 97, 109, 101]⟩, 52, 52, 368, 205, 205, 1, 7⟩,
  ⟨⟨#[103, 101, 116, 112, 105, 100]⟩, 39, 39, 20, 172, 172, 0, 0⟩,
  ⟨⟨#[103, 101, 116, 114, 97, 110, 100, 111, 109]⟩, 318, 318, 355, 278, 278, 0, 0⟩,
  ⟨⟨#[103, 101, 116, 115, 111, 99, 107, 110, 97, 109, 101]⟩, 51, 51, 367, 204, 204, 1, 6⟩,
  ⟨⟨#[103, 101, 116, 115, 111, 99, 107, 111, 112, 116]⟩, 55, 542, 365, 209, 209, 1, 15⟩,
  ⟨⟨#[103, 101, 116, 117, 105, 100]⟩, 102, 102, 24, 174, 174, 0, 0⟩,
  ⟨⟨#[105, 111, 99, 116, 108]⟩, 16, 514, 54, 29, 29, 0, 0⟩,
  ⟨⟨#[107, 105, 108, 108]⟩, 62, 62, 37, 129, 129, 0, 0⟩,
  ⟨⟨#[108, 105, 115, 116, 101, 110]⟩, 50, 50, 363, 201, 201, 1, 4⟩]
theorem build_early : abuildCells Tryz.prog 49 30 [(0, trowA ⟨⟨#[97, 99, 99, 101, 112, 116]⟩, 43, 43, -1, 202, 202, 1, 5⟩), (1, trowA ⟨⟨#[97, 99, 99, 101, 112, 116, 52]⟩, 288, 288, 364, 242, 242, 1, 18⟩), (2, trowA ⟨⟨#[98, 105, 110, 100]⟩, 49, 49, 361, 200, 200, 1, 2⟩), (3, trowA ⟨⟨#[98, 114, 107]⟩, 12, 12, 45, 214, 214, 0, 0⟩), (4, trowA ⟨⟨#[99, 108, 111, 110, 101]⟩, 56, 56, 120, 220, 220, 0, 0⟩), (5, trowA ⟨⟨#[99, 108, 111, 115, 101]⟩, 3, 3, 6, 57, 57, 0, 0⟩), (6, trowA ⟨⟨#[99, 111, 110, 110, 101, 99, 116]⟩, 42, 42, 362, 203, 203, 1, 3⟩), (7, trowA ⟨⟨#[100, 117, 112]⟩, 32, 32, 41, 23, 23, 0, 0⟩), (8, trowA ⟨⟨#[100, 117, 112, 50]⟩, 33, 33, 63, -1, -1, 0, 0⟩), (9, trowA ⟨⟨#[101, 112, 111, 108, 108, 95, 99, 114, 101, 97, 116, 101, 49]⟩, 291, 291, 329, 20, 20, 0, 0⟩), (10, trowA ⟨⟨#[101, 112, 111, 108, 108, 95, 99, 116, 108]⟩, 233, 233, 255, 21, 21, 0, 0⟩), (11, trowA ⟨⟨#[101, 112, 111, 108, 108, 95, 119, 97, 105, 116]⟩, 232, 232, 256, -1, -1, 0, 0⟩), (12, trowA ⟨⟨#[101, 120, 101, 99, 118, 101]⟩, 59, 520, 11, 221, 221, 0, 0⟩), (13, trowA ⟨⟨#[101, 120, 105, 116]⟩, 60, 60, 1, 93, 93, 0, 0⟩), (14, trowA ⟨⟨#[101, 120, 105, 116, 95, 103, 114, 111, 117, 112]⟩, 231, 231, 252, 94, 94, 0, 0⟩), (15, trowA ⟨⟨#[102, 99, 104, 100, 105, 114]⟩, 81, 81, 133, 50, 50, 0, 0⟩), (16, trowA ⟨⟨#[102, 99, 110, 116, 108]⟩, 72, 72, 55, 25, 25, 0, 0⟩), (17, trowA ⟨⟨#[102, 111, 114, 107]⟩, 57, 57, 2, -1, -1, 0, 0⟩), (18, trowA ⟨⟨#[102, 115, 116, 97, 116]⟩, 5, 5, 108, 80, 80, 0, 0⟩), (19, trowA ⟨⟨#[102, 117, 116, 101, 120]⟩, 202, 202, 240, 98, 98, 0, 0⟩), (20, trowA ⟨⟨#[103, 101, 116, 99, 119, 100]⟩, 79, 79, 183, 17, 17, 0, 0⟩), (21, trowA ⟨⟨#[103, 101, 116, 112, 101, 101, 114, 110, 97, 109, 101]⟩, 52, 52, 368, 205, 205, 1, 7⟩), (22, trowA ⟨⟨#[103, 101, 116, 112, 105, 100]⟩, 39, 39, 20, 172, 172, 0, 0⟩), (23, trowA ⟨⟨#[103, 101, 116, 114, 97, 110, 100, 111, 109]⟩, 318, 318, 355, 278, 278, 0, 0⟩), (24, trowA ⟨⟨#[103, 101, 116, 115, 111, 99, 107, 110, 97, 109, 101]⟩, 51, 51, 367, 204, 204, 1, 6⟩), (25, trowA ⟨⟨#[103, 101, 116, 115, 111, 99, 107, 111, 112, 116]⟩, 55, 542, 365, 209, 209, 1, 15⟩), (26, trowA ⟨⟨#[103, 101, 116, 117, 105, 100]⟩, 102, 102, 24, 174, 174, 0, 0⟩), (27, trowA ⟨⟨#[105, 111, 99, 116, 108]⟩, 16, 514, 54, 29, 29, 0, 0⟩), (28, trowA ⟨⟨#[107, 105, 108, 108]⟩, 62, 62, 37, 129, 129, 0, 0⟩), (29, trowA ⟨⟨#[108, 105, 115, 116, 101, 110]⟩, 50, 50, 363, 201, 201, 1, 4⟩)] = some (106, [strA ⟨#[97, 99, 99, 101, 112, 116]⟩, int (43), int (43), int (-1), int (202), int (202), int 1, int 5, strA ⟨#[97, 99, 99, 101, 112, 116, 52]⟩, int (288), int (288), int (364), int (242), int (242), int 1, int 18, strA ⟨#[98, 105, 110, 100]⟩, int (49), int (49), int (361), int (200), int (200), int 1, int 2, strA ⟨#[98, 114, 107]⟩, int (12), int (12), int (45), int (214), int (214), int 0, int 0, strA ⟨#[99, 108, 111, 110, 101]⟩, int (56), int (56), int (120), int (220), int (220), int 0, int 0, strA ⟨#[99, 108, 111, 115, 101]⟩, int (3), int (3), int (6), int (57), int (57), int 0, int 0, strA ⟨#[99, 111, 110, 110, 101, 99, 116]⟩, int (42), int (42), int (362), int (203), int (203), int 1, int 3, strA ⟨#[100, 117, 112]⟩, int (32), int (32), int (41), int (23), int (23), int 0, int 0, strA ⟨#[100, 117, 112, 50]⟩, int (33), int (33), int (63), int (-1), int (-1), int 0, int 0, strA ⟨#[101, 112, 111, 108, 108, 95, 99, 114, 101, 97, 116, 101, 49]⟩, int (291), int (291), int (329), int (20), int (20), int 0, int 0, strA ⟨#[101, 112, 111, 108, 108, 95, 99, 116, 108]⟩, int (233), int (233), int (255), int (21), int (21), int 0, int 0, strA ⟨#[101, 112, 111, 108, 108, 95, 119, 97, 105, 116]⟩, int (232), int (232), int (256), int (-1), int (-1), int 0, int 0, strA ⟨#[101, 120, 101, 99, 118, 101]⟩, int (59), int (520), int (11), int (221), int (221), int 0, int 0, strA ⟨#[101, 120, 105, 116]⟩, int (60), int (60), int (1), int (93), int (93), int 0, int 0, strA ⟨#[101, 120, 105, 116, 95, 103, 114, 111, 117, 112]⟩, int (231), int (231), int (252), int (94), int (94), int 0, int 0, strA ⟨#[102, 99, 104, 100, 105, 114]⟩, int (81), int (81), int (133), int (50), int (50), int 0, int 0, strA ⟨#[102, 99, 110, 116, 108]⟩, int (72), int (72), int (55), int (25), int (25), int 0, int 0, strA ⟨#[102, 111, 114, 107]⟩, int (57), int (57), int (2), int (-1), int (-1), int 0, int 0, strA ⟨#[102, 115, 116, 97, 116]⟩, int (5), int (5), int (108), int (80), int (80), int 0, int 0, strA ⟨#[102, 117, 116, 101, 120]⟩, int (202), int (202), int (240), int (98), int (98), int 0, int 0, strA ⟨#[103, 101, 116, 99, 119, 100]⟩, int (79), int (79), int (183), int (17), int (17), int 0, int 0, strA ⟨#[103, 101, 116, 112, 101, 101, 114, 110, 97, 109, 101]⟩, int (52), int (52), int (368), int (205), int (205), int 1, int 7, strA ⟨#[103, 101, 116, 112, 105, 100]⟩, int (39), int (39), int (20), int (172), int (172), int 0, int 0, strA ⟨#[103, 101, 116, 114, 97, 110, 100, 111, 109]⟩, int (318), int (318), int (355), int (278), int (278), int 0, int 0, strA ⟨#[103, 101, 116, 115, 111, 99, 107, 110, 97, 109, 101]⟩, int (51), int (51), int (367), int (204), int (204), int 1, int 6, strA ⟨#[103, 101, 116, 115, 111, 99, 107, 111, 112, 116]⟩, int (55), int (542), int (365), int (209), int (209), int 1, int 15, strA ⟨#[103, 101, 116, 117, 105, 100]⟩, int (102), int (102), int (24), int (174), int (174), int 0, int 0, strA ⟨#[105, 111, 99, 116, 108]⟩, int (16), int (514), int (54), int (29), int (29), int 0, int 0, strA ⟨#[107, 105, 108, 108]⟩, int (62), int (62), int (37), int (129), int (129), int 0, int 0, strA ⟨#[108, 105, 115, 116, 101, 110]⟩, int (50), int (50), int (363), int (201), int (201), int 1, int 4]) := by kernel_rfl
set_option maxHeartbeats 4000000 in
theorem early_spec : Tells Tryz.prog 92 [] (trows earlyL) := by
  refine tells_of_aw Tryz.func92 rfl rfl fun nx => ?_
  ((repeat((conv=>whnf);first|apply ω0|apply ω2|refine τ3 rfl ?_|refine τ4 rfl ?_|refine ⟨rfl,?_⟩|apply τa|refine τb rfl ?_|refine ⟨⟨by kernel_rfl,by kernel_rfl⟩,?_⟩|refine ⟨by decide,?_⟩|apply τt|apply τf)); refine aw_region ?_; (repeat((conv=>whnf);first|apply ω0|apply ω2|refine τ3 rfl ?_|refine τ4 rfl ?_|refine ⟨rfl,?_⟩|apply τa|refine τb rfl ?_|refine ⟨⟨by kernel_rfl,by kernel_rfl⟩,?_⟩|refine ⟨by decide,?_⟩|apply τt|apply τf)))
  refine aw_regionY (fun n => match n with | 0 => true | _ => false) 61 ?_
  (repeat((conv=>whnf);first|apply ω0|apply ω1|apply ω2|refine τ3 rfl ?_|refine τ4 rfl ?_|refine ⟨rfl,?_⟩|apply τa|refine τb rfl ?_|refine ⟨⟨by kernel_rfl,by kernel_rfl⟩,?_⟩|refine ⟨by decide,?_⟩|apply τt|apply τf))
  refine aop_build rfl build_early ?_
  (repeat((conv=>whnf);first|apply ω0|apply ω1|apply ω2|refine τ3 rfl ?_|refine τ4 rfl ?_|refine ⟨rfl,?_⟩|apply τa|refine τb rfl ?_|refine ⟨⟨by kernel_rfl,by kernel_rfl⟩,?_⟩|refine ⟨by decide,?_⟩|apply τt|apply τf))
  refine ret_tells rfl (AVle.os_sl.trans (AVle.sl_fun fun k hk => ?_))
  match k, hk with
  | 0, _ => rfl
  | 1, _ => rfl
  | 2, _ => rfl
  | 3, _ => rfl
  | 4, _ => rfl
  | 5, _ => rfl
  | 6, _ => rfl
  | 7, _ => rfl
  | 8, _ => rfl
  | 9, _ => rfl
  | 10, _ => rfl
  | 11, _ => rfl
  | 12, _ => rfl
  | 13, _ => rfl
  | 14, _ => rfl
  | 15, _ => rfl
  | 16, _ => rfl
  | 17, _ => rfl
  | 18, _ => rfl
  | 19, _ => rfl
  | 20, _ => rfl
  | 21, _ => rfl
  | 22, _ => rfl
  | 23, _ => rfl
  | 24, _ => rfl
  | 25, _ => rfl
  | 26, _ => rfl
  | 27, _ => rfl
  | 28, _ => rfl
  | 29, _ => rfl
  | k + 30, hk => exact absurd hk (by omega)
def lateL : List TRow := [
  ⟨⟨#[108, 115, 101, 101, 107]⟩, 8, 8, 19, 62, 62, 0, 0⟩,
  ⟨⟨#[109, 107, 100, 105, 114]⟩, 83, 83, 39, -1, -1, 0, 0⟩,
  ⟨⟨#[109, 109, 97, 112]⟩, 9, 9, -1, 222, 222, 0, 0⟩,
  ⟨⟨#[109, 109, 97, 112, 50]⟩, -1, -1, 192, -1, -1, 0, 0⟩,
  ⟨⟨#[109, 112, 114, 111, 116, 101, 99, 116]⟩, 10, 10, 125, 226, 226, 0, 0⟩,
  ⟨⟨#[109, 115, 103, 99, 116, 108]⟩, 71, 71, 402, 187, 187, 2, 14⟩,
  ⟨⟨#[109, 115, 103, 103, 101, 116]⟩, 68, 68, 399, 186, 186, 2, 13⟩,
  ⟨⟨#[109, 115, 103, 114, 99, 118]⟩, 70, 70, 401, 188, 188, 2, 12⟩,
  ⟨⟨#[109, 115, 103, 115, 110, 100]⟩, 69, 69, 400, 189, 189, 2, 11⟩,
  ⟨⟨#[109, 117, 110, 109, 97, 112]⟩, 11, 11, 91, 215, 215, 0, 0⟩,
  ⟨⟨#[110, 97, 110, 111, 115, 108, 101, 101, 112]⟩, 35, 35, 162, 101, 101, 0, 0⟩,
  ⟨⟨#[111, 112, 101, 110]⟩, 2, 2, 5, -1, -1, 0, 0⟩,
  ⟨⟨#[111, 112, 101, 110, 97, 116]⟩, 257, 257, 295, 56, 56, 0, 0⟩,
  ⟨⟨#[112, 105, 112, 101]⟩, 22, 22, 42, -1, -1, 0, 0⟩,
  ⟨⟨#[112, 105, 112, 101, 50]⟩, 293, 293, 331, 59, 59, 0, 0⟩,
  ⟨⟨#[112, 111, 108, 108]⟩, 7, 7, 168, -1, -1, 0, 0⟩,
  ⟨⟨#[112, 114, 101, 97, 100, 54, 52]⟩, 17, 17, 180, 67, 67, 0, 0⟩,
  ⟨⟨#[112, 114, 108, 105, 109, 105, 116, 54, 52]⟩, 302, 302, 340, 261, 261, 0, 0⟩,
  ⟨⟨#[112, 116, 114, 97, 99, 101]⟩, 101, 521, 26, 117, 117, 0, 0⟩,
  ⟨⟨#[112, 119, 114, 105, 116, 101, 54, 52]⟩, 18, 18, 181, 68, 68, 0, 0⟩,
  ⟨⟨#[114, 101, 97, 100]⟩, 0, 0, 3, 63, 63, 0, 0⟩,
  ⟨⟨#[114, 101, 97, 100, 118]⟩, 19, 515, 145, 65, 65, 0, 0⟩,
  ⟨⟨#[114, 101, 99, 118]⟩, -1, -1, -1, -1, -1, 1, 10⟩,
  ⟨⟨#[114, 101, 99, 118, 102, 114, 111, 109]⟩, 45, 517, 371, 207, 207, 1, 12⟩,
  ⟨⟨#[114, 101, 99, 118, 109, 115, 103]⟩, 47, 519, 372, 212, 212, 1, 17⟩,
  ⟨⟨#[114, 101, 110, 97, 109, 101]⟩, 82, 82, 38, -1, -1, 0, 0⟩,
  ⟨⟨#[114, 105, 115, 99, 118, 95, 102, 108, 117, 115, 104, 95, 105, 99, 97, 99, 104, 101]⟩, -1, -1, -1, -1, 259, 0, 0⟩,
  ⟨⟨#[114, 116, 95, 115, 105, 103, 97, 99, 116, 105, 111, 110]⟩, 13, 512, 174, 134, 134, 0, 0⟩,
  ⟨⟨#[114, 116, 95, 115, 105, 103, 114, 101, 116, 117, 114, 110]⟩, 15, 513, 173, 139, 139, 0, 0⟩,
  ⟨⟨#[115, 101, 99, 99, 111, 109, 112]⟩, 317, 317, 354, 277, 277, 0, 0⟩,
  ⟨⟨#[115, 101, 108, 101, 99, 116]⟩, 23, 23, 82, -1, -1, 0, 0⟩,
  ⟨⟨#[115, 101, 109, 99, 116, 108]⟩, 66, 66, 394, 191, 191, 2, 3⟩,
  ⟨⟨#[115, 101, 109, 103, 101, 116]⟩, 64, 64, 393, 190, 190, 2, 2⟩,
  ⟨⟨#[115, 101, 109, 111, 112]⟩, 65, 65, -1, 193, 193, 2, 1⟩,
  ⟨⟨#[115, 101, 110, 100]⟩, -1, -1, -1, -1, -1, 1, 9⟩,
  ⟨⟨#[115, 101, 110, 100, 109, 115, 103]⟩, 46, 518, 370, 211, 211, 1, 16⟩,
  ⟨⟨#[115, 101, 110, 100, 116, 111]⟩, 44, 44, 369, 206, 206, 1, 11⟩,
  ⟨⟨#[115, 101, 116, 115, 111, 99, 107, 111, 112, 116]⟩, 54, 541, 366, 208, 208, 1, 14⟩,
  ⟨⟨#[115, 104, 109, 97, 116]⟩, 30, 30, 397, 196, 196, 2, 21⟩,
  ⟨⟨#[115, 104, 109, 99, 116, 108]⟩, 31, 31, 396, 195, 195, 2, 24⟩,
  ⟨⟨#[115, 104, 109, 100, 116]⟩, 67, 67, 398, 197, 197, 2, 22⟩,
  ⟨⟨#[115, 104, 109, 103, 101, 116]⟩, 29, 29, 395, 194, 194, 2, 23⟩,
  ⟨⟨#[115, 104, 117, 116, 100, 111, 119, 110]⟩, 48, 48, 373, 210, 210, 1, 13⟩,
  ⟨⟨#[115, 111, 99, 107, 101, 116]⟩, 41, 41, 359, 198, 198, 1, 1⟩,
  ⟨⟨#[115, 111, 99, 107, 101, 116, 112, 97, 105, 114]⟩, 53, 53, 360, 199, 199, 1, 8⟩,
  ⟨⟨#[115, 116, 97, 116]⟩, 4, 4, 106, -1, -1, 0, 0⟩,
  ⟨⟨#[116, 105, 109, 101]⟩, 201, 201, 13, -1, -1, 0, 0⟩,
  ⟨⟨#[117, 110, 97, 109, 101]⟩, 63, 63, 122, 160, 160, 0, 0⟩,
  ⟨⟨#[117, 110, 108, 105, 110, 107]⟩, 87, 87, 10, -1, -1, 0, 0⟩,
  ⟨⟨#[118, 102, 111, 114, 107]⟩, 58, 58, 190, -1, -1, 0, 0⟩,
  ⟨⟨#[119, 97, 105, 116, 112, 105, 100]⟩, -1, -1, 7, -1, -1, 0, 0⟩,
  ⟨⟨#[119, 114, 105, 116, 101]⟩, 1, 1, 4, 64, 64, 0, 0⟩,
  ⟨⟨#[119, 114, 105, 116, 101, 118]⟩, 20, 516, 146, 66, 66, 0, 0⟩]
theorem build_late : abuildCells Tryz.prog 49 53 [(0, trowA ⟨⟨#[108, 115, 101, 101, 107]⟩, 8, 8, 19, 62, 62, 0, 0⟩), (1, trowA ⟨⟨#[109, 107, 100, 105, 114]⟩, 83, 83, 39, -1, -1, 0, 0⟩), (2, trowA ⟨⟨#[109, 109, 97, 112]⟩, 9, 9, -1, 222, 222, 0, 0⟩), (3, trowA ⟨⟨#[109, 109, 97, 112, 50]⟩, -1, -1, 192, -1, -1, 0, 0⟩), (4, trowA ⟨⟨#[109, 112, 114, 111, 116, 101, 99, 116]⟩, 10, 10, 125, 226, 226, 0, 0⟩), (5, trowA ⟨⟨#[109, 115, 103, 99, 116, 108]⟩, 71, 71, 402, 187, 187, 2, 14⟩), (6, trowA ⟨⟨#[109, 115, 103, 103, 101, 116]⟩, 68, 68, 399, 186, 186, 2, 13⟩), (7, trowA ⟨⟨#[109, 115, 103, 114, 99, 118]⟩, 70, 70, 401, 188, 188, 2, 12⟩), (8, trowA ⟨⟨#[109, 115, 103, 115, 110, 100]⟩, 69, 69, 400, 189, 189, 2, 11⟩), (9, trowA ⟨⟨#[109, 117, 110, 109, 97, 112]⟩, 11, 11, 91, 215, 215, 0, 0⟩), (10, trowA ⟨⟨#[110, 97, 110, 111, 115, 108, 101, 101, 112]⟩, 35, 35, 162, 101, 101, 0, 0⟩), (11, trowA ⟨⟨#[111, 112, 101, 110]⟩, 2, 2, 5, -1, -1, 0, 0⟩), (12, trowA ⟨⟨#[111, 112, 101, 110, 97, 116]⟩, 257, 257, 295, 56, 56, 0, 0⟩), (13, trowA ⟨⟨#[112, 105, 112, 101]⟩, 22, 22, 42, -1, -1, 0, 0⟩), (14, trowA ⟨⟨#[112, 105, 112, 101, 50]⟩, 293, 293, 331, 59, 59, 0, 0⟩), (15, trowA ⟨⟨#[112, 111, 108, 108]⟩, 7, 7, 168, -1, -1, 0, 0⟩), (16, trowA ⟨⟨#[112, 114, 101, 97, 100, 54, 52]⟩, 17, 17, 180, 67, 67, 0, 0⟩), (17, trowA ⟨⟨#[112, 114, 108, 105, 109, 105, 116, 54, 52]⟩, 302, 302, 340, 261, 261, 0, 0⟩), (18, trowA ⟨⟨#[112, 116, 114, 97, 99, 101]⟩, 101, 521, 26, 117, 117, 0, 0⟩), (19, trowA ⟨⟨#[112, 119, 114, 105, 116, 101, 54, 52]⟩, 18, 18, 181, 68, 68, 0, 0⟩), (20, trowA ⟨⟨#[114, 101, 97, 100]⟩, 0, 0, 3, 63, 63, 0, 0⟩), (21, trowA ⟨⟨#[114, 101, 97, 100, 118]⟩, 19, 515, 145, 65, 65, 0, 0⟩), (22, trowA ⟨⟨#[114, 101, 99, 118]⟩, -1, -1, -1, -1, -1, 1, 10⟩), (23, trowA ⟨⟨#[114, 101, 99, 118, 102, 114, 111, 109]⟩, 45, 517, 371, 207, 207, 1, 12⟩), (24, trowA ⟨⟨#[114, 101, 99, 118, 109, 115, 103]⟩, 47, 519, 372, 212, 212, 1, 17⟩), (25, trowA ⟨⟨#[114, 101, 110, 97, 109, 101]⟩, 82, 82, 38, -1, -1, 0, 0⟩), (26, trowA ⟨⟨#[114, 105, 115, 99, 118, 95, 102, 108, 117, 115, 104, 95, 105, 99, 97, 99, 104, 101]⟩, -1, -1, -1, -1, 259, 0, 0⟩), (27, trowA ⟨⟨#[114, 116, 95, 115, 105, 103, 97, 99, 116, 105, 111, 110]⟩, 13, 512, 174, 134, 134, 0, 0⟩), (28, trowA ⟨⟨#[114, 116, 95, 115, 105, 103, 114, 101, 116, 117, 114, 110]⟩, 15, 513, 173, 139, 139, 0, 0⟩), (29, trowA ⟨⟨#[115, 101, 99, 99, 111, 109, 112]⟩, 317, 317, 354, 277, 277, 0, 0⟩), (30, trowA ⟨⟨#[115, 101, 108, 101, 99, 116]⟩, 23, 23, 82, -1, -1, 0, 0⟩), (31, trowA ⟨⟨#[115, 101, 109, 99, 116, 108]⟩, 66, 66, 394, 191, 191, 2, 3⟩), (32, trowA ⟨⟨#[115, 101, 109, 103, 101, 116]⟩, 64, 64, 393, 190, 190, 2, 2⟩), (33, trowA ⟨⟨#[115, 101, 109, 111, 112]⟩, 65, 65, -1, 193, 193, 2, 1⟩), (34, trowA ⟨⟨#[115, 101, 110, 100]⟩, -1, -1, -1, -1, -1, 1, 9⟩), (35, trowA ⟨⟨#[115, 101, 110, 100, 109, 115, 103]⟩, 46, 518, 370, 211, 211, 1, 16⟩), (36, trowA ⟨⟨#[115, 101, 110, 100, 116, 111]⟩, 44, 44, 369, 206, 206, 1, 11⟩), (37, trowA ⟨⟨#[115, 101, 116, 115, 111, 99, 107, 111, 112, 116]⟩, 54, 541, 366, 208, 208, 1, 14⟩), (38, trowA ⟨⟨#[115, 104, 109, 97, 116]⟩, 30, 30, 397, 196, 196, 2, 21⟩), (39, trowA ⟨⟨#[115, 104, 109, 99, 116, 108]⟩, 31, 31, 396, 195, 195, 2, 24⟩), (40, trowA ⟨⟨#[115, 104, 109, 100, 116]⟩, 67, 67, 398, 197, 197, 2, 22⟩), (41, trowA ⟨⟨#[115, 104, 109, 103, 101, 116]⟩, 29, 29, 395, 194, 194, 2, 23⟩), (42, trowA ⟨⟨#[115, 104, 117, 116, 100, 111, 119, 110]⟩, 48, 48, 373, 210, 210, 1, 13⟩), (43, trowA ⟨⟨#[115, 111, 99, 107, 101, 116]⟩, 41, 41, 359, 198, 198, 1, 1⟩), (44, trowA ⟨⟨#[115, 111, 99, 107, 101, 116, 112, 97, 105, 114]⟩, 53, 53, 360, 199, 199, 1, 8⟩), (45, trowA ⟨⟨#[115, 116, 97, 116]⟩, 4, 4, 106, -1, -1, 0, 0⟩), (46, trowA ⟨⟨#[116, 105, 109, 101]⟩, 201, 201, 13, -1, -1, 0, 0⟩), (47, trowA ⟨⟨#[117, 110, 97, 109, 101]⟩, 63, 63, 122, 160, 160, 0, 0⟩), (48, trowA ⟨⟨#[117, 110, 108, 105, 110, 107]⟩, 87, 87, 10, -1, -1, 0, 0⟩), (49, trowA ⟨⟨#[118, 102, 111, 114, 107]⟩, 58, 58, 190, -1, -1, 0, 0⟩), (50, trowA ⟨⟨#[119, 97, 105, 116, 112, 105, 100]⟩, -1, -1, 7, -1, -1, 0, 0⟩), (51, trowA ⟨⟨#[119, 114, 105, 116, 101]⟩, 1, 1, 4, 64, 64, 0, 0⟩), (52, trowA ⟨⟨#[119, 114, 105, 116, 101, 118]⟩, 20, 516, 146, 66, 66, 0, 0⟩)] = some (106, [strA ⟨#[108, 115, 101, 101, 107]⟩, int (8), int (8), int (19), int (62), int (62), int 0, int 0, strA ⟨#[109, 107, 100, 105, 114]⟩, int (83), int (83), int (39), int (-1), int (-1), int 0, int 0, strA ⟨#[109, 109, 97, 112]⟩, int (9), int (9), int (-1), int (222), int (222), int 0, int 0, strA ⟨#[109, 109, 97, 112, 50]⟩, int (-1), int (-1), int (192), int (-1), int (-1), int 0, int 0, strA ⟨#[109, 112, 114, 111, 116, 101, 99, 116]⟩, int (10), int (10), int (125), int (226), int (226), int 0, int 0, strA ⟨#[109, 115, 103, 99, 116, 108]⟩, int (71), int (71), int (402), int (187), int (187), int 2, int 14, strA ⟨#[109, 115, 103, 103, 101, 116]⟩, int (68), int (68), int (399), int (186), int (186), int 2, int 13, strA ⟨#[109, 115, 103, 114, 99, 118]⟩, int (70), int (70), int (401), int (188), int (188), int 2, int 12, strA ⟨#[109, 115, 103, 115, 110, 100]⟩, int (69), int (69), int (400), int (189), int (189), int 2, int 11, strA ⟨#[109, 117, 110, 109, 97, 112]⟩, int (11), int (11), int (91), int (215), int (215), int 0, int 0, strA ⟨#[110, 97, 110, 111, 115, 108, 101, 101, 112]⟩, int (35), int (35), int (162), int (101), int (101), int 0, int 0, strA ⟨#[111, 112, 101, 110]⟩, int (2), int (2), int (5), int (-1), int (-1), int 0, int 0, strA ⟨#[111, 112, 101, 110, 97, 116]⟩, int (257), int (257), int (295), int (56), int (56), int 0, int 0, strA ⟨#[112, 105, 112, 101]⟩, int (22), int (22), int (42), int (-1), int (-1), int 0, int 0, strA ⟨#[112, 105, 112, 101, 50]⟩, int (293), int (293), int (331), int (59), int (59), int 0, int 0, strA ⟨#[112, 111, 108, 108]⟩, int (7), int (7), int (168), int (-1), int (-1), int 0, int 0, strA ⟨#[112, 114, 101, 97, 100, 54, 52]⟩, int (17), int (17), int (180), int (67), int (67), int 0, int 0, strA ⟨#[112, 114, 108, 105, 109, 105, 116, 54, 52]⟩, int (302), int (302), int (340), int (261), int (261), int 0, int 0, strA ⟨#[112, 116, 114, 97, 99, 101]⟩, int (101), int (521), int (26), int (117), int (117), int 0, int 0, strA ⟨#[112, 119, 114, 105, 116, 101, 54, 52]⟩, int (18), int (18), int (181), int (68), int (68), int 0, int 0, strA ⟨#[114, 101, 97, 100]⟩, int (0), int (0), int (3), int (63), int (63), int 0, int 0, strA ⟨#[114, 101, 97, 100, 118]⟩, int (19), int (515), int (145), int (65), int (65), int 0, int 0, strA ⟨#[114, 101, 99, 118]⟩, int (-1), int (-1), int (-1), int (-1), int (-1), int 1, int 10, strA ⟨#[114, 101, 99, 118, 102, 114, 111, 109]⟩, int (45), int (517), int (371), int (207), int (207), int 1, int 12, strA ⟨#[114, 101, 99, 118, 109, 115, 103]⟩, int (47), int (519), int (372), int (212), int (212), int 1, int 17, strA ⟨#[114, 101, 110, 97, 109, 101]⟩, int (82), int (82), int (38), int (-1), int (-1), int 0, int 0, strA ⟨#[114, 105, 115, 99, 118, 95, 102, 108, 117, 115, 104, 95, 105, 99, 97, 99, 104, 101]⟩, int (-1), int (-1), int (-1), int (-1), int (259), int 0, int 0, strA ⟨#[114, 116, 95, 115, 105, 103, 97, 99, 116, 105, 111, 110]⟩, int (13), int (512), int (174), int (134), int (134), int 0, int 0, strA ⟨#[114, 116, 95, 115, 105, 103, 114, 101, 116, 117, 114, 110]⟩, int (15), int (513), int (173), int (139), int (139), int 0, int 0, strA ⟨#[115, 101, 99, 99, 111, 109, 112]⟩, int (317), int (317), int (354), int (277), int (277), int 0, int 0, strA ⟨#[115, 101, 108, 101, 99, 116]⟩, int (23), int (23), int (82), int (-1), int (-1), int 0, int 0, strA ⟨#[115, 101, 109, 99, 116, 108]⟩, int (66), int (66), int (394), int (191), int (191), int 2, int 3, strA ⟨#[115, 101, 109, 103, 101, 116]⟩, int (64), int (64), int (393), int (190), int (190), int 2, int 2, strA ⟨#[115, 101, 109, 111, 112]⟩, int (65), int (65), int (-1), int (193), int (193), int 2, int 1, strA ⟨#[115, 101, 110, 100]⟩, int (-1), int (-1), int (-1), int (-1), int (-1), int 1, int 9, strA ⟨#[115, 101, 110, 100, 109, 115, 103]⟩, int (46), int (518), int (370), int (211), int (211), int 1, int 16, strA ⟨#[115, 101, 110, 100, 116, 111]⟩, int (44), int (44), int (369), int (206), int (206), int 1, int 11, strA ⟨#[115, 101, 116, 115, 111, 99, 107, 111, 112, 116]⟩, int (54), int (541), int (366), int (208), int (208), int 1, int 14, strA ⟨#[115, 104, 109, 97, 116]⟩, int (30), int (30), int (397), int (196), int (196), int 2, int 21, strA ⟨#[115, 104, 109, 99, 116, 108]⟩, int (31), int (31), int (396), int (195), int (195), int 2, int 24, strA ⟨#[115, 104, 109, 100, 116]⟩, int (67), int (67), int (398), int (197), int (197), int 2, int 22, strA ⟨#[115, 104, 109, 103, 101, 116]⟩, int (29), int (29), int (395), int (194), int (194), int 2, int 23, strA ⟨#[115, 104, 117, 116, 100, 111, 119, 110]⟩, int (48), int (48), int (373), int (210), int (210), int 1, int 13, strA ⟨#[115, 111, 99, 107, 101, 116]⟩, int (41), int (41), int (359), int (198), int (198), int 1, int 1, strA ⟨#[115, 111, 99, 107, 101, 116, 112, 97, 105, 114]⟩, int (53), int (53), int (360), int (199), int (199), int 1, int 8, strA ⟨#[115, 116, 97, 116]⟩, int (4), int (4), int (106), int (-1), int (-1), int 0, int 0, strA ⟨#[116, 105, 109, 101]⟩, int (201), int (201), int (13), int (-1), int (-1), int 0, int 0, strA ⟨#[117, 110, 97, 109, 101]⟩, int (63), int (63), int (122), int (160), int (160), int 0, int 0, strA ⟨#[117, 110, 108, 105, 110, 107]⟩, int (87), int (87), int (10), int (-1), int (-1), int 0, int 0, strA ⟨#[118, 102, 111, 114, 107]⟩, int (58), int (58), int (190), int (-1), int (-1), int 0, int 0, strA ⟨#[119, 97, 105, 116, 112, 105, 100]⟩, int (-1), int (-1), int (7), int (-1), int (-1), int 0, int 0, strA ⟨#[119, 114, 105, 116, 101]⟩, int (1), int (1), int (4), int (64), int (64), int 0, int 0, strA ⟨#[119, 114, 105, 116, 101, 118]⟩, int (20), int (516), int (146), int (66), int (66), int 0, int 0]) := by kernel_rfl
set_option maxHeartbeats 4000000 in
theorem late_spec : Tells Tryz.prog 93 [] (trows lateL) := by
  refine tells_of_aw Tryz.func93 rfl rfl fun nx => ?_
  ((repeat((conv=>whnf);first|apply ω0|apply ω2|refine τ3 rfl ?_|refine τ4 rfl ?_|refine ⟨rfl,?_⟩|apply τa|refine τb rfl ?_|refine ⟨⟨by kernel_rfl,by kernel_rfl⟩,?_⟩|refine ⟨by decide,?_⟩|apply τt|apply τf)); refine aw_region ?_; (repeat((conv=>whnf);first|apply ω0|apply ω2|refine τ3 rfl ?_|refine τ4 rfl ?_|refine ⟨rfl,?_⟩|apply τa|refine τb rfl ?_|refine ⟨⟨by kernel_rfl,by kernel_rfl⟩,?_⟩|refine ⟨by decide,?_⟩|apply τt|apply τf)))
  refine aw_regionY (fun n => match n with | 0 => true | _ => false) 107 ?_
  (repeat((conv=>whnf);first|apply ω0|apply ω1|apply ω2|refine τ3 rfl ?_|refine τ4 rfl ?_|refine ⟨rfl,?_⟩|apply τa|refine τb rfl ?_|refine ⟨⟨by kernel_rfl,by kernel_rfl⟩,?_⟩|refine ⟨by decide,?_⟩|apply τt|apply τf))
  refine aop_build rfl build_late ?_
  (repeat((conv=>whnf);first|apply ω0|apply ω1|apply ω2|refine τ3 rfl ?_|refine τ4 rfl ?_|refine ⟨rfl,?_⟩|apply τa|refine τb rfl ?_|refine ⟨⟨by kernel_rfl,by kernel_rfl⟩,?_⟩|refine ⟨by decide,?_⟩|apply τt|apply τf))
  refine ret_tells rfl (AVle.os_sl.trans (AVle.sl_fun fun k hk => ?_))
  match k, hk with
  | 0, _ => rfl
  | 1, _ => rfl
  | 2, _ => rfl
  | 3, _ => rfl
  | 4, _ => rfl
  | 5, _ => rfl
  | 6, _ => rfl
  | 7, _ => rfl
  | 8, _ => rfl
  | 9, _ => rfl
  | 10, _ => rfl
  | 11, _ => rfl
  | 12, _ => rfl
  | 13, _ => rfl
  | 14, _ => rfl
  | 15, _ => rfl
  | 16, _ => rfl
  | 17, _ => rfl
  | 18, _ => rfl
  | 19, _ => rfl
  | 20, _ => rfl
  | 21, _ => rfl
  | 22, _ => rfl
  | 23, _ => rfl
  | 24, _ => rfl
  | 25, _ => rfl
  | 26, _ => rfl
  | 27, _ => rfl
  | 28, _ => rfl
  | 29, _ => rfl
  | 30, _ => rfl
  | 31, _ => rfl
  | 32, _ => rfl
  | 33, _ => rfl
  | 34, _ => rfl
  | 35, _ => rfl
  | 36, _ => rfl
  | 37, _ => rfl
  | 38, _ => rfl
  | 39, _ => rfl
  | 40, _ => rfl
  | 41, _ => rfl
  | 42, _ => rfl
  | 43, _ => rfl
  | 44, _ => rfl
  | 45, _ => rfl
  | 46, _ => rfl
  | 47, _ => rfl
  | 48, _ => rfl
  | 49, _ => rfl
  | 50, _ => rfl
  | 51, _ => rfl
  | 52, _ => rfl
  | k + 53, hk => exact absurd hk (by omega)
end Go.Proofs.W

namespace Go.Proofs.W
open Go.Vl
set_option maxRecDepth 100000

def builtL : List TRow := earlyL ++ lateL
theorem noid_trows (l : List TRow) : NoId (trows l) := NoId.sl fun i _ c hc => by
  have hc : c ∈ trowC (l.getD i trow0) := hc
  unfold trowC at hc
  simp only [List.mem_cons, List.not_mem_nil, or_false] at hc
  rcases hc with rfl | rfl | rfl | rfl | rfl | rfl | rfl | rfl <;> exact NoId.v _
theorem builtin_spec : Tells Tryz.prog 43 [] (trows builtL) := by
  have hc := concat_trow [earlyL, lateL] (by decide) (by decide) none
  have e : [earlyL, lateL].flatten = builtL := by unfold builtL; simp
  rw [e] at hc
  have he := early_spec
  have hl := late_spec
  generalize earlyL = A at he hc
  generalize lateL = B at hl hc
  generalize builtL = C at hc
  refine tells_of_aw Tryz.func43 rfl rfl fun nx => ?_
  (repeat((conv=>whnf);first|apply ω0|apply ω1|apply ω2|refine τ3 rfl ?_|refine τ4 rfl ?_|refine ⟨rfl,?_⟩|apply τa|refine τb rfl ?_|refine ⟨⟨by kernel_rfl,by kernel_rfl⟩,?_⟩|refine ⟨by decide,?_⟩|apply τt|apply τf))
  refine aop_tells rfl rfl he trivial fun nx2 => ?_
  (repeat((conv=>whnf);first|apply ω0|apply ω1|apply ω2|refine τ3 rfl ?_|refine τ4 rfl ?_|refine ⟨rfl,?_⟩|apply τa|refine τb rfl ?_|refine ⟨⟨by kernel_rfl,by kernel_rfl⟩,?_⟩|refine ⟨by decide,?_⟩|apply τt|apply τf))
  refine aop_tells rfl rfl hl trivial fun nx3 => ?_
  (repeat((conv=>whnf);first|apply ω0|apply ω1|apply ω2|refine τ3 rfl ?_|refine τ4 rfl ?_|refine ⟨rfl,?_⟩|apply τa|refine τb rfl ?_|refine ⟨⟨by kernel_rfl,by kernel_rfl⟩,?_⟩|refine ⟨by decide,?_⟩|apply τt|apply τf))
  refine aop_tells rfl rfl hc ⟨AVle.os_fun fun k hk => ?_, trivial⟩ fun nx4 => ?_
  · match k, hk with
    | 0, _ => rfl
    | 1, _ => rfl
  (repeat((conv=>whnf);first|apply ω0|apply ω1|apply ω2|refine τ3 rfl ?_|refine τ4 rfl ?_|refine ⟨rfl,?_⟩|apply τa|refine τb rfl ?_|refine ⟨⟨by kernel_rfl,by kernel_rfl⟩,?_⟩|refine ⟨by decide,?_⟩|apply τt|apply τf))
  exact ret_tells rfl (AVle.refl _)
end Go.Proofs.W

namespace Go.Proofs.W
open Go.Vl
set_option maxRecDepth 100000

theorem built_len : builtL.length ≤ 1000000 := Nat.le_of_ble_eq_true (by kernel_rfl)
theorem built_names : ∀ r ∈ builtL, r.name.size ≤ maxLen := fun r hr => by
  have : (builtL.all fun r => decide (r.name.size ≤ maxLen)) = true := by kernel_rfl
  exact of_decide_eq_true (List.all_eq_true.1 this r hr)
end Go.Proofs.W

namespace Go.Proofs.W
open Go.Vl
set_option maxRecDepth 100000

theorem few_le {l : List TRow} (h : fewB l = true) : l.length ≤ 40 ∧ ∀ r ∈ l, r.name.size ≤ 60 := by
  unfold fewB at h
  simp only [Bool.and_eq_true, decide_eq_true_eq, Bool.not_eq_true', List.any_eq_false] at h
  exact ⟨h.1, fun r hr => by have := h.2 r hr; omega⟩
end Go.Proofs.W

namespace Go.Proofs.W
open Go.Vl
set_option maxRecDepth 100000

theorem bytes_rows17 : Tryz.prog.bytesOf 106 = 72 := by kernel_rfl
set_option maxHeartbeats 2000000 in
theorem l17rows_spec (l : List TRow) (hl : l.length ≤ 1000000) : Tells Tryz.prog 19 [trows l] (trows l) := by
  refine tells_of_aw Tryz.func19 rfl rfl fun nx => ?_
  (repeat((conv=>whnf);first|apply ω0|apply ω1|apply ω2|refine τ3 rfl ?_|refine τ4 rfl ?_|refine ⟨rfl,?_⟩|apply τa|refine τb rfl ?_|refine ⟨⟨by kernel_rfl,by kernel_rfl⟩,?_⟩|refine ⟨by decide,?_⟩|apply τt|apply τf))
  refine aw_loop (fun s : Nat × Option Nat × Nat => mk 36 [(0, trows l), (3, .os 8 s.1 (fun j => trowA (l.getD j trow0)) (nmd s.2.1)), (4, int s.1)] ⟨[], pmOf (nmd s.2.1) (s.1 * 8), s.2.2, 1⟩) (fun s => s.1 ≤ l.length ∧ (s.2.1 = none → s.1 = 0)) (fun s => l.length - s.1) ?_ ?_
  · exact ⟨(0, none, nx), ⟨Nat.zero_le _, fun _ => rfl⟩, ele_tell (pm := []) _ [] rfl rfl (List.Sublist.refl _) (List.Sublist.refl _) trivial trivial ⟨AVle.refl _, AVle.os_nil, AVle.refl _, trivial⟩⟩
  · rintro ⟨i, oi, nx2⟩ ⟨h3, h4⟩
    dsimp only at h3 h4
    (repeat((conv=>whnf);first|apply ω0|apply ω1|apply ω2|refine τ3 rfl ?_|refine τ4 rfl ?_|refine ⟨rfl,?_⟩|apply τa|refine τb rfl ?_|refine ⟨⟨by kernel_rfl,by kernel_rfl⟩,?_⟩|refine ⟨by decide,?_⟩|apply τt|apply τf))
    intro c h5; cases c
    · have h6 := not_of h5
      dsimp only at h6
      obtain rfl : i = l.length := by omega
      rcases oi with _ | id
      all_goals
        (repeat((conv=>whnf);first|apply ω0|apply ω1|apply ω2|refine τ3 rfl ?_|refine τ4 rfl ?_|refine ⟨rfl,?_⟩|apply τa|refine τb rfl ?_|refine ⟨⟨by kernel_rfl,by kernel_rfl⟩,?_⟩|refine ⟨by decide,?_⟩|apply τt|apply τf))
        exact ret_tells rfl AVle.os_sl
    · have h6 := yes_of h5
      dsimp only at h6
      have hi : i < l.length := by omega
      (repeat((conv=>whnf);first|apply ω0|apply ω1|apply ω2|refine τ3 rfl ?_|refine τ4 rfl ?_|refine ⟨rfl,?_⟩|apply τa|refine τb rfl ?_|refine ⟨⟨by kernel_rfl,by kernel_rfl⟩,?_⟩|refine ⟨by decide,?_⟩|apply τt|apply τf))
      refine aw_mixN 25 _ (fun i => match i with | 23 => true | _ => false) (fun i => match i with | 10 => true | _ => false) [0, 1, 2, 3, 4, 5, 6, 7, 8, 9, 10, 11, 12, 13, 14, 15, 16, 17, 18, 19, 20, 21, 22, 23, 24] (by kernel_rfl) (by kernel_rfl) (HB.refl _) ?_
      (repeat((conv=>whnf);first|apply ω0|apply ω1|apply ω2|refine τ3 rfl ?_|refine τ4 rfl ?_|refine ⟨rfl,?_⟩|apply τa|refine τb rfl ?_|refine ⟨⟨by kernel_rfl,by kernel_rfl⟩,?_⟩|refine ⟨by decide,?_⟩|apply τt|apply τf))
      refine ⟨⟨by dsimp only; omega, by dsimp only; omega⟩, ?_⟩
      (repeat((conv=>whnf);first|apply ω0|apply ω1|apply ω2|refine τ3 rfl ?_|refine τ4 rfl ?_|refine ⟨rfl,?_⟩|apply τa|refine τb rfl ?_|refine ⟨⟨by kernel_rfl,by kernel_rfl⟩,?_⟩|refine ⟨by decide,?_⟩|apply τt|apply τf))
      refine ⟨⟨by dsimp only; omega, by dsimp only; omega⟩, ?_⟩
      (repeat((conv=>whnf);first|apply ω0|apply ω1|apply ω2|refine τ3 rfl ?_|refine τ4 rfl ?_|refine ⟨rfl,?_⟩|apply τa|refine τb rfl ?_|refine ⟨⟨by kernel_rfl,by kernel_rfl⟩,?_⟩|refine ⟨by decide,?_⟩|apply τt|apply τf))
      refine ⟨arr5 (l.getD i trow0), pure_apure rfl rfl (by first | trivial | exact ⟨rfl, Nat.le_of_ble_eq_true rfl⟩), ?_⟩
      (repeat((conv=>whnf);first|apply ω0|apply ω1|apply ω2|refine τ3 rfl ?_|refine τ4 rfl ?_|refine ⟨rfl,?_⟩|apply τa|refine τb rfl ?_|refine ⟨⟨by kernel_rfl,by kernel_rfl⟩,?_⟩|refine ⟨by decide,?_⟩|apply τt|apply τf))
      refine ⟨⟨by dsimp only; omega, by dsimp only; omega⟩, ?_⟩
      (repeat((conv=>whnf);first|apply ω0|apply ω1|apply ω2|refine τ3 rfl ?_|refine τ4 rfl ?_|refine ⟨rfl,?_⟩|apply τa|refine τb rfl ?_|refine ⟨⟨by kernel_rfl,by kernel_rfl⟩,?_⟩|refine ⟨by decide,?_⟩|apply τt|apply τf))
      refine ⟨⟨by dsimp only; omega, by dsimp only; omega⟩, ?_⟩
      (repeat((conv=>whnf);first|apply ω0|apply ω1|apply ω2|refine τ3 rfl ?_|refine τ4 rfl ?_|refine ⟨rfl,?_⟩|apply τa|refine τb rfl ?_|refine ⟨⟨by kernel_rfl,by kernel_rfl⟩,?_⟩|refine ⟨by decide,?_⟩|apply τt|apply τf))
      rcases oi with _ | id
      · obtain rfl := h4 rfl
        refine ⟨_, eff_append1 (e := 106) (c := 8) (pm := []) (n := 0) (oi := none) (sz := 8) (f := fun j => trowA (l.getD j trow0)) (HB.refl _) rfl rfl rfl (.inr ⟨_, rfl⟩) (by kernel_rfl) (by kernel_rfl) (by kernel_rfl) (.inr rfl) (by kernel_rfl) (List.append_nil _).symm (oneRow_one rfl) (by rw [bytes_rows17]; omega) (by omega), fun r h' hr => ?_⟩
        obtain ⟨rfl, rfl⟩ := hr
        (repeat((conv=>whnf);first|apply ω0|apply ω1|apply ω2|refine τ3 rfl ?_|refine τ4 rfl ?_|refine ⟨rfl,?_⟩|apply τa|refine τb rfl ?_|refine ⟨⟨by kernel_rfl,by kernel_rfl⟩,?_⟩|refine ⟨by decide,?_⟩|apply τt|apply τf))
        refine back (0 + 1, some nx2, nx2 + 1) ⟨by dsimp only; omega, (fun h => by cases h)⟩ (by dsimp only; omega) (ele_tell (pm := [((0, nx2), (0 + 1) * 8)]) _ _ rfl rfl (List.Sublist.refl _) (List.Sublist.refl _) trivial ⟨rfl, rfl, trivial⟩ ⟨AVle.refl _, (AVle.os_fun (appF_one (fun k hk => absurd hk (Nat.not_lt_zero k)) ?_)).trans (AVle.os_nm rfl), le_int (wrap_succ (by dsimp only; omega)), trivial⟩)
        rfl
      · refine ⟨_, eff_append1 (e := 106) (c := 8) (pm := []) (n := i) (oi := some (0, id)) (sz := 8) (f := fun j => trowA (l.getD j trow0)) (HB.refl _) rfl rfl rfl (.inr ⟨_, rfl⟩) (by kernel_rfl) (by kernel_rfl) (by kernel_rfl) (.inr rfl) (by kernel_rfl) (List.append_nil _).symm (oneRow_one rfl) (by rw [bytes_rows17]; omega) (by omega), fun r h' hr => ?_⟩
        obtain ⟨rfl, rfl⟩ := hr
        (repeat((conv=>whnf);first|apply ω0|apply ω1|apply ω2|refine τ3 rfl ?_|refine τ4 rfl ?_|refine ⟨rfl,?_⟩|apply τa|refine τb rfl ?_|refine ⟨⟨by kernel_rfl,by kernel_rfl⟩,?_⟩|refine ⟨by decide,?_⟩|apply τt|apply τf))
        refine back (i + 1, some nx2, nx2 + 1) ⟨by dsimp only; omega, (fun h => by cases h)⟩ (by dsimp only; omega) (ele_tell (pm := [((0, nx2), (i + 1) * 8)]) _ _ rfl rfl (List.Sublist.refl _) (List.Sublist.refl _) trivial ⟨rfl, rfl, trivial⟩ ⟨AVle.refl _, (AVle.os_fun (appF_one (fun k hk => rfl) ?_)).trans (AVle.os_nm rfl), le_int (wrap_succ (by dsimp only; omega)), trivial⟩)
        rfl
theorem few17_spec (l : List TRow) (hl : l.length ≤ maxLen) (hn : ∀ r ∈ l, r.name.size ≤ maxLen) : Tells Tryz.prog 17 [trows l] (boolA (fewB l)) := by
  refine tells_of_aw Tryz.func17 rfl rfl fun nx => ?_
  (repeat((conv=>whnf);first|apply ω0|apply ω1|apply ω2|refine τ3 rfl ?_|refine τ4 rfl ?_|refine ⟨rfl,?_⟩|apply τa|refine τb rfl ?_|refine ⟨⟨by kernel_rfl,by kernel_rfl⟩,?_⟩|refine ⟨by decide,?_⟩|apply τt|apply τf))
  by_cases hf : l.length ≤ 40
  rotate_left
  · (repeat((conv=>whnf);first|apply ω0|apply ω1|apply ω2|refine τ3 rfl ?_|refine τ4 rfl ?_|refine ⟨rfl,?_⟩|apply τa|refine τb rfl ?_|refine ⟨⟨by kernel_rfl,by kernel_rfl⟩,?_⟩|refine ⟨by decide,?_⟩|apply τt|apply τf))
    intro c h1; cases c
    · exact absurd (not_of h1) (by first | omega | (dsimp only; omega))
    (repeat((conv=>whnf);first|apply ω0|apply ω1|apply ω2|refine τ3 rfl ?_|refine τ4 rfl ?_|refine ⟨rfl,?_⟩|apply τa|refine τb rfl ?_|refine ⟨⟨by kernel_rfl,by kernel_rfl⟩,?_⟩|refine ⟨by decide,?_⟩|apply τt|apply τf))
    exact ret_tells rfl (le_bool (by unfold fewB; rw [decide_eq_false hf]; rfl))
  · (repeat((conv=>whnf);first|apply ω0|apply ω1|apply ω2|refine τ3 rfl ?_|refine τ4 rfl ?_|refine ⟨rfl,?_⟩|apply τa|refine τb rfl ?_|refine ⟨⟨by kernel_rfl,by kernel_rfl⟩,?_⟩|refine ⟨by decide,?_⟩|apply τt|apply τf))
    intro c h1; cases c
    rotate_left
    · exact absurd (yes_of h1) (by first | omega | (dsimp only; omega))
    (repeat((conv=>whnf);first|apply ω0|apply ω1|apply ω2|refine τ3 rfl ?_|refine τ4 rfl ?_|refine ⟨rfl,?_⟩|apply τa|refine τb rfl ?_|refine ⟨⟨by kernel_rfl,by kernel_rfl⟩,?_⟩|refine ⟨by decide,?_⟩|apply τt|apply τf))
    refine aw_loop (fun s : Nat × Nat => mk 20 [(0, trows l), (3, int s.1)] ⟨[], [], s.2, 0⟩) (fun s => s.1 ≤ l.length ∧ ∀ j, j < s.1 → (l.getD j trow0).name.size ≤ 60) (fun s => l.length - s.1) ?_ ?_
    · exact ⟨(0, nx), ⟨Nat.zero_le _, fun j hj => absurd hj (Nat.not_lt_zero j)⟩, ele_mk rfl rfl ⟨AVle.refl _, AVle.refl _, trivial⟩⟩
    · rintro ⟨i, nx2⟩ ⟨h3, h4⟩
      dsimp only at h3 h4
      (repeat((conv=>whnf);first|apply ω0|apply ω1|apply ω2|refine τ3 rfl ?_|refine τ4 rfl ?_|refine ⟨rfl,?_⟩|apply τa|refine τb rfl ?_|refine ⟨⟨by kernel_rfl,by kernel_rfl⟩,?_⟩|refine ⟨by decide,?_⟩|apply τt|apply τf))
      intro c h5; cases c
      · have h6 := not_of h5
        dsimp only at h6
        obtain rfl : i = l.length := by omega
        (repeat((conv=>whnf);first|apply ω0|apply ω1|apply ω2|refine τ3 rfl ?_|refine τ4 rfl ?_|refine ⟨rfl,?_⟩|apply τa|refine τb rfl ?_|refine ⟨⟨by kernel_rfl,by kernel_rfl⟩,?_⟩|refine ⟨by decide,?_⟩|apply τt|apply τf))
        refine ret_tells rfl (le_bool ?_)
        unfold fewB
        rw [decide_eq_true hf]
        symm
        simp only [Bool.true_and, Bool.not_eq_true', List.any_eq_false, decide_eq_true_eq]
        intro r hr
        obtain ⟨j, hj, rfl⟩ := List.mem_iff_getElem.1 hr
        have := h4 j hj
        simp [List.getD, hj] at this
        omega
      · have h6 := yes_of h5
        dsimp only at h6
        have hi : i < l.length := by omega
        have hnm := hn (l.getD i trow0) (by simp [List.getD, hi])
        (repeat((conv=>whnf);first|apply ω0|apply ω1|apply ω2|refine τ3 rfl ?_|refine τ4 rfl ?_|refine ⟨rfl,?_⟩|apply τa|refine τb rfl ?_|refine ⟨⟨by kernel_rfl,by kernel_rfl⟩,?_⟩|refine ⟨by decide,?_⟩|apply τt|apply τf))
        refine ⟨⟨by dsimp only; omega, by dsimp only; omega⟩, ?_⟩
        (repeat((conv=>whnf);first|apply ω0|apply ω1|apply ω2|refine τ3 rfl ?_|refine τ4 rfl ?_|refine ⟨rfl,?_⟩|apply τa|refine τb rfl ?_|refine ⟨⟨by kernel_rfl,by kernel_rfl⟩,?_⟩|refine ⟨by decide,?_⟩|apply τt|apply τf))
        intro c h7; cases c
        · have h7 := not_of h7
          dsimp only at h7
          rw [Int.toNat_natCast] at h7
          (repeat((conv=>whnf);first|apply ω0|apply ω1|apply ω2|refine τ3 rfl ?_|refine τ4 rfl ?_|refine ⟨rfl,?_⟩|apply τa|refine τb rfl ?_|refine ⟨⟨by kernel_rfl,by kernel_rfl⟩,?_⟩|refine ⟨by decide,?_⟩|apply τt|apply τf))
          exact back (i + 1, nx2) ⟨hi, fun j hj => by dsimp only at hj; rcases Nat.lt_or_ge j i with q | q; exact h4 j q; rw [show j = i by omega]; omega⟩ (by dsimp only; omega) (ele_mk rfl rfl ⟨AVle.refl _, le_int (wrap_succ (by dsimp only; omega)), trivial⟩)
        · have h7 := yes_of h7
          dsimp only at h7
          rw [Int.toNat_natCast] at h7
          (repeat((conv=>whnf);first|apply ω0|apply ω1|apply ω2|refine τ3 rfl ?_|refine τ4 rfl ?_|refine ⟨rfl,?_⟩|apply τa|refine τb rfl ?_|refine ⟨⟨by kernel_rfl,by kernel_rfl⟩,?_⟩|refine ⟨by decide,?_⟩|apply τt|apply τf))
          refine ret_tells rfl (le_bool ?_)
          unfold fewB
          symm
          rw [Bool.and_eq_false_iff]
          right
          simp only [Bool.not_eq_false', List.any_eq_true, decide_eq_true_eq]
          exact ⟨l.getD i trow0, by simp [List.getD, hi], by omega⟩
theorem record17_spec (r : Rec) : Tells Tryz.prog 20 [recA r] (recA r) := by
  refine tells_of_aw Tryz.func20 rfl rfl fun nx => ?_
  (repeat((conv=>whnf);first|apply ω0|apply ω1|apply ω2|refine τ3 rfl ?_|refine τ4 rfl ?_|refine ⟨rfl,?_⟩|apply τa|refine τb rfl ?_|refine ⟨⟨by kernel_rfl,by kernel_rfl⟩,?_⟩|refine ⟨by decide,?_⟩|apply τt|apply τf))
  exact ret_tells_all rfl ⟨rfl, trivial⟩ (AVle.refl _)
end Go.Proofs.W

namespace Go.Proofs.W
open Go.Vl
set_option maxRecDepth 100000

def seenA (a : Int) (x : Nat) : Nat := if a = 2 then x % 4294967296 else x
def hR (a : Int) (x : Nat → Nat) (c : Cnd) : Bool := holdsC c (seenA a (x c.arg.toNat))
def decR (p : Pol) (nm : ByteArray) (a : Int) (x : Nat → Nat) : A2 := match p.rules.find? (fun r => kS r.name nm && r.conds.all (hR a x)) with
  | some r => r.act
  | none => p.dflt
end Go.Proofs.W

namespace Go.Proofs.W
open Go.Vl
set_option maxRecDepth 100000

end Go.Proofs.W

namespace Go.Proofs.W
open Go.Vl
set_option maxRecDepth 100000

end Go.Proofs.W

namespace Go.Proofs.W
open Go.Vl
set_option maxRecDepth 100000

theorem conds_right {p : Pol} (h : rightP p = true) : ∀ r ∈ p.rules, ∀ c ∈ r.conds, rightC c = true := fun r hr c hc => by
  have := (rights h).2 r hr
  unfold rightR at this
  simp only [Bool.and_eq_true, Bool.not_eq_true', List.any_eq_false] at this
  have := this.2.2.2 c hc
  simpa using this
def actQ (p : Pol) (l : List TRow) (s : Int) (x : Nat → Nat) (mx : Bool) : Option Nat → A2
  | none => p.dflt
  | some i => if mx = true then blindP p (l.getD i trow0).name else decR p (l.getD i trow0).name s x
def actionR (p : Pol) (l : List TRow) (r : Rec) : A2 := actQ p l (selI r.arch r.num) r.arg (muxB r) (atO l r)
def judgeQ (p : Pol) (l : List TRow) (r : Rec) : Nat := if (decide (selI r.arch r.num < 0) || (decide (selI r.arch r.num = 1) && !p.x32)) = true then 2147483648 else codeA (actionR p l r)
end Go.Proofs.W

namespace Go.Proofs.W
open Go.Vl
set_option maxRecDepth 100000

theorem find_cong {α : Type} {p q : α → Bool} : ∀ {l : List α}, (∀ x ∈ l, p x = q x) → l.find? p = l.find? q
  | [], _ => rfl
  | x :: l, h => by
    rw [List.find?_cons, List.find?_cons, h x (.head _), find_cong fun y hy => h y (.tail _ hy)]
theorem hB_hR {x y : Nat → Nat} {a : Int} {c : Cnd} (hc : rightC c = true) (hxy : ∀ i, x i = seenA a (y i)) : hB x c = hR a y c := by
  obtain ⟨h1, h2, _⟩ := rightC_iff.1 hc
  unfold hB hR
  rw [hc, Bool.true_and]
  obtain ⟨arg, op, mask, value⟩ := c
  dsimp only at h1 h2 ⊢
  obtain rfl | rfl | rfl | rfl | rfl | rfl : arg = 0 ∨ arg = 1 ∨ arg = 2 ∨ arg = 3 ∨ arg = 4 ∨ arg = 5 := by omega
  · rw [← hxy]; rfl
  · rw [← hxy]; rfl
  · rw [← hxy]; rfl
  · rw [← hxy]; rfl
  · rw [← hxy]; rfl
  · rw [← hxy]; rfl
theorem dec_eq {p : Pol} (h : ∀ r ∈ p.rules, ∀ c ∈ r.conds, rightC c = true) (nm : ByteArray) {x y : Nat → Nat} {a : Int} (hxy : ∀ i, x i = seenA a (y i)) : decP p nm x = decR p nm a y := by
  have e : p.rules.find? (fun r => kS r.name nm && letB x r) = p.rules.find? (fun r => kS r.name nm && r.conds.all (hR a y)) := find_cong fun r hr => by
    show (kS r.name nm && r.conds.all (hB x)) = (kS r.name nm && r.conds.all (hR a y))
    refine congrArg (kS r.name nm && ·) ?_
    rw [Bool.eq_iff_iff, List.all_eq_true, List.all_eq_true]
    exact ⟨fun k c hc => by rw [← hB_hR (h r hr c hc) hxy]; exact k c hc, fun k c hc => by rw [hB_hR (h r hr c hc) hxy]; exact k c hc⟩
  unfold decP decR
  rw [e]
  cases p.rules.find? (fun r => kS r.name nm && r.conds.all (hR a y)) <;> rfl
theorem ofI_eq (l : List TRow) (r : Rec) : (selI r.arch r.num < 0 ∧ (ofI l r).some = false) ∨ (0 ≤ selI r.arch r.num ∧ ofI l r = ⟨true, selI r.arch r.num, nameO l (atO l r), muxB r⟩) := by
  unfold ofI selI atO muxB
  cases hs : selO r.arch r.num with
  | none => exact .inl ⟨by decide, rfl⟩
  | some a =>
    refine .inr ⟨Int.natCast_nonneg _, ?_⟩
    dsimp only
    split
    · rename_i h; rw [decide_eq_true h]
    · rename_i h; rw [decide_eq_false h]
/-- A policy judges as it is defined. -/
theorem judge_eq {p : Pol} {l : List TRow} {r : Rec} (hp : rightP p = true) (hl : (tabR l).2 = 0) : codeA (actionP p l r) = judgeQ p l r := by
  unfold actionP judgeQ actionR
  rcases ofI_eq l r with ⟨h1, h2⟩ | ⟨h1, h2⟩
  · rw [h2, if_pos (by rfl), if_pos (by rw [decide_eq_true h1]; rfl)]
    rfl
  · rw [h2]
    dsimp only
    rw [show decide (selI r.arch r.num < 0) = false from decide_eq_false (by omega)]
    by_cases hx : (decide (selI r.arch r.num = 1) && !p.x32) = true
    · rw [if_pos (show (!true || (decide (selI r.arch r.num = 1) && !p.x32)) = true by rw [hx]; rfl), if_pos (show (false || (decide (selI r.arch r.num = 1) && !p.x32)) = true by rw [hx]; rfl)]; rfl
    · rw [Bool.not_eq_true] at hx
      rw [if_neg (show ¬ (!true || (decide (selI r.arch r.num = 1) && !p.x32)) = true by rw [hx]; decide), if_neg (show ¬ (false || (decide (selI r.arch r.num = 1) && !p.x32)) = true by rw [hx]; decide)]
      congr 1
      cases hat : atO l r with
      | none => rw [if_pos (show (nameO l none).size = 0 from rfl)]; rfl
      | some i =>
        have hn := tab_name hl (atO_lt hat)
        rw [if_neg (show ¬ (nameO l (some i)).size = 0 from hn)]
        show _ = if muxB r = true then _ else _
        split
        · rfl
        · refine dec_eq (conds_right hp) _ fun k => ?_
          unfold argI seenA
          by_cases q : selI r.arch r.num = 2
          · rw [if_pos q, if_pos (by rw [q]; rfl)]
          · rw [if_neg q, if_neg (by omega)]
end Go.Proofs.W

namespace Go.Proofs.W
open Go.Vl
set_option maxRecDepth 100000

def recW (num arch : Nat) : Rec := ⟨num, arch, 0, 0, 0, 0, 0, 0, 0⟩
theorem pAw_ok : polOk pAw := by
  refine ⟨by decide, fun r hr => ?_⟩
  rw [List.mem_singleton.1 hr]
  exact ⟨by decide, fun c hc => by cases hc⟩
theorem pAw_ok2 : pAw.ok := by
  refine ⟨by decide, fun r hr => ?_⟩
  rw [List.mem_singleton.1 hr]
  exact ⟨by decide, by decide, fun c hc => by cases hc⟩
theorem awj1 : judgeR pAw builtL (recW 0 3221225534) = (2147418112, 0) := by kernel_rfl
theorem awj2 : judgeR pAw builtL (recW 63 3221225715) = (2147418112, 0) := by kernel_rfl
theorem awj3 : judgeR pAw builtL (recW 64 3221225715) = (2147483648, 0) := by kernel_rfl
end Go.Proofs.W

namespace Go.Proofs.W
open Go.Vl
set_option maxRecDepth 100000

theorem recW_ok {num arch : Nat} (h1 : num < 4294967296) (h2 : arch < 4294967296) : (recW num arch).ok := by unfold recW Rec.ok; exact ⟨h1, h2, Nat.zero_lt_succ _, Nat.zero_lt_succ _, Nat.zero_lt_succ _, Nat.zero_lt_succ _, Nat.zero_lt_succ _, Nat.zero_lt_succ _, Nat.zero_lt_succ _⟩
theorem aw_judge (num arch : Nat) (h1 : num < 4294967296) (h2 : arch < 4294967296) (v : Nat) (hv : judgeR pAw builtL (recW num arch) = (v, 0)) : Tells Tryz.prog 18 [polA pAw, trows builtL, recA (recW num arch)] (.tup [u32 (v : Nat), int 0]) := by
  have h := judge_law pAw builtL (recW num arch) pAw_ok pAw_ok2 built_len built_names (recW_ok h1 h2)
  rw [hv] at h
  exact h
theorem noid_uj (v : Nat) : NoId (.tup [u32 (v : Nat), int 0]) := NoId.tup (by
  intro y hy
  simp only [List.mem_cons, List.not_mem_nil, or_false] at hy
  rcases hy with rfl | rfl <;> exact NoId.v _)
set_option maxHeartbeats 8000000 in
theorem awake17_spec : Tells Tryz.prog 11 [] (boolA true) := by
  have hb := builtin_spec
  have h1 := aw_judge 0 3221225534 (by decide) (by decide) _ awj1
  have h2 := aw_judge 63 3221225715 (by decide) (by decide) _ awj2
  have h3 := aw_judge 64 3221225715 (by decide) (by decide) _ awj3
  generalize builtL = B at hb h1 h2 h3
  refine tells_of_aw Tryz.func11 rfl rfl fun nx => ?_
  (repeat((conv=>whnf);first|apply ω0|apply ω1|apply ω2|refine τ3 rfl ?_|refine τ4 rfl ?_|refine ⟨rfl,?_⟩|apply τa|refine τb rfl ?_|refine ⟨⟨by kernel_rfl,by kernel_rfl⟩,?_⟩|refine ⟨by decide,?_⟩|apply τt|apply τf))
  refine aop_tells rfl rfl parse_spec ⟨AVle.refl _, trivial⟩ fun nx2 => ?_
  (repeat((conv=>whnf);first|apply ω0|apply ω1|apply ω2|refine τ3 rfl ?_|refine τ4 rfl ?_|refine ⟨rfl,?_⟩|apply τa|refine τb rfl ?_|refine ⟨⟨by kernel_rfl,by kernel_rfl⟩,?_⟩|refine ⟨by decide,?_⟩|apply τt|apply τf))
  refine aw_mixN 8 _ (fun _ => false) (fun i => match i with | 1 => true | 3 => true | _ => false) [0, 1, 2, 3, 4, 5, 6, 7] (by kernel_rfl) (by kernel_rfl) (HB.refl _) ?_
  (repeat((conv=>whnf);first|apply ω0|apply ω1|apply ω2|refine τ3 rfl ?_|refine τ4 rfl ?_|refine ⟨rfl,?_⟩|apply τa|refine τb rfl ?_|refine ⟨⟨by kernel_rfl,by kernel_rfl⟩,?_⟩|refine ⟨by decide,?_⟩|apply τt|apply τf))
  refine ⟨_, pure_tells rfl rfl rfl hb trivial (noid_trows _), ?_⟩
  (repeat((conv=>whnf);first|apply ω0|apply ω1|apply ω2|refine τ3 rfl ?_|refine τ4 rfl ?_|refine ⟨rfl,?_⟩|apply τa|refine τb rfl ?_|refine ⟨⟨by kernel_rfl,by kernel_rfl⟩,?_⟩|refine ⟨by decide,?_⟩|apply τt|apply τf))
  refine ⟨_, pure_tells rfl rfl rfl h1 ⟨AVle.refl _, AVle.refl _, AVle.refl _, trivial⟩ (noid_uj _), ?_⟩
  (repeat((conv=>whnf);first|apply ω0|apply ω1|apply ω2|refine τ3 rfl ?_|refine τ4 rfl ?_|refine ⟨rfl,?_⟩|apply τa|refine τb rfl ?_|refine ⟨⟨by kernel_rfl,by kernel_rfl⟩,?_⟩|refine ⟨by decide,?_⟩|apply τt|apply τf))
  refine aw_mixN 8 _ (fun _ => false) (fun i => match i with | 1 => true | 3 => true | _ => false) [0, 1, 2, 3, 4, 5, 6, 7] (by kernel_rfl) (by kernel_rfl) (HB.refl _) ?_
  (repeat((conv=>whnf);first|apply ω0|apply ω1|apply ω2|refine τ3 rfl ?_|refine τ4 rfl ?_|refine ⟨rfl,?_⟩|apply τa|refine τb rfl ?_|refine ⟨⟨by kernel_rfl,by kernel_rfl⟩,?_⟩|refine ⟨by decide,?_⟩|apply τt|apply τf))
  refine ⟨_, pure_tells rfl rfl rfl hb trivial (noid_trows _), ?_⟩
  (repeat((conv=>whnf);first|apply ω0|apply ω1|apply ω2|refine τ3 rfl ?_|refine τ4 rfl ?_|refine ⟨rfl,?_⟩|apply τa|refine τb rfl ?_|refine ⟨⟨by kernel_rfl,by kernel_rfl⟩,?_⟩|refine ⟨by decide,?_⟩|apply τt|apply τf))
  refine ⟨_, pure_tells rfl rfl rfl h2 ⟨AVle.refl _, AVle.refl _, AVle.refl _, trivial⟩ (noid_uj _), ?_⟩
  (repeat((conv=>whnf);first|apply ω0|apply ω1|apply ω2|refine τ3 rfl ?_|refine τ4 rfl ?_|refine ⟨rfl,?_⟩|apply τa|refine τb rfl ?_|refine ⟨⟨by kernel_rfl,by kernel_rfl⟩,?_⟩|refine ⟨by decide,?_⟩|apply τt|apply τf))
  refine aw_mixN 8 _ (fun _ => false) (fun i => match i with | 1 => true | 3 => true | _ => false) [0, 1, 2, 3, 4, 5, 6, 7] (by kernel_rfl) (by kernel_rfl) (HB.refl _) ?_
  (repeat((conv=>whnf);first|apply ω0|apply ω1|apply ω2|refine τ3 rfl ?_|refine τ4 rfl ?_|refine ⟨rfl,?_⟩|apply τa|refine τb rfl ?_|refine ⟨⟨by kernel_rfl,by kernel_rfl⟩,?_⟩|refine ⟨by decide,?_⟩|apply τt|apply τf))
  refine ⟨_, pure_tells rfl rfl rfl hb trivial (noid_trows _), ?_⟩
  (repeat((conv=>whnf);first|apply ω0|apply ω1|apply ω2|refine τ3 rfl ?_|refine τ4 rfl ?_|refine ⟨rfl,?_⟩|apply τa|refine τb rfl ?_|refine ⟨⟨by kernel_rfl,by kernel_rfl⟩,?_⟩|refine ⟨by decide,?_⟩|apply τt|apply τf))
  refine ⟨_, pure_tells rfl rfl rfl h3 ⟨AVle.refl _, AVle.refl _, AVle.refl _, trivial⟩ (noid_uj _), ?_⟩
  (repeat((conv=>whnf);first|apply ω0|apply ω1|apply ω2|refine τ3 rfl ?_|refine τ4 rfl ?_|refine ⟨rfl,?_⟩|apply τa|refine τb rfl ?_|refine ⟨⟨by kernel_rfl,by kernel_rfl⟩,?_⟩|refine ⟨by decide,?_⟩|apply τt|apply τf))
  exact ret_tells rfl (AVle.refl _)
end Go.Proofs.W

namespace Go.Proofs.W
open Go.Vl
set_option maxRecDepth 100000

theorem light17_ok {p : Pol} (h : lightP p = true) : p.rules.length ≤ 40 ∧ ∀ r ∈ p.rules, r.conds.length ≤ 12 := by
  unfold lightP at h
  simp only [Bool.and_eq_true, decide_eq_true_eq, List.all_eq_true] at h
  refine ⟨h.1, fun r hr => ?_⟩
  have := h.2 r hr
  unfold lightR at this
  simp only [Bool.and_eq_true, decide_eq_true_eq] at this
  exact this.2
theorem polOk_of {p : Pol} (hp : p.ok) (h : lightP p = true) : polOk p := by
  obtain ⟨h1, h2⟩ := light17_ok h
  exact ⟨by omega, fun r hr => ⟨by have := h2 r hr; omega, (hp.2 r hr).2.2⟩⟩
end Go.Proofs.W

namespace Go.Proofs.W
open Go.Vl
set_option maxRecDepth 100000

/- A policy's normal form decides as it does. -/
def decL (x : Nat → Nat) (l : List Rul) : Option A2 := (l.find? (letB x)).map (·.act)
theorem hB_norm {x : Nat → Nat} (hx : ∀ i, x i < 18446744073709551616) {c : Cnd} (ho : c.ok) : ((normC c).2 = 1 → hB x c = true) ∧ ((normC c).2 = 2 → hB x c = false) ∧ ((normC c).2 = 0 → hB x (normC c).1 = hB x c) := by
  unfold hB
  by_cases hr : rightC c = true
  · have h := normC_holds ho hr (six_lt hx c.arg.toNat)
    rw [hr, Bool.true_and]
    refine ⟨h.1, h.2.1, fun h0 => ?_⟩
    obtain ⟨k1, k2, k3⟩ := h.2.2 h0
    rw [k1, k2, k3, Bool.true_and]
  · have h2 : (normC c).2 = 2 := by unfold normC; rw [if_neg hr]; rfl
    rw [h2, Bool.eq_false_iff.2 hr, Bool.false_and]
    exact ⟨fun h => (by cases h), fun _ => rfl, fun h => (by cases h)⟩
theorem let_none {x : Nat → Nat} (hx : ∀ i, x i < 18446744073709551616) {r : Rul} (hc : ∀ c ∈ r.conds, c.ok) (h : normR r = none) : letB x r = false := by
  unfold normR at h
  by_cases ha : r.conds.any neverC = true
  · obtain ⟨c, h1, h2⟩ := List.any_eq_true.1 ha
    unfold neverC at h2
    unfold letB
    rw [List.all_eq_false]
    exact ⟨c, h1, by rw [(hB_norm hx (hc c h1)).2.1 (of_decide_eq_true h2)]; decide⟩
  · rw [if_neg ha] at h; cases h
theorem all_asks {x : Nat → Nat} (hx : ∀ i, x i < 18446744073709551616) : ∀ (l : List Cnd), (∀ c ∈ l, c.ok) → l.any neverC = false → (asksOf l).all (hB x) = l.all (hB x)
  | [], _, _ => rfl
  | c :: l, hc, hn => by
    have ih := all_asks hx l (fun d hd => hc d (List.mem_cons_of_mem _ hd)) (by simp at hn ⊢; exact hn.2)
    have hcn : neverC c = false := by simp at hn; simpa using hn.1
    unfold asksOf at ih ⊢
    have h := hB_norm hx (hc c List.mem_cons_self)
    rcases normC_state c with h0 | h0 | h0
    · rw [List.filterMap_cons, askC_0 h0, List.all_cons, List.all_cons, ih, h.2.2 h0]
    · rw [List.filterMap_cons, askC_1 (by omega), List.all_cons, ih, h.1 h0, Bool.true_and]
    · unfold neverC at hcn; rw [h0] at hcn; cases hcn
theorem let_some {x : Nat → Nat} (hx : ∀ i, x i < 18446744073709551616) {r n : Rul} (hc : ∀ c ∈ r.conds, c.ok) (h : normR r = some n) : letB x n = letB x r ∧ n.act = r.act ∧ n.name = r.name := by
  unfold normR at h
  by_cases ha : r.conds.any neverC = true
  · rw [if_pos ha] at h; cases h
  · rw [if_neg ha] at h
    obtain rfl := Option.some.inj h
    refine ⟨?_, rfl, rfl⟩
    unfold letB
    rw [← all_asks hx r.conds hc (Bool.eq_false_iff.2 ha), Bool.eq_iff_iff, List.all_eq_true, List.all_eq_true]
    exact ⟨fun k c hc => k c ((cmpt_spec _).2 c |>.2 hc), fun k c hc => k c ((cmpt_spec _).2 c |>.1 hc)⟩
theorem decL_app {x : Nat → Nat} (l m : List Rul) : decL x (l ++ m) = (decL x l).or (decL x m) := by
  unfold decL
  rw [List.find?_append]
  cases l.find? (letB x) <;> rfl
theorem decL_one {x : Nat → Nat} (r : Rul) : decL x [r] = if letB x r then some r.act else none := by
  unfold decL
  rw [List.find?_cons]
  cases letB x r <;> rfl
theorem decL_in {x : Nat → Nat} {l : List Rul} {m : Rul} (h : m ∈ l) (hl : letB x m = true) : ∃ a, decL x l = some a := by
  unfold decL
  cases hf : l.find? (letB x) with
  | none => exact absurd hl (by simpa using List.find?_eq_none.1 hf m h)
  | some r => exact ⟨r.act, rfl⟩
theorem decL_add {x : Nat → Nat} (hx : ∀ i, x i < 18446744073709551616) {l : List Rul} {r : Rul} (hc : ∀ c ∈ r.conds, c.ok) : decL x (addN l r) = (decL x l).or (decL x [r]) := by
  unfold addN
  cases hn : normR r with
  | none =>
    dsimp only
    rw [decL_one, let_none hx hc hn]
    cases decL x l <;> rfl
  | some n =>
    dsimp only
    obtain ⟨h1, h2, h3⟩ := let_some hx hc hn
    by_cases hh : hidden l n = true
    · rw [if_pos hh, decL_one]
      unfold hidden at hh
      obtain ⟨m, hm, hd⟩ := List.any_eq_true.1 hh
      cases hr : letB x r with
      | false => cases decL x l <;> rfl
      | true =>
        have hlm : letB x m = true := by
          unfold hidR at hd
          rw [Bool.or_eq_true, decide_eq_true_iff, decide_eq_true_iff] at hd
          rcases hd with hd | hd
          · unfold letB; rw [hd]; rfl
          · rw [← h1] at hr; unfold letB at hr ⊢; rw [hd]; exact hr
        obtain ⟨a, ha⟩ := decL_in hm hlm
        rw [ha]; rfl
    · rw [if_neg hh, decL_app, decL_one, decL_one, h1, h2]
theorem decL_fold {x : Nat → Nat} (hx : ∀ i, x i < 18446744073709551616) : ∀ (rs l : List Rul), (∀ r ∈ rs, ∀ c ∈ r.conds, c.ok) → decL x (rs.foldl addN l) = (decL x l).or (decL x rs)
  | [], l, _ => by rw [List.foldl_nil]; cases decL x l <;> rfl
  | r :: rs, l, h => by
    rw [List.foldl_cons, decL_fold hx rs _ fun q hq => h q (List.mem_cons_of_mem _ hq), decL_add hx (h r List.mem_cons_self), Option.or_assoc, ← decL_app]
    rfl
theorem decL_cut {x : Nat → Nat} {d : A2} : ∀ (k : Nat) (l : List Rul), l.length ≤ k → (decL x (cutL d l)).getD d = (decL x l).getD d
  | 0, l, h => by rw [List.length_eq_zero_iff.1 (by omega : l.length = 0)]; rfl
  | k + 1, l, h => by
    rcases nil_or_snoc l with rfl | ⟨l', r, rfl⟩
    · rfl
    · rw [cutL_snoc]
      split
      · rename_i hd
        rw [List.length_append, List.length_singleton] at h
        rw [decL_cut k l' (by omega), decL_app, decL_one]
        cases decL x l' with
        | some a => rfl
        | none => cases letB x r <;> simp [hd]
      · rfl
theorem find_filter {q : Rul → Bool} {x : Nat → Nat} : ∀ l : List Rul, l.find? (fun r => q r && letB x r) = (l.filter q).find? (letB x)
  | [] => rfl
  | r :: l => by
    rw [List.find?_cons, List.filter_cons, find_filter l]
    cases hq : q r with
    | false => rw [Bool.false_and]; rfl
    | true => rw [Bool.true_and, if_pos rfl, List.find?_cons]
theorem kS_key (s t : ByteArray) : kS s t = keyB t s := by
  rw [Bool.eq_iff_iff, kS_eq, keyB_eq]
  exact ⟨Eq.symm, Eq.symm⟩
theorem dec_decL (p : Pol) (nm : ByteArray) (x : Nat → Nat) : decP p nm x = (decL x (p.rules.filter fun r => keyB nm r.name)).getD p.dflt := by
  unfold decP decL
  rw [show (fun r : Rul => kS r.name nm && letB x r) = fun r => keyB nm r.name && letB x r from funext fun r => by rw [kS_key], find_filter]
  cases (p.rules.filter fun r => keyB nm r.name).find? (letB x) <;> rfl
theorem dec_gOf (p : Pol) (hp : ∀ r ∈ p.rules, ∀ c ∈ r.conds, c.ok) (nm : ByteArray) {x : Nat → Nat} (hx : ∀ i, x i < 18446744073709551616) : decP p nm x = (decL x (gOf nm p.rules)).getD p.dflt := by
  rw [dec_decL, gOf_filter, decL_fold hx _ _ fun r hr => hp r (List.mem_filter.1 hr).1]
  rfl
theorem normR_cok {r n : Rul} (h : normR r = some n) (hc : ∀ c ∈ r.conds, c.ok) : ∀ c ∈ n.conds, c.ok := (normR_again h).2.2 hc
theorem norm_cok {p : Pol} (hp : ∀ r ∈ p.rules, ∀ c ∈ r.conds, c.ok) : ∀ r ∈ (normP p).rules, ∀ c ∈ r.conds, c.ok := fun n hn => by
  obtain ⟨r, hr, h⟩ := out_mem (d := p.dflt) (rs := p.rules) hn
  exact normR_cok h (hp r hr)
theorem dec_norm (p : Pol) (hp : ∀ r ∈ p.rules, ∀ c ∈ r.conds, c.ok) (nm : ByteArray) {x : Nat → Nat} (hx : ∀ i, x i < 18446744073709551616) : decP (normP p) nm x = decP p nm x := by
  rw [dec_gOf _ (norm_cok hp) nm hx, dec_gOf p hp nm hx]
  show (decL x (gOf nm (outR p.dflt (groupsOf p.rules) (keysOf (groupsOf p.rules))))).getD p.dflt = _
  rw [gOf_out, decL_cut _ _ (Nat.le_refl _)]
theorem blind_dec {p : Pol} {nm : ByteArray} (x : Nat → Nat) (h : ∀ r ∈ p.rules, kS r.name nm = true → r.conds = []) : blindP p nm = decP p nm x := by
  unfold blindP decP
  rw [show p.rules.find? (fun r => kS r.name nm && letB x r) = p.rules.find? (fun r => kS r.name nm) from find_cong fun r hr => by
    cases hk : kS r.name nm with
    | false => rfl
    | true => unfold letB; rw [h r hr hk]; rfl]
  cases hf : p.rules.find? (fun r => kS r.name nm) with
  | none => rfl
  | some r =>
    dsimp only
    rw [h r (List.mem_of_find?_eq_some hf) (by simpa using List.find?_some hf)]
    rfl
theorem blind_norm {p : Pol} (hp : ∀ r ∈ p.rules, ∀ c ∈ r.conds, c.ok) {nm : ByteArray} (h : ∀ r ∈ p.rules, kS r.name nm = true → r.conds = []) : blindP (normP p) nm = blindP p nm := by
  rw [blind_dec (fun _ => 0) h, blind_dec (p := normP p) (fun _ => 0), dec_norm p hp nm fun _ => by decide]
  intro n hn hk
  obtain ⟨r, hr, hnr⟩ := out_mem (d := p.dflt) (rs := p.rules) hn
  have h1 := normR_conds hnr
  rw [h1.2.1] at hk
  have h2 := h r hr hk
  rw [h2] at h1
  exact List.length_eq_zero_iff.1 (Nat.le_zero.1 h1.1)
theorem row_self17 {l : List TRow} (hok : (tabR l).2 = 0) {a : Nat} (ha : a < l.length) : rowOf l (l.getD a trow0).name = l.getD a trow0 := by
  have hs := tab_sorted hok
  have hm := sorted_mono hs (l.getD a trow0).name
  have h1 : ¬ lowB l (l.getD a trow0).name < a := fun q => by
    have := lowB_at (l := l) (s := (l.getD a trow0).name) (by omega)
    exact this (cmpS_lt.2 (hs _ _ q ha))
  have h2 : ¬ a < lowB l (l.getD a trow0).name := fun q => by
    have := lowB_lt q
    rw [cmpS_lt] at this
    exact RSb_irr _ this
  have e : lowB l (l.getD a trow0).name = a := by omega
  unfold rowOf foundB
  rw [e, decide_eq_true ha, decide_eq_true (cmpS_eq.2 rfl)]
  rfl
/-- Has a policy conditions for a name with a multiplexer? -/
def blindB (l : List TRow) (r : Rul) : Bool := decide ((rowOf l r.name).mux > 0) && decide (r.conds.length > 0)
theorem of_mux {l : List TRow} {r : Rec} (hok : (tabR l).2 = 0) (hm : (ofI l r).muxed = true) (hn : (ofI l r).name.size ≠ 0) : (rowOf l (ofI l r).name).mux > 0 := by
  unfold ofI at hm hn ⊢
  cases hs : selO r.arch r.num with
  | none => rw [hs] at hm; cases hm
  | some a =>
    rw [hs] at hm hn
    dsimp only at hm hn ⊢
    split at hm
    · rename_i hk
      rw [if_pos hk] at hn ⊢
      dsimp only at hn ⊢
      cases hf : l.findIdx? (subB (kindO a r.num) ((r.a0 % 4294967296 : Nat) : Int)) with
      | none => rw [hf] at hn; exact absurd rfl hn
      | some i =>
        obtain ⟨hi, hb, _⟩ := List.findIdx?_eq_some_iff_getElem.1 hf
        show (rowOf l (l.getD i trow0).name).mux > 0
        rw [row_self17 hok hi]
        unfold subB at hb
        simp only [Bool.and_eq_true, decide_eq_true_eq] at hb
        rw [show l.getD i trow0 = l[i] from by simp [List.getD, hi], hb.1]
        omega
    · cases hm
theorem action_norm {p : Pol} {l : List TRow} {r : Rec} (hp : ∀ r ∈ p.rules, ∀ c ∈ r.conds, c.ok) (hok : (tabR l).2 = 0) (hr : r.ok) : actionP (normP p) l r = actionP p l r ∨ ((ofI l r).muxed = true ∧ p.rules.any (blindB l) = true) := by
  unfold actionP
  rw [show (normP p).x32 = p.x32 from rfl, show (normP p).dflt = p.dflt from rfl]
  by_cases h1 : (!(ofI l r).some || (decide ((ofI l r).abi = 1) && !p.x32)) = true
  · rw [if_pos h1, if_pos h1]; exact .inl rfl
  rw [if_neg h1, if_neg h1]
  by_cases hn : (ofI l r).name.size = 0
  · rw [if_pos hn, if_pos hn]; exact .inl rfl
  rw [if_neg hn, if_neg hn]
  by_cases hm : (ofI l r).muxed = true
  · rw [if_pos hm, if_pos hm]
    by_cases hb : p.rules.any (blindB l) = true
    · exact .inr ⟨hm, hb⟩
    · left
      refine blind_norm hp fun q hq hk => ?_
      have hq0 := List.any_eq_false.1 (Bool.eq_false_iff.2 hb) q hq
      unfold blindB at hq0
      rw [kS_eq.1 hk, decide_eq_true (of_mux hok hm hn), Bool.true_and, decide_eq_true_iff] at hq0
      exact List.length_eq_zero_iff.1 (by omega)
  · rw [if_neg hm, if_neg hm]
    exact .inl (dec_norm p hp _ fun i => argI_lt hr _ i)
theorem judge_norm {p : Pol} {l : List TRow} {r : Rec} (hp : ∀ r ∈ p.rules, ∀ c ∈ r.conds, c.ok) (hr : r.ok) (h1 : rightP p = true) (hok : (tabR l).2 = 0) : (judgeR (normP p) l r).2 = 0 ∧ ((judgeR (normP p) l r).1 = (judgeR p l r).1 ∨ ((ofI l r).muxed = true ∧ p.rules.any (blindB l) = true)) := by
  unfold judgeR
  rw [h1, norm_right h1, if_neg (by decide), if_neg (by omega), if_neg (by decide), if_neg (by omega)]
  refine ⟨rfl, ?_⟩
  rcases action_norm (p := p) (l := l) (r := r) hp hok hr with h | h
  · left; dsimp only; rw [h]
  · exact .inr h
end Go.Proofs.W

namespace Go.Proofs.W
open Go.Vl
set_option maxRecDepth 100000

theorem judge_cases (p : Pol) (l : List TRow) (r : Rec) : (rightP p = false ∧ judgeR p l r = (0, 13)) ∨ (rightP p = true ∧ (tabR l).2 ≠ 0 ∧ judgeR p l r = (0, 18)) ∨ (rightP p = true ∧ (tabR l).2 = 0 ∧ judgeR p l r = (judgeQ p l r, 0) ∧ judgeQ p l r < 4294967296) := by
  unfold judgeR
  cases hp : rightP p with
  | false => exact .inl ⟨rfl, by rw [if_pos rfl]⟩
  | true =>
    refine .inr ?_
    by_cases hl : (tabR l).2 = 0
    · refine .inr ⟨rfl, hl, ?_, ?_⟩
      · rw [if_neg (by decide), if_neg (fun q => q hl), judge_eq hp hl]
      · rw [← judge_eq hp hl]; exact codeA_lt (action_right hp l r)
    · exact .inl ⟨rfl, hl, by rw [if_neg (by decide), if_pos hl]⟩
theorem noid_ui (v : Nat) (e : Int) : NoId (.tup [u32 (v : Nat), int e]) := NoId.tup (by
  intro y hy
  simp only [List.mem_cons, List.not_mem_nil, or_false] at hy
  rcases hy with rfl | rfl <;> exact NoId.v _)
theorem noid_rec17 (r : Rec) : NoId (recA r) := NoId.ag (by
  intro y hy
  unfold recC at hy
  simp only [List.mem_cons, List.not_mem_nil, or_false] at hy
  rcases hy with rfl | rfl | rfl | rfl | rfl | rfl | rfl | rfl | rfl <;> exact NoId.v _)
end Go.Proofs.W

namespace Go.Proofs.W
open Go.Vl
set_option maxRecDepth 100000

theorem norm_ok17 {p : Pol} (hp : p.ok) : (normP p).ok := by
  refine ⟨Nat.le_trans (out_len p.dflt p.rules) hp.1, fun n hn => ?_⟩
  obtain ⟨r, hr, hN⟩ := out_mem hn
  obtain ⟨h1, h2, h3⟩ := hp.2 r hr
  obtain ⟨c1, c2, c3⟩ := normR_conds hN
  exact ⟨by rw [c2]; exact h1, Nat.le_trans c1 h2, (normR_again hN).2.2 h3⟩
theorem norm_polOk {p : Pol} (hp : polOk p) : polOk (normP p) := by
  refine ⟨Nat.le_trans (out_len p.dflt p.rules) hp.1, fun n hn => ?_⟩
  obtain ⟨r, hr, hN⟩ := out_mem hn
  obtain ⟨h1, h2⟩ := hp.2 r hr
  exact ⟨Nat.le_trans (normR_conds hN).1 h1, (normR_again hN).2.2 h2⟩
theorem any_take17 {p : Rul → Bool} {L : List Rul} {i : Nat} (h : i < L.length) : (L.take (i + 1)).any p = ((L.take i).any p || p (L.getD i rul0)) := by
  rw [List.take_add_one, List.getElem?_eq_getElem h, List.any_append]
  simp [List.getD, h]
def polC16 (p : Pol) : List AV := [int p.dflt.1, int p.dflt.2, boolA p.x32, ruls p.rules]
set_option maxHeartbeats 16000000 in
theorem modelnorms_law (p : Pol) (l : List TRow) (r : Rec) (hp : p.ok) (hl : l.length ≤ maxLen) (hn : ∀ q ∈ l, q.name.size ≤ maxLen) (hr : r.ok) : Tells Tryz.prog 8 [polA p, trows l, recA r] (boolA true) := by
  have hlt := light_l17 p hp.1
  have hfew := few17_spec l hl hn
  have hawk := awake17_spec
  obtain ⟨⟨k, n⟩, x32, rs⟩ := p
  refine tells_of_aw Tryz.func8 rfl rfl fun nx => ?_
  cases hlp : lightP ⟨(k, n), x32, rs⟩ with
  | false =>
    rw [hlp] at hlt
    (repeat((conv=>whnf);first|apply ω0|apply ω1|apply ω2|refine τ3 rfl ?_|refine τ4 rfl ?_|refine ⟨rfl,?_⟩|apply τa|refine τb rfl ?_|refine ⟨⟨by kernel_rfl,by kernel_rfl⟩,?_⟩|refine ⟨by decide,?_⟩|apply τt|apply τf))
    refine aop_tells rfl rfl hlt ⟨AVle.refl _, trivial⟩ fun nx5 => ?_
    (repeat((conv=>whnf);first|apply ω0|apply ω1|apply ω2|refine τ3 rfl ?_|refine τ4 rfl ?_|refine ⟨rfl,?_⟩|apply τa|refine τb rfl ?_|refine ⟨⟨by kernel_rfl,by kernel_rfl⟩,?_⟩|refine ⟨by decide,?_⟩|apply τt|apply τf))
    exact ret_tells rfl (AVle.refl _)
  | true =>
    rw [hlp] at hlt
    have hpo := polOk_of hp hlp
    cases hfl : fewB l with
    | false =>
      rw [hfl] at hfew
      (repeat((conv=>whnf);first|apply ω0|apply ω1|apply ω2|refine τ3 rfl ?_|refine τ4 rfl ?_|refine ⟨rfl,?_⟩|apply τa|refine τb rfl ?_|refine ⟨⟨by kernel_rfl,by kernel_rfl⟩,?_⟩|refine ⟨by decide,?_⟩|apply τt|apply τf))
      refine aop_tells rfl rfl hlt ⟨AVle.refl _, trivial⟩ fun nx5 => ?_
      (repeat((conv=>whnf);first|apply ω0|apply ω1|apply ω2|refine τ3 rfl ?_|refine τ4 rfl ?_|refine ⟨rfl,?_⟩|apply τa|refine τb rfl ?_|refine ⟨⟨by kernel_rfl,by kernel_rfl⟩,?_⟩|refine ⟨by decide,?_⟩|apply τt|apply τf))
      refine aop_tells rfl rfl hfew ⟨AVle.refl _, trivial⟩ fun nx6 => ?_
      (repeat((conv=>whnf);first|apply ω0|apply ω1|apply ω2|refine τ3 rfl ?_|refine τ4 rfl ?_|refine ⟨rfl,?_⟩|apply τa|refine τb rfl ?_|refine ⟨⟨by kernel_rfl,by kernel_rfl⟩,?_⟩|refine ⟨by decide,?_⟩|apply τt|apply τf))
      exact ret_tells rfl (AVle.refl _)
    | true =>
      rw [hfl] at hfew
      obtain ⟨hl40, hn60⟩ := few_le hfl
      have hof := pol_l17 ⟨(k, n), x32, rs⟩ hpo.1 (fun r hr => (hpo.2 r hr).1)
      have hrw := l17rows_spec l (by omega)
      have hrc := record17_spec r
      have hnp := policy16_spec ⟨(k, n), x32, rs⟩ hp
      have hjd := judge_law ⟨(k, n), x32, rs⟩ l r hpo hp (by omega) hn hr
      have hjn := judge_law (normP ⟨(k, n), x32, rs⟩) l r (norm_polOk hpo) (norm_ok17 hp) (by omega) hn hr
      have hcs := judge_cases ⟨(k, n), x32, rs⟩ l r
      (repeat((conv=>whnf);first|apply ω0|apply ω1|apply ω2|refine τ3 rfl ?_|refine τ4 rfl ?_|refine ⟨rfl,?_⟩|apply τa|refine τb rfl ?_|refine ⟨⟨by kernel_rfl,by kernel_rfl⟩,?_⟩|refine ⟨by decide,?_⟩|apply τt|apply τf))
      refine aop_tells rfl rfl hlt ⟨AVle.refl _, trivial⟩ fun nx5 => ?_
      (repeat((conv=>whnf);first|apply ω0|apply ω1|apply ω2|refine τ3 rfl ?_|refine τ4 rfl ?_|refine ⟨rfl,?_⟩|apply τa|refine τb rfl ?_|refine ⟨⟨by kernel_rfl,by kernel_rfl⟩,?_⟩|refine ⟨by decide,?_⟩|apply τt|apply τf))
      refine aop_tells rfl rfl hfew ⟨AVle.refl _, trivial⟩ fun nx6 => ?_
      (repeat((conv=>whnf);first|apply ω0|apply ω1|apply ω2|refine τ3 rfl ?_|refine τ4 rfl ?_|refine ⟨rfl,?_⟩|apply τa|refine τb rfl ?_|refine ⟨⟨by kernel_rfl,by kernel_rfl⟩,?_⟩|refine ⟨by decide,?_⟩|apply τt|apply τf))
      refine aop_tells rfl rfl hof ⟨AVle.refl _, trivial⟩ fun nx7 => ?_
      (repeat((conv=>whnf);first|apply ω0|apply ω1|apply ω2|refine τ3 rfl ?_|refine τ4 rfl ?_|refine ⟨rfl,?_⟩|apply τa|refine τb rfl ?_|refine ⟨⟨by kernel_rfl,by kernel_rfl⟩,?_⟩|refine ⟨by decide,?_⟩|apply τt|apply τf))
      refine aop_tells rfl rfl hrw ⟨AVle.refl _, trivial⟩ fun nx8 => ?_
      (repeat((conv=>whnf);first|apply ω0|apply ω1|apply ω2|refine τ3 rfl ?_|refine τ4 rfl ?_|refine ⟨rfl,?_⟩|apply τa|refine τb rfl ?_|refine ⟨⟨by kernel_rfl,by kernel_rfl⟩,?_⟩|refine ⟨by decide,?_⟩|apply τt|apply τf))
      rcases hcs with ⟨hR, hJ⟩ | ⟨hR, hT, hJ⟩ | ⟨hR, hT, hJ, hv⟩
      · rw [hJ] at hjd
        unfold normA at hnp
        rw [hR, if_neg (by decide)] at hnp
        refine aop_tells rfl rfl hnp ⟨AVle.refl _, trivial⟩ fun nx9 => ?_
        (repeat((conv=>whnf);first|apply ω0|apply ω1|apply ω2|refine τ3 rfl ?_|refine τ4 rfl ?_|refine ⟨rfl,?_⟩|apply τa|refine τb rfl ?_|refine ⟨⟨by kernel_rfl,by kernel_rfl⟩,?_⟩|refine ⟨by decide,?_⟩|apply τt|apply τf))
        refine aw_mixN 9 _ (fun _ => false) (fun i => match i with | 3 => true | 4 => true | _ => false) [0, 1, 2, 3, 4, 5, 6, 7, 8] (by kernel_rfl) (by kernel_rfl) (HB.refl _) ?_
        (repeat((conv=>whnf);first|apply ω0|apply ω1|apply ω2|refine τ3 rfl ?_|refine τ4 rfl ?_|refine ⟨rfl,?_⟩|apply τa|refine τb rfl ?_|refine ⟨⟨by kernel_rfl,by kernel_rfl⟩,?_⟩|refine ⟨by decide,?_⟩|apply τt|apply τf))
        refine ⟨_, pure_tells rfl rfl rfl hrc ⟨AVle.refl _, trivial⟩ (noid_rec17 _), ?_⟩
        (repeat((conv=>whnf);first|apply ω0|apply ω1|apply ω2|refine τ3 rfl ?_|refine τ4 rfl ?_|refine ⟨rfl,?_⟩|apply τa|refine τb rfl ?_|refine ⟨⟨by kernel_rfl,by kernel_rfl⟩,?_⟩|refine ⟨by decide,?_⟩|apply τt|apply τf))
        refine ⟨_, pure_tells rfl rfl rfl hjd ⟨AVle.refl _, AVle.refl _, AVle.refl _, trivial⟩ (noid_ui _ _), ?_⟩
        (repeat((conv=>whnf);first|apply ω0|apply ω1|apply ω2|refine τ3 rfl ?_|refine τ4 rfl ?_|refine ⟨rfl,?_⟩|apply τa|refine τb rfl ?_|refine ⟨⟨by kernel_rfl,by kernel_rfl⟩,?_⟩|refine ⟨by decide,?_⟩|apply τt|apply τf))
        refine aop_tells rfl rfl hawk trivial fun nx10 => ?_
        (repeat((conv=>whnf);first|apply ω0|apply ω1|apply ω2|refine τ3 rfl ?_|refine τ4 rfl ?_|refine ⟨rfl,?_⟩|apply τa|refine τb rfl ?_|refine ⟨⟨by kernel_rfl,by kernel_rfl⟩,?_⟩|refine ⟨by decide,?_⟩|apply τt|apply τf))
        exact ret_tells rfl (AVle.refl _)
      · rw [hJ] at hjd
        unfold normA at hnp
        rw [hR, if_pos rfl] at hnp
        refine aop_tells rfl rfl hnp ⟨AVle.refl _, trivial⟩ fun nx9 => ?_
        (repeat((conv=>whnf);first|apply ω0|apply ω1|apply ω2|refine τ3 rfl ?_|refine τ4 rfl ?_|refine ⟨rfl,?_⟩|apply τa|refine τb rfl ?_|refine ⟨⟨by kernel_rfl,by kernel_rfl⟩,?_⟩|refine ⟨by decide,?_⟩|apply τt|apply τf))
        refine aw_mixN 9 _ (fun _ => false) (fun i => match i with | 3 => true | 4 => true | _ => false) [0, 1, 2, 3, 4, 5, 6, 7, 8] (by kernel_rfl) (by kernel_rfl) (HB.refl _) ?_
        (repeat((conv=>whnf);first|apply ω0|apply ω1|apply ω2|refine τ3 rfl ?_|refine τ4 rfl ?_|refine ⟨rfl,?_⟩|apply τa|refine τb rfl ?_|refine ⟨⟨by kernel_rfl,by kernel_rfl⟩,?_⟩|refine ⟨by decide,?_⟩|apply τt|apply τf))
        refine ⟨_, pure_tells rfl rfl rfl hrc ⟨AVle.refl _, trivial⟩ (noid_rec17 _), ?_⟩
        (repeat((conv=>whnf);first|apply ω0|apply ω1|apply ω2|refine τ3 rfl ?_|refine τ4 rfl ?_|refine ⟨rfl,?_⟩|apply τa|refine τb rfl ?_|refine ⟨⟨by kernel_rfl,by kernel_rfl⟩,?_⟩|refine ⟨by decide,?_⟩|apply τt|apply τf))
        refine ⟨_, pure_tells rfl rfl rfl hjd ⟨AVle.refl _, AVle.refl _, AVle.refl _, trivial⟩ (noid_ui _ _), ?_⟩
        (repeat((conv=>whnf);first|apply ω0|apply ω1|apply ω2|refine τ3 rfl ?_|refine τ4 rfl ?_|refine ⟨rfl,?_⟩|apply τa|refine τb rfl ?_|refine ⟨⟨by kernel_rfl,by kernel_rfl⟩,?_⟩|refine ⟨by decide,?_⟩|apply τt|apply τf))
        refine aop_tells rfl rfl hawk trivial fun nx10 => ?_
        (repeat((conv=>whnf);first|apply ω0|apply ω1|apply ω2|refine τ3 rfl ?_|refine τ4 rfl ?_|refine ⟨rfl,?_⟩|apply τa|refine τb rfl ?_|refine ⟨⟨by kernel_rfl,by kernel_rfl⟩,?_⟩|refine ⟨by decide,?_⟩|apply τt|apply τf))
        exact ret_tells rfl (AVle.refl _)
      · have hjN := judge_norm (p := ⟨(k, n), x32, rs⟩) (l := l) (r := r) (fun q hq => (hpo.2 q hq).2) hr hR hT
        rw [hJ] at hjd hjN
        unfold normA at hnp
        rw [hR, if_pos rfl] at hnp
        generalize hJ2 : judgeR (normP ⟨(k, n), x32, rs⟩) l r = J2 at hjn hjN
        obtain ⟨v, f⟩ := J2
        obtain ⟨hf, hjN⟩ := hjN
        dsimp only at hf hjN
        subst hf
        refine aop_tells rfl rfl hnp ⟨AVle.refl _, trivial⟩ fun nx9 => ?_
        (repeat((conv=>whnf);first|apply ω0|apply ω1|apply ω2|refine τ3 rfl ?_|refine τ4 rfl ?_|refine ⟨rfl,?_⟩|apply τa|refine τb rfl ?_|refine ⟨⟨by kernel_rfl,by kernel_rfl⟩,?_⟩|refine ⟨by decide,?_⟩|apply τt|apply τf))
        refine aw_mixN 9 _ (fun _ => false) (fun i => match i with | 3 => true | 4 => true | _ => false) [0, 1, 2, 3, 4, 5, 6, 7, 8] (by kernel_rfl) (by kernel_rfl) (HB.refl _) ?_
        (repeat((conv=>whnf);first|apply ω0|apply ω1|apply ω2|refine τ3 rfl ?_|refine τ4 rfl ?_|refine ⟨rfl,?_⟩|apply τa|refine τb rfl ?_|refine ⟨⟨by kernel_rfl,by kernel_rfl⟩,?_⟩|refine ⟨by decide,?_⟩|apply τt|apply τf))
        refine ⟨_, pure_tells rfl rfl rfl hrc ⟨AVle.refl _, trivial⟩ (noid_rec17 _), ?_⟩
        (repeat((conv=>whnf);first|apply ω0|apply ω1|apply ω2|refine τ3 rfl ?_|refine τ4 rfl ?_|refine ⟨rfl,?_⟩|apply τa|refine τb rfl ?_|refine ⟨⟨by kernel_rfl,by kernel_rfl⟩,?_⟩|refine ⟨by decide,?_⟩|apply τt|apply τf))
        refine ⟨_, pure_tells rfl rfl rfl hjd ⟨AVle.refl _, AVle.refl _, AVle.refl _, trivial⟩ (noid_ui _ _), ?_⟩
        (repeat((conv=>whnf);first|apply ω0|apply ω1|apply ω2|refine τ3 rfl ?_|refine τ4 rfl ?_|refine ⟨rfl,?_⟩|apply τa|refine τb rfl ?_|refine ⟨⟨by kernel_rfl,by kernel_rfl⟩,?_⟩|refine ⟨by decide,?_⟩|apply τt|apply τf))
        refine aw_mixN 9 _ (fun _ => false) (fun i => match i with | 3 => true | 4 => true | _ => false) [0, 1, 2, 3, 4, 5, 6, 7, 8] (by kernel_rfl) (by kernel_rfl) (HB.refl _) ?_
        (repeat((conv=>whnf);first|apply ω0|apply ω1|apply ω2|refine τ3 rfl ?_|refine τ4 rfl ?_|refine ⟨rfl,?_⟩|apply τa|refine τb rfl ?_|refine ⟨⟨by kernel_rfl,by kernel_rfl⟩,?_⟩|refine ⟨by decide,?_⟩|apply τt|apply τf))
        refine ⟨_, pure_tells rfl rfl rfl hrc ⟨AVle.refl _, trivial⟩ (noid_rec17 _), ?_⟩
        (repeat((conv=>whnf);first|apply ω0|apply ω1|apply ω2|refine τ3 rfl ?_|refine τ4 rfl ?_|refine ⟨rfl,?_⟩|apply τa|refine τb rfl ?_|refine ⟨⟨by kernel_rfl,by kernel_rfl⟩,?_⟩|refine ⟨by decide,?_⟩|apply τt|apply τf))
        refine ⟨_, pure_tells rfl rfl rfl hjn ⟨AVle.refl _, AVle.refl _, AVle.refl _, trivial⟩ (noid_ui _ _), ?_⟩
        (repeat((conv=>whnf);first|apply ω0|apply ω1|apply ω2|refine τ3 rfl ?_|refine τ4 rfl ?_|refine ⟨rfl,?_⟩|apply τa|refine τb rfl ?_|refine ⟨⟨by kernel_rfl,by kernel_rfl⟩,?_⟩|refine ⟨by decide,?_⟩|apply τt|apply τf))
        refine aw_loop (fun y : Nat × Nat => mk 111 [(1, trows l), (3, .bp (0, nx) 0), (5, .bp (1, nx + 1) 0), (7, .bp (2, nx8) 0), (8, trows l), (9, .bp (3, nx9) 0), (11, u32 (judgeQ ⟨(k, n), x32, rs⟩ l r : Nat)), (12, int 0), (13, u32 (v : Nat)), (14, int 0), (15, boolA ((rs.take y.1).any (blindB l))), (16, int y.1)] ⟨[((3, nx9), .c (polC16 (normP ⟨(k, n), x32, rs⟩))), ((2, nx8), .c [int k, int n, boolA x32, ruls rs]), ((1, nx + 1), .c (recC r)), ((0, nx), .c [int k, int n, boolA x32, ruls rs])], [], y.2, 4⟩) (fun y => y.1 ≤ rs.length) (fun y => rs.length - y.1) ?_ ?_
        · exact ⟨(0, nx9 + 1), Nat.zero_le _, ele_tell (pm := []) (bx := [((3, nx9), .c (polC16 (normP ⟨(k, n), x32, rs⟩))), ((2, nx8), .c [int k, int n, boolA x32, ruls rs]), ((1, nx + 1), .c (recC r)), ((0, nx), .c [int k, int n, boolA x32, ruls rs])]) _ _ rfl rfl (List.Sublist.refl _) (List.Sublist.refl _) (BxLe.refl _) trivial ⟨AVle.refl _, AVle.refl _, AVle.refl _, AVle.refl _, AVle.refl _, AVle.refl _, AVle.refl _, AVle.refl _, AVle.refl _, AVle.refl _, AVle.refl _, AVle.refl _, trivial⟩⟩
        · rintro ⟨i, nx12⟩ h3
          dsimp only at h3
          (repeat((conv=>whnf);first|apply ω0|apply ω1|apply ω2|refine τ3 rfl ?_|refine τ4 rfl ?_|refine ⟨rfl,?_⟩|apply τa|refine τb rfl ?_|refine ⟨⟨by kernel_rfl,by kernel_rfl⟩,?_⟩|refine ⟨by decide,?_⟩|apply τt|apply τf))
          intro c h5; cases c
          · have h6 : ¬ ((i : Nat) : Int) < ((rs.length : Nat) : Int) := not_of h5
            obtain rfl : i = rs.length := by omega
            cases hB : rs.any (blindB l) with
            | false =>
              (repeat((conv=>whnf);first|apply ω0|apply ω2|refine τ3 rfl ?_|refine τ4 rfl ?_|refine ⟨rfl,?_⟩|apply τa|refine τb rfl ?_|refine ⟨⟨by kernel_rfl,by kernel_rfl⟩,?_⟩|refine ⟨by decide,?_⟩|apply τt|apply τf))
              refine AW.le (E' := mk 111 [(1, trows l), (3, .bp (0, nx) 0), (5, .bp (1, nx + 1) 0), (7, .bp (2, nx8) 0), (8, trows l), (9, .bp (3, nx9) 0), (11, u32 (judgeQ ⟨(k, n), x32, rs⟩ l r : Nat)), (12, int 0), (13, u32 (v : Nat)), (14, int 0), (15, boolA false)] ⟨[((3, nx9), .c (polC16 (normP ⟨(k, n), x32, rs⟩))), ((2, nx8), .c [int k, int n, boolA x32, ruls rs]), ((1, nx + 1), .c (recC r)), ((0, nx), .c [int k, int n, boolA x32, ruls rs])], [], nx12, 4⟩) (ele_tell (pm := []) (bx := [((3, nx9), .c (polC16 (normP ⟨(k, n), x32, rs⟩))), ((2, nx8), .c [int k, int n, boolA x32, ruls rs]), ((1, nx + 1), .c (recC r)), ((0, nx), .c [int k, int n, boolA x32, ruls rs])]) _ _ rfl rfl (List.Sublist.refl _) (List.Sublist.refl _) (BxLe.refl _) trivial ⟨AVle.refl _, AVle.refl _, AVle.refl _, AVle.refl _, AVle.refl _, AVle.refl _, AVle.refl _, AVle.refl _, AVle.refl _, AVle.refl _, le_bool (by rw [List.take_length]; exact hB), trivial⟩) ?_
              (repeat((conv=>whnf);first|apply ω0|apply ω1|apply ω2|refine τ3 rfl ?_|refine τ4 rfl ?_|refine ⟨rfl,?_⟩|apply τa|refine τb rfl ?_|refine ⟨⟨by kernel_rfl,by kernel_rfl⟩,?_⟩|refine ⟨by decide,?_⟩|apply τt|apply τf))
              intro c t1; cases c
              · rcases hjN with e | ⟨_, e⟩
                · have t2 : ¬ ((judgeQ ⟨(k, n), x32, rs⟩ l r : Nat) : Int) = (v : Int) := by simpa using t1.symm
                  omega
                · rw [hB] at e; cases e
              · (repeat((conv=>whnf);first|apply ω0|apply ω1|apply ω2|refine τ3 rfl ?_|refine τ4 rfl ?_|refine ⟨rfl,?_⟩|apply τa|refine τb rfl ?_|refine ⟨⟨by kernel_rfl,by kernel_rfl⟩,?_⟩|refine ⟨by decide,?_⟩|apply τt|apply τf))
                refine aop_tells rfl rfl hawk trivial fun nx13 => ?_
                (repeat((conv=>whnf);first|apply ω0|apply ω1|apply ω2|refine τ3 rfl ?_|refine τ4 rfl ?_|refine ⟨rfl,?_⟩|apply τa|refine τb rfl ?_|refine ⟨⟨by kernel_rfl,by kernel_rfl⟩,?_⟩|refine ⟨by decide,?_⟩|apply τt|apply τf))
                exact ret_tells rfl (AVle.refl _)
            | true =>
              (repeat((conv=>whnf);first|apply ω0|apply ω2|refine τ3 rfl ?_|refine τ4 rfl ?_|refine ⟨rfl,?_⟩|apply τa|refine τb rfl ?_|refine ⟨⟨by kernel_rfl,by kernel_rfl⟩,?_⟩|refine ⟨by decide,?_⟩|apply τt|apply τf))
              refine AW.le (E' := mk 111 [(1, trows l), (3, .bp (0, nx) 0), (5, .bp (1, nx + 1) 0), (7, .bp (2, nx8) 0), (8, trows l), (9, .bp (3, nx9) 0), (11, u32 (judgeQ ⟨(k, n), x32, rs⟩ l r : Nat)), (12, int 0), (13, u32 (v : Nat)), (14, int 0), (15, boolA true)] ⟨[((3, nx9), .c (polC16 (normP ⟨(k, n), x32, rs⟩))), ((2, nx8), .c [int k, int n, boolA x32, ruls rs]), ((1, nx + 1), .c (recC r)), ((0, nx), .c [int k, int n, boolA x32, ruls rs])], [], nx12, 4⟩) (ele_tell (pm := []) (bx := [((3, nx9), .c (polC16 (normP ⟨(k, n), x32, rs⟩))), ((2, nx8), .c [int k, int n, boolA x32, ruls rs]), ((1, nx + 1), .c (recC r)), ((0, nx), .c [int k, int n, boolA x32, ruls rs])]) _ _ rfl rfl (List.Sublist.refl _) (List.Sublist.refl _) (BxLe.refl _) trivial ⟨AVle.refl _, AVle.refl _, AVle.refl _, AVle.refl _, AVle.refl _, AVle.refl _, AVle.refl _, AVle.refl _, AVle.refl _, AVle.refl _, le_bool (by rw [List.take_length]; exact hB), trivial⟩) ?_
              (repeat((conv=>whnf);first|apply ω0|apply ω1|apply ω2|refine τ3 rfl ?_|refine τ4 rfl ?_|refine ⟨rfl,?_⟩|apply τa|refine τb rfl ?_|refine ⟨⟨by kernel_rfl,by kernel_rfl⟩,?_⟩|refine ⟨by decide,?_⟩|apply τt|apply τf))
              intro c t1; cases c
              · rcases hjN with e | ⟨hm1, _⟩
                · have t2 : ¬ ((judgeQ ⟨(k, n), x32, rs⟩ l r : Nat) : Int) = (v : Int) := by simpa using t1.symm
                  omega
                · have hmx := muxof_spec l r hr (by omega)
                  generalize ofI l r = C at hmx hm1
                  obtain ⟨so, ab, nm, mx⟩ := C
                  dsimp only at hm1
                  subst hm1
                  (repeat((conv=>whnf);first|apply ω0|apply ω1|apply ω2|refine τ3 rfl ?_|refine τ4 rfl ?_|refine ⟨rfl,?_⟩|apply τa|refine τb rfl ?_|refine ⟨⟨by kernel_rfl,by kernel_rfl⟩,?_⟩|refine ⟨by decide,?_⟩|apply τt|apply τf))
                  refine aop_tells rfl rfl hrc ⟨AVle.refl _, trivial⟩ fun nx13 => ?_
                  (repeat((conv=>whnf);first|apply ω0|apply ω1|apply ω2|refine τ3 rfl ?_|refine τ4 rfl ?_|refine ⟨rfl,?_⟩|apply τa|refine τb rfl ?_|refine ⟨⟨by kernel_rfl,by kernel_rfl⟩,?_⟩|refine ⟨by decide,?_⟩|apply τt|apply τf))
                  refine aop_tells rfl rfl hmx ⟨AVle.refl _, AVle.refl _, trivial⟩ fun nx14 => ?_
                  (repeat((conv=>whnf);first|apply ω0|apply ω1|apply ω2|refine τ3 rfl ?_|refine τ4 rfl ?_|refine ⟨rfl,?_⟩|apply τa|refine τb rfl ?_|refine ⟨⟨by kernel_rfl,by kernel_rfl⟩,?_⟩|refine ⟨by decide,?_⟩|apply τt|apply τf))
                  refine aop_tells rfl rfl hawk trivial fun nx15 => ?_
                  (repeat((conv=>whnf);first|apply ω0|apply ω1|apply ω2|refine τ3 rfl ?_|refine τ4 rfl ?_|refine ⟨rfl,?_⟩|apply τa|refine τb rfl ?_|refine ⟨⟨by kernel_rfl,by kernel_rfl⟩,?_⟩|refine ⟨by decide,?_⟩|apply τt|apply τf))
                  exact ret_tells rfl (AVle.refl _)
              · (repeat((conv=>whnf);first|apply ω0|apply ω1|apply ω2|refine τ3 rfl ?_|refine τ4 rfl ?_|refine ⟨rfl,?_⟩|apply τa|refine τb rfl ?_|refine ⟨⟨by kernel_rfl,by kernel_rfl⟩,?_⟩|refine ⟨by decide,?_⟩|apply τt|apply τf))
                refine aop_tells rfl rfl hawk trivial fun nx13 => ?_
                (repeat((conv=>whnf);first|apply ω0|apply ω1|apply ω2|refine τ3 rfl ?_|refine τ4 rfl ?_|refine ⟨rfl,?_⟩|apply τa|refine τb rfl ?_|refine ⟨⟨by kernel_rfl,by kernel_rfl⟩,?_⟩|refine ⟨by decide,?_⟩|apply τt|apply τf))
                exact ret_tells rfl (AVle.refl _)
          · have h6 : ((i : Nat) : Int) < ((rs.length : Nat) : Int) := yes_of h5
            have hi : i < rs.length := by omega
            have hw := ways_spec l (rs.getD i rul0).name (by omega) (sorted_mono (tab_sorted hT) _)
            have hrl : rs.length ≤ 1000000 := hpo.1
            have hcl := (hpo.2 (rs.getD i rul0) (by simp [List.getD, hi])).1
            cases hm : decide ((rowOf l (rs.getD i rul0).name).mux > 0) <;> cases hb : (rs.take i).any (blindB l)
            all_goals
              rw [hm] at hw
              (repeat((conv=>whnf);first|apply ω0|apply ω2|refine τ3 rfl ?_|refine τ4 rfl ?_|refine ⟨rfl,?_⟩|apply τa|refine τb rfl ?_|refine ⟨⟨by kernel_rfl,by kernel_rfl⟩,?_⟩|refine ⟨by decide,?_⟩|apply τt|apply τf))
            · refine AW.le (E' := mk 111 [(1, trows l), (3, .bp (0, nx) 0), (5, .bp (1, nx + 1) 0), (7, .bp (2, nx8) 0), (8, trows l), (9, .bp (3, nx9) 0), (11, u32 (judgeQ ⟨(k, n), x32, rs⟩ l r : Nat)), (12, int 0), (13, u32 (v : Nat)), (14, int 0), (15, boolA false), (16, int i)] ⟨[((3, nx9), .c (polC16 (normP ⟨(k, n), x32, rs⟩))), ((2, nx8), .c [int k, int n, boolA x32, ruls rs]), ((1, nx + 1), .c (recC r)), ((0, nx), .c [int k, int n, boolA x32, ruls rs])], [], nx12, 4⟩) (ele_tell (pm := []) (bx := [((3, nx9), .c (polC16 (normP ⟨(k, n), x32, rs⟩))), ((2, nx8), .c [int k, int n, boolA x32, ruls rs]), ((1, nx + 1), .c (recC r)), ((0, nx), .c [int k, int n, boolA x32, ruls rs])]) _ _ rfl rfl (List.Sublist.refl _) (List.Sublist.refl _) (BxLe.refl _) trivial ⟨AVle.refl _, AVle.refl _, AVle.refl _, AVle.refl _, AVle.refl _, AVle.refl _, AVle.refl _, AVle.refl _, AVle.refl _, AVle.refl _, le_bool (by first | rfl | exact hb), AVle.refl _, trivial⟩) ?_
              (repeat((conv=>whnf);first|apply ω0|apply ω1|apply ω2|refine τ3 rfl ?_|refine τ4 rfl ?_|refine ⟨rfl,?_⟩|apply τa|refine τb rfl ?_|refine ⟨⟨by kernel_rfl,by kernel_rfl⟩,?_⟩|refine ⟨by decide,?_⟩|apply τt|apply τf))
              refine ⟨⟨by omega, by omega⟩, ?_⟩
              (repeat((conv=>whnf);first|apply ω0|apply ω1|apply ω2|refine τ3 rfl ?_|refine τ4 rfl ?_|refine ⟨rfl,?_⟩|apply τa|refine τb rfl ?_|refine ⟨⟨by kernel_rfl,by kernel_rfl⟩,?_⟩|refine ⟨by decide,?_⟩|apply τt|apply τf))
              refine aop_tells rfl rfl hw ⟨AVle.refl _, AVle.refl _, trivial⟩ fun nx13 => ?_
              intro c0 hc0
              (repeat((conv=>whnf);first|apply ω0|apply ω1|apply ω2|refine τ3 rfl ?_|refine τ4 rfl ?_|refine ⟨rfl,?_⟩|apply τa|refine τb rfl ?_|refine ⟨⟨by kernel_rfl,by kernel_rfl⟩,?_⟩|refine ⟨by decide,?_⟩|apply τt|apply τf))
              exact back (i + 1, nx13) (by dsimp only; omega) (by dsimp only; omega) (ele_tell (pm := []) (bx := [((3, nx9), .c (polC16 (normP ⟨(k, n), x32, rs⟩))), ((2, nx8), .c [int k, int n, boolA x32, ruls rs]), ((1, nx + 1), .c (recC r)), ((0, nx), .c [int k, int n, boolA x32, ruls rs])]) _ _ rfl rfl (List.Sublist.refl _) (List.Sublist.refl _) (BxLe.refl _) trivial ⟨AVle.refl _, AVle.refl _, AVle.refl _, AVle.refl _, AVle.refl _, AVle.refl _, AVle.refl _, AVle.refl _, AVle.refl _, AVle.refl _, le_bool (by rw [any_take17 hi, hb]; unfold blindB; rw [hm]; rfl), le_int (wrap_succ (by omega)), trivial⟩)
            · refine AW.le (E' := mk 111 [(1, trows l), (3, .bp (0, nx) 0), (5, .bp (1, nx + 1) 0), (7, .bp (2, nx8) 0), (8, trows l), (9, .bp (3, nx9) 0), (11, u32 (judgeQ ⟨(k, n), x32, rs⟩ l r : Nat)), (12, int 0), (13, u32 (v : Nat)), (14, int 0), (15, boolA true), (16, int i)] ⟨[((3, nx9), .c (polC16 (normP ⟨(k, n), x32, rs⟩))), ((2, nx8), .c [int k, int n, boolA x32, ruls rs]), ((1, nx + 1), .c (recC r)), ((0, nx), .c [int k, int n, boolA x32, ruls rs])], [], nx12, 4⟩) (ele_tell (pm := []) (bx := [((3, nx9), .c (polC16 (normP ⟨(k, n), x32, rs⟩))), ((2, nx8), .c [int k, int n, boolA x32, ruls rs]), ((1, nx + 1), .c (recC r)), ((0, nx), .c [int k, int n, boolA x32, ruls rs])]) _ _ rfl rfl (List.Sublist.refl _) (List.Sublist.refl _) (BxLe.refl _) trivial ⟨AVle.refl _, AVle.refl _, AVle.refl _, AVle.refl _, AVle.refl _, AVle.refl _, AVle.refl _, AVle.refl _, AVle.refl _, AVle.refl _, le_bool (by first | rfl | exact hb), AVle.refl _, trivial⟩) ?_
              (repeat((conv=>whnf);first|apply ω0|apply ω1|apply ω2|refine τ3 rfl ?_|refine τ4 rfl ?_|refine ⟨rfl,?_⟩|apply τa|refine τb rfl ?_|refine ⟨⟨by kernel_rfl,by kernel_rfl⟩,?_⟩|refine ⟨by decide,?_⟩|apply τt|apply τf))
              refine ⟨⟨by omega, by omega⟩, ?_⟩
              (repeat((conv=>whnf);first|apply ω0|apply ω1|apply ω2|refine τ3 rfl ?_|refine τ4 rfl ?_|refine ⟨rfl,?_⟩|apply τa|refine τb rfl ?_|refine ⟨⟨by kernel_rfl,by kernel_rfl⟩,?_⟩|refine ⟨by decide,?_⟩|apply τt|apply τf))
              refine aop_tells rfl rfl hw ⟨AVle.refl _, AVle.refl _, trivial⟩ fun nx13 => ?_
              intro c0 hc0
              (repeat((conv=>whnf);first|apply ω0|apply ω1|apply ω2|refine τ3 rfl ?_|refine τ4 rfl ?_|refine ⟨rfl,?_⟩|apply τa|refine τb rfl ?_|refine ⟨⟨by kernel_rfl,by kernel_rfl⟩,?_⟩|refine ⟨by decide,?_⟩|apply τt|apply τf))
              exact back (i + 1, nx13) (by dsimp only; omega) (by dsimp only; omega) (ele_tell (pm := []) (bx := [((3, nx9), .c (polC16 (normP ⟨(k, n), x32, rs⟩))), ((2, nx8), .c [int k, int n, boolA x32, ruls rs]), ((1, nx + 1), .c (recC r)), ((0, nx), .c [int k, int n, boolA x32, ruls rs])]) _ _ rfl rfl (List.Sublist.refl _) (List.Sublist.refl _) (BxLe.refl _) trivial ⟨AVle.refl _, AVle.refl _, AVle.refl _, AVle.refl _, AVle.refl _, AVle.refl _, AVle.refl _, AVle.refl _, AVle.refl _, AVle.refl _, le_bool (by rw [any_take17 hi, hb]; rfl), le_int (wrap_succ (by omega)), trivial⟩)
            · refine AW.le (E' := mk 111 [(1, trows l), (3, .bp (0, nx) 0), (5, .bp (1, nx + 1) 0), (7, .bp (2, nx8) 0), (8, trows l), (9, .bp (3, nx9) 0), (11, u32 (judgeQ ⟨(k, n), x32, rs⟩ l r : Nat)), (12, int 0), (13, u32 (v : Nat)), (14, int 0), (15, boolA false), (16, int i)] ⟨[((3, nx9), .c (polC16 (normP ⟨(k, n), x32, rs⟩))), ((2, nx8), .c [int k, int n, boolA x32, ruls rs]), ((1, nx + 1), .c (recC r)), ((0, nx), .c [int k, int n, boolA x32, ruls rs])], [], nx12, 4⟩) (ele_tell (pm := []) (bx := [((3, nx9), .c (polC16 (normP ⟨(k, n), x32, rs⟩))), ((2, nx8), .c [int k, int n, boolA x32, ruls rs]), ((1, nx + 1), .c (recC r)), ((0, nx), .c [int k, int n, boolA x32, ruls rs])]) _ _ rfl rfl (List.Sublist.refl _) (List.Sublist.refl _) (BxLe.refl _) trivial ⟨AVle.refl _, AVle.refl _, AVle.refl _, AVle.refl _, AVle.refl _, AVle.refl _, AVle.refl _, AVle.refl _, AVle.refl _, AVle.refl _, le_bool (by first | rfl | exact hb), AVle.refl _, trivial⟩) ?_
              (repeat((conv=>whnf);first|apply ω0|apply ω1|apply ω2|refine τ3 rfl ?_|refine τ4 rfl ?_|refine ⟨rfl,?_⟩|apply τa|refine τb rfl ?_|refine ⟨⟨by kernel_rfl,by kernel_rfl⟩,?_⟩|refine ⟨by decide,?_⟩|apply τt|apply τf))
              refine ⟨⟨by omega, by omega⟩, ?_⟩
              (repeat((conv=>whnf);first|apply ω0|apply ω1|apply ω2|refine τ3 rfl ?_|refine τ4 rfl ?_|refine ⟨rfl,?_⟩|apply τa|refine τb rfl ?_|refine ⟨⟨by kernel_rfl,by kernel_rfl⟩,?_⟩|refine ⟨by decide,?_⟩|apply τt|apply τf))
              refine aop_tells rfl rfl hw ⟨AVle.refl _, AVle.refl _, trivial⟩ fun nx13 => ?_
              intro c0 hc0
              (repeat((conv=>whnf);first|apply ω0|apply ω1|apply ω2|refine τ3 rfl ?_|refine τ4 rfl ?_|refine ⟨rfl,?_⟩|apply τa|refine τb rfl ?_|refine ⟨⟨by kernel_rfl,by kernel_rfl⟩,?_⟩|refine ⟨by decide,?_⟩|apply τt|apply τf))
              refine ⟨⟨by omega, by omega⟩, ?_⟩
              (repeat((conv=>whnf);first|apply ω0|apply ω1|apply ω2|refine τ3 rfl ?_|refine τ4 rfl ?_|refine ⟨rfl,?_⟩|apply τa|refine τb rfl ?_|refine ⟨⟨by kernel_rfl,by kernel_rfl⟩,?_⟩|refine ⟨by decide,?_⟩|apply τt|apply τf))
              intro c t1; cases c
              · have t1 : ¬ ((((rs.getD i rul0).conds.length : Nat) : Int) > 0) := not_of t1
                (repeat((conv=>whnf);first|apply ω0|apply ω1|apply ω2|refine τ3 rfl ?_|refine τ4 rfl ?_|refine ⟨rfl,?_⟩|apply τa|refine τb rfl ?_|refine ⟨⟨by kernel_rfl,by kernel_rfl⟩,?_⟩|refine ⟨by decide,?_⟩|apply τt|apply τf))
                exact back (i + 1, nx13) (by dsimp only; omega) (by dsimp only; omega) (ele_tell (pm := []) (bx := [((3, nx9), .c (polC16 (normP ⟨(k, n), x32, rs⟩))), ((2, nx8), .c [int k, int n, boolA x32, ruls rs]), ((1, nx + 1), .c (recC r)), ((0, nx), .c [int k, int n, boolA x32, ruls rs])]) _ _ rfl rfl (List.Sublist.refl _) (List.Sublist.refl _) (BxLe.refl _) trivial ⟨AVle.refl _, AVle.refl _, AVle.refl _, AVle.refl _, AVle.refl _, AVle.refl _, AVle.refl _, AVle.refl _, AVle.refl _, AVle.refl _, le_bool (by rw [any_take17 hi, hb]; unfold blindB; rw [hm, decide_eq_false (by omega)]; rfl), le_int (wrap_succ (by omega)), trivial⟩)
              · have t1 : (((rs.getD i rul0).conds.length : Nat) : Int) > 0 := yes_of t1
                (repeat((conv=>whnf);first|apply ω0|apply ω1|apply ω2|refine τ3 rfl ?_|refine τ4 rfl ?_|refine ⟨rfl,?_⟩|apply τa|refine τb rfl ?_|refine ⟨⟨by kernel_rfl,by kernel_rfl⟩,?_⟩|refine ⟨by decide,?_⟩|apply τt|apply τf))
                exact back (i + 1, nx13) (by dsimp only; omega) (by dsimp only; omega) (ele_tell (pm := []) (bx := [((3, nx9), .c (polC16 (normP ⟨(k, n), x32, rs⟩))), ((2, nx8), .c [int k, int n, boolA x32, ruls rs]), ((1, nx + 1), .c (recC r)), ((0, nx), .c [int k, int n, boolA x32, ruls rs])]) _ _ rfl rfl (List.Sublist.refl _) (List.Sublist.refl _) (BxLe.refl _) trivial ⟨AVle.refl _, AVle.refl _, AVle.refl _, AVle.refl _, AVle.refl _, AVle.refl _, AVle.refl _, AVle.refl _, AVle.refl _, AVle.refl _, le_bool (by rw [any_take17 hi, hb]; unfold blindB; rw [hm, decide_eq_true (by omega)]; rfl), le_int (wrap_succ (by omega)), trivial⟩)
            · refine AW.le (E' := mk 111 [(1, trows l), (3, .bp (0, nx) 0), (5, .bp (1, nx + 1) 0), (7, .bp (2, nx8) 0), (8, trows l), (9, .bp (3, nx9) 0), (11, u32 (judgeQ ⟨(k, n), x32, rs⟩ l r : Nat)), (12, int 0), (13, u32 (v : Nat)), (14, int 0), (15, boolA true), (16, int i)] ⟨[((3, nx9), .c (polC16 (normP ⟨(k, n), x32, rs⟩))), ((2, nx8), .c [int k, int n, boolA x32, ruls rs]), ((1, nx + 1), .c (recC r)), ((0, nx), .c [int k, int n, boolA x32, ruls rs])], [], nx12, 4⟩) (ele_tell (pm := []) (bx := [((3, nx9), .c (polC16 (normP ⟨(k, n), x32, rs⟩))), ((2, nx8), .c [int k, int n, boolA x32, ruls rs]), ((1, nx + 1), .c (recC r)), ((0, nx), .c [int k, int n, boolA x32, ruls rs])]) _ _ rfl rfl (List.Sublist.refl _) (List.Sublist.refl _) (BxLe.refl _) trivial ⟨AVle.refl _, AVle.refl _, AVle.refl _, AVle.refl _, AVle.refl _, AVle.refl _, AVle.refl _, AVle.refl _, AVle.refl _, AVle.refl _, le_bool (by first | rfl | exact hb), AVle.refl _, trivial⟩) ?_
              (repeat((conv=>whnf);first|apply ω0|apply ω1|apply ω2|refine τ3 rfl ?_|refine τ4 rfl ?_|refine ⟨rfl,?_⟩|apply τa|refine τb rfl ?_|refine ⟨⟨by kernel_rfl,by kernel_rfl⟩,?_⟩|refine ⟨by decide,?_⟩|apply τt|apply τf))
              refine ⟨⟨by omega, by omega⟩, ?_⟩
              (repeat((conv=>whnf);first|apply ω0|apply ω1|apply ω2|refine τ3 rfl ?_|refine τ4 rfl ?_|refine ⟨rfl,?_⟩|apply τa|refine τb rfl ?_|refine ⟨⟨by kernel_rfl,by kernel_rfl⟩,?_⟩|refine ⟨by decide,?_⟩|apply τt|apply τf))
              refine aop_tells rfl rfl hw ⟨AVle.refl _, AVle.refl _, trivial⟩ fun nx13 => ?_
              intro c0 hc0
              (repeat((conv=>whnf);first|apply ω0|apply ω1|apply ω2|refine τ3 rfl ?_|refine τ4 rfl ?_|refine ⟨rfl,?_⟩|apply τa|refine τb rfl ?_|refine ⟨⟨by kernel_rfl,by kernel_rfl⟩,?_⟩|refine ⟨by decide,?_⟩|apply τt|apply τf))
              exact back (i + 1, nx13) (by dsimp only; omega) (by dsimp only; omega) (ele_tell (pm := []) (bx := [((3, nx9), .c (polC16 (normP ⟨(k, n), x32, rs⟩))), ((2, nx8), .c [int k, int n, boolA x32, ruls rs]), ((1, nx + 1), .c (recC r)), ((0, nx), .c [int k, int n, boolA x32, ruls rs])]) _ _ rfl rfl (List.Sublist.refl _) (List.Sublist.refl _) (BxLe.refl _) trivial ⟨AVle.refl _, AVle.refl _, AVle.refl _, AVle.refl _, AVle.refl _, AVle.refl _, AVle.refl _, AVle.refl _, AVle.refl _, AVle.refl _, le_bool (by rw [any_take17 hi, hb]; rfl), le_int (wrap_succ (by omega)), trivial⟩)
end Go.Proofs.W

/- Decimals: what reads the table of powers of ten. -/
namespace Go.Proofs
open Go.Shelf
shelf_lay LaysM.n171 Nm 171 at Tryz as Tryz.laysM171
end Go.Proofs
namespace Go.Proofs.W
open Go.Vl Go.Shelf Go.RowKit
set_option maxRecDepth 100000

theorem kn_of_tab {W : World} (h : Lib.TabIs Tryz.prog W "internal/strconv.uint64pow10" .u64 Lib.pow10Tab) : Kn W none2 := by
  unfold Lib.TabIs World.var? at h
  rw [show Tryz.prog.globalNamed "internal/strconv.uint64pow10" = some 1 from by kernel_rfl, Option.bind_some] at h
  intro p hp
  unfold tabs at hp
  obtain rfl := List.mem_singleton.1 hp
  refine ⟨?_, fun _ h => h⟩
  split at h
  · rename_i cs e fz hb
    cases h
    exact ⟨_, _, hb⟩
  · cases h
end Go.Proofs.W

namespace Go.Proofs.YtghikejaadkalaaGreatDoor
open Go.ChangeShapes Go.WideShapes Go.ChangeAt Go.RowKit Go.Vl Go.Proofs.W

theorem Tryz.own : ownKnob Tryz.prog.godebug = none := by kernel_rfl
theorem Tryz.laidOut : laidOutB Tryz.prog = true := by kernel_rfl
theorem covMapOn {P : Program} {d : Nat} {t : TypeId} {α β : Type} {e : α → AV} {e' : β → AV} {ok : α → Prop} {ok' : β → Prop} (h : Cov P d t e ok) (f : α → β) (he : ∀ x, ok x → e x = e' (f x)) (ho : ∀ x, ok x → ok' (f x)) : Cov P d t e' ok' :=
  ⟨fun cs hw => let ⟨x, h1, h2, h3⟩ := h.h cs hw; ⟨f x, ho x h1, by rw [← he x h1]; exact h2, by rw [← he x h1]; exact h3⟩⟩
theorem wf_u64 {n : Int} (h : (Lit.int .u64 n).wf = true) : 0 ≤ n ∧ n < 18446744073709551616 := by simp [Lit.wf, IntKind.min, IntKind.max, IntKind.signed, IntKind.bits] at h; omega
theorem cov_cnd : Cov Tryz.prog 3 93 cndA Cnd.ok :=
  covMapOn (Cov.struct Tryz.underlying93 rfl (CovP.cons (Cov.int Tryz.underlying3) (CovP.cons (Cov.int Tryz.underlying3) (CovP.cons (Cov.int Tryz.underlying27) (CovP.cons (Cov.int Tryz.underlying27) CovP.nil)))))
    (fun p : Int × Int × Int × Int × Unit => (⟨p.1, p.2.1, p.2.2.1.toNat, p.2.2.2.1.toNat⟩ : Cnd))
    (fun p h => by
      obtain ⟨a, b, c, d, _⟩ := p
      obtain ⟨h1, h2, h3, h4, _⟩ := h
      have g3 : 0 ≤ c ∧ c < 18446744073709551616 := wf_u64 h3; have g4 : 0 ≤ d ∧ d < 18446744073709551616 := wf_u64 h4
      show AV.ag [.v (.int .i64 a), .v (.int .i64 b), .v (.int .u64 c), .v (.int .u64 d)] = AV.ag [.v (.int .i64 a), .v (.int .i64 b), .v (.int .u64 (c.toNat : Int)), .v (.int .u64 (d.toNat : Int))]
      rw [Int.toNat_of_nonneg (by omega), Int.toNat_of_nonneg (by omega)])
    (fun p h => by
      obtain ⟨a, b, c, d, _⟩ := p
      obtain ⟨h1, h2, h3, h4, _⟩ := h
      have g3 : 0 ≤ c ∧ c < 18446744073709551616 := wf_u64 h3; have g4 : 0 ≤ d ∧ d < 18446744073709551616 := wf_u64 h4
      exact ⟨by dsimp only; omega, by dsimp only; omega⟩)
theorem cells_cnd : Tryz.prog.cellsOf 93 = 4 := by kernel_rfl
theorem cov_cnds : Cov Tryz.prog 4 86 cnds (fun l => l.length ≤ maxLen ∧ ∀ x ∈ l, x.ok) := by
  have h := Cov.slice cnd0 Tryz.underlying86 cov_cnd (fun _ => cells_cnd.symm)
  rw [cells_cnd] at h
  exact h
theorem cov_act {d : Nat} : Cov Tryz.prog (d + 2) 23 actP (fun _ => True) :=
  covMapOn (Cov.struct Tryz.underlying23 rfl (CovP.cons (Cov.int Tryz.underlying3) (CovP.cons (Cov.int Tryz.underlying3) CovP.nil)))
    (fun p : Int × Int × Unit => (p.1, p.2.1)) (fun p h => rfl) (fun p h => trivial)
theorem cov_rul : Cov Tryz.prog 5 88 rulA Rul.ok :=
  covMapOn (Cov.struct Tryz.underlying88 rfl (CovP.cons (Cov.str Tryz.underlying9) (CovP.cons cov_act (CovP.cons cov_cnds CovP.nil))))
    (fun p : ByteArray × A2 × List Cnd × Unit => (⟨p.1, p.2.1, p.2.2.1⟩ : Rul)) (fun p h => rfl) (fun p h => ⟨h.1, h.2.2.1.1, h.2.2.1.2⟩)
theorem cells_rul : Tryz.prog.cellsOf 88 = 4 := by kernel_rfl
theorem cov_ruls : Cov Tryz.prog 6 24 ruls (fun l => l.length ≤ maxLen ∧ ∀ x ∈ l, x.ok) := by
  have h := Cov.slice rul0 Tryz.underlying24 cov_rul (fun _ => cells_rul.symm)
  rw [cells_rul] at h
  exact h
theorem cov_pol : Cov Tryz.prog 7 26 polA Pol.ok :=
  covMapOn (Cov.struct Tryz.underlying26 rfl (CovP.cons cov_act (CovP.cons (Cov.bool Tryz.underlying4) (CovP.cons cov_ruls CovP.nil))))
    (fun p : A2 × Bool × List Rul × Unit => (⟨p.1, p.2.1, p.2.2.1⟩ : Pol)) (fun p h => rfl) (fun p h => h.2.2.1)
theorem wf_u32 {n : Int} (h : (Lit.int .u32 n).wf = true) : 0 ≤ n ∧ n < 4294967296 := by simp [Lit.wf, IntKind.min, IntKind.max, IntKind.signed, IntKind.bits] at h; omega
theorem cov_u64 {d : Nat} : Cov Tryz.prog (d + 1) 27 (fun n : Nat => u64 n) (fun n => n < 18446744073709551616) :=
  covMapOn (Cov.int (d := d) Tryz.underlying27) Int.toNat (fun n h => by have := wf_u64 h; show AV.v _ = AV.v _; rw [Int.toNat_of_nonneg (by omega)]) (fun n h => by have := wf_u64 h; omega)
theorem cov_u32 {d : Nat} : Cov Tryz.prog (d + 1) 42 (fun n : Nat => u32 n) (fun n => n < 4294967296) :=
  covMapOn (Cov.int (d := d) Tryz.underlying42) Int.toNat (fun n h => by have := wf_u32 h; show AV.v _ = AV.v _; rw [Int.toNat_of_nonneg (by omega)]) (fun n h => by have := wf_u32 h; omega)
theorem cov_row {d : Nat} : Cov Tryz.prog (d + 3) 76 trowA (fun r => r.name.size ≤ maxLen) :=
  covMapOn (Cov.struct Tryz.underlying76 rfl (CovP.cons (Cov.str Tryz.underlying9) (CovP.cons (Cov.array Tryz.underlying74 (Cov.int (d := d) Tryz.underlying3)) (CovP.cons (Cov.int Tryz.underlying3) (CovP.cons (Cov.int Tryz.underlying3) CovP.nil)))))
    (fun p : ByteArray × List Int × Int × Int × Unit => (⟨p.1, p.2.1.getD 0 0, p.2.1.getD 1 0, p.2.1.getD 2 0, p.2.1.getD 3 0, p.2.1.getD 4 0, p.2.2.1, p.2.2.2.1⟩ : TRow))
    (fun p h => by
      obtain ⟨s, l, m, u, _⟩ := p
      obtain ⟨_, ⟨hl, _⟩, _⟩ := h
      match l, hl with
      | [a, b, c, d, e], _ => rfl)
    (fun p h => h.1)
theorem cov_rec {d : Nat} : Cov Tryz.prog (d + 3) 44 recA Rec.ok :=
  covMapOn (Cov.struct Tryz.underlying44 rfl (CovP.cons cov_u32 (CovP.cons cov_u32 (CovP.cons cov_u64 (CovP.cons (Cov.array Tryz.underlying28 cov_u64) CovP.nil)))))
    (fun p : Nat × Nat × Nat × List Nat × Unit => (⟨p.1, p.2.1, p.2.2.1, p.2.2.2.1.getD 0 0, p.2.2.2.1.getD 1 0, p.2.2.2.1.getD 2 0, p.2.2.2.1.getD 3 0, p.2.2.2.1.getD 4 0, p.2.2.2.1.getD 5 0⟩ : Rec))
    (fun p h => by
      obtain ⟨s, m, u, l, _⟩ := p
      obtain ⟨_, _, _, ⟨hl, _⟩, _⟩ := h
      match l, hl with
      | [a, b, c, d, e, f], _ => rfl)
    (fun p h => by
      obtain ⟨s, m, u, l, _⟩ := p
      obtain ⟨h1, h2, h3, ⟨hl, hx⟩, _⟩ := h
      match l, hl, hx with
      | [a, b, c, d, e, f], _, hx => exact ⟨h1, h2, h3, hx a (by simp), hx b (by simp), hx c (by simp), hx d (by simp), hx e (by simp), hx f (by simp)⟩)
theorem cells_row : Tryz.prog.cellsOf 76 = 8 := by kernel_rfl
theorem cov_rows {d : Nat} : Cov Tryz.prog (d + 4) 41 trows (fun l => l.length ≤ maxLen ∧ ∀ x ∈ l, x.name.size ≤ maxLen) := by
  have h := Cov.slice (d := d + 3) trow0 Tryz.underlying41 cov_row (fun _ => cells_row.symm)
  rw [cells_row] at h
  exact h
set_option maxRecDepth 100000 in
theorem kn_laid {W : World} (h : laidMetH Tryz.prog Rows.modelNormsRow.laid W) : Kn W none2 := by
  have h1 := h.filter (fun x => x.1 == "internal/strconv.uint64pow10")
  rw [show (Rows.modelNormsRow.laid.filter fun x => x.1 == "internal/strconv.uint64pow10") = [("internal/strconv.uint64pow10", Lib.tabData .u64 Lib.pow10Tab)] from by kernel_rfl, MakeChecks.laidMetH_plain _ _ _ (by kernel_rfl)] at h1
  exact kn_of_tab (Lib.tabIs_of_head (g := 1) (t := 279) (e := 27) (n := 20) (by kernel_rfl) (by kernel_rfl) Tryz.underlying279 Tryz.underlying27 (by kernel_rfl) (by kernel_rfl) h1)
set_option maxRecDepth 100000 in
theorem contract (H : Type) (enc : TypeId × Value → H) (W : World) (base : Nat) (args : Array Value) (ds gs : List (DataW H)) (before : List MemPlace)
    (hval : ∀ (j : Nat) t v, Tryz.f8.params[j]? = some t → args[j]? = some v → Value.okWide Tryz.prog W .any base t v)
    (hW : DataW.Whole enc Tryz.prog Tryz.f8.params.toList Rows.modelNormsSpec.vars false W args.toList ds gs before) (hkn : Kn W none2) :
    Calls Tryz.prog 8 args W fun e W' => ∃ v, e = .returned v ∧ Rows.modelNormsSpec.post enc Tryz.prog Tryz.f8 false true false false W args v W' := by
  have hW' := hW
  obtain ⟨p, q, hA0, hV, rfl, hfz, hnd⟩ := hW
  have hA : DataW.TrodAll enc Tryz.prog W 0 (fun _ => true) true Tryz.f8.params.toList args.toList ds p := hA0
  refine (law_calls (f := 8) (fn := Tryz.f8) (d := 7) (by kernel_rfl) hval hA (wtyAll_three cov_pol (cov_rows (d := 3)) (cov_rec (d := 4)) fun a b c ha hb hc => pcall_of_tells (modelnorms_law a b c ha hb.1 hb.2 hc)) hkn).mono fun e W' ⟨he, hb⟩ => ?_
  subst he
  exact ⟨_, rfl, law_post rfl rfl Tryz.underlying4 (fun ds hd => match ds, hd with | [a, b, c], _ => ⟨rfl, rfl, rfl⟩) hW' Tryz.laidOut (read_all (by kernel_rfl)) hb⟩
noncomputable def putC (cs : Array Value) : Obj → Obj
  | .cells _ t frozen => .cells cs t frozen
  | o => o
noncomputable def low : Nat := (World.holding Tryz.prog default ⟨#[], #[], []⟩).heap.size
abbrev rangeS : ByteArray := { data := #[118, 97, 108, 117, 101, 32, 111, 117, 116, 32, 111, 102, 32, 114, 97, 110, 103, 101] }
abbrev syntaxS : ByteArray := { data := #[105, 110, 118, 97, 108, 105, 100, 32, 115, 121, 110, 116, 97, 120] }
noncomputable def laidWorld (os : Os) : World :=
  let w0 := World.holding Tryz.prog os ⟨#[.cells #[.string rangeS] 328, .cells #[.string syntaxS] 328], #[], []⟩
  { w0 with heap := w0.heap
    |>.modify 2 (putC (Go.Pinned.utf8FirstZ.map fun n : Nat => Value.int .u8 (n : Int)).toArray)
    |>.modify 1 (putC (([1, 10, 100, 1000, 10000, 100000, 1000000, 10000000, 100000000, 1000000000, 10000000000, 100000000000, 1000000000000, 10000000000000, 100000000000000, 1000000000000000, 10000000000000000, 100000000000000000, 1000000000000000000, 10000000000000000000] : List Int).map fun n => Value.int .u64 n).toArray)
    |>.modify 3 (putC (([128, 191, 160, 191, 128, 159, 144, 191, 128, 143, 0, 0, 0, 0, 0, 0, 0, 0, 0, 0, 0, 0, 0, 0, 0, 0, 0, 0, 0, 0, 0, 0] : List Int).map fun n => Value.int .u8 n).toArray)
    |>.modify 4 (putC (([0, 1, 28, 2, 29, 14, 24, 3, 30, 22, 20, 15, 25, 17, 4, 8, 31, 27, 13, 23, 21, 19, 16, 7, 26, 12, 18, 6, 11, 5, 10, 9] : List Int).map fun n => Value.int .u8 n).toArray)
    |>.modify 5 (putC (([0, 1, 56, 2, 57, 49, 28, 3, 61, 58, 42, 50, 38, 29, 17, 4, 62, 47, 59, 36, 45, 43, 51, 22, 53, 39, 33, 30, 24, 18, 12, 5, 63, 55, 48, 27, 60, 41, 37, 16, 46, 35, 44, 21, 52, 32, 23, 11, 54, 26, 40, 15, 34, 20, 31, 10, 25, 14, 19, 9, 13, 8, 7, 6] : List Int).map fun n => Value.int .u8 n).toArray)
    |>.modify 7 (putC #[.iface 326 (.pointer (some ⟨low, 0, none⟩))])
    |>.modify 6 (putC #[.iface 326 (.pointer (some ⟨low + 1, 0, none⟩))]) }
noncomputable def zeroPol : Value := .agg #[.int .i64 0, .int .i64 0, .bool false, .slice none 0 0]
set_option maxRecDepth 100000 in
theorem laid_met (os : Os) : laidMet Tryz.prog Rows.modelNormsRow.laid ((laidWorld os).forCall (fun _ _ => 0) ⟨#[], #[zeroPol, .slice none 0 0, .agg #[.int .u32 0, .int .u32 0, .int .u64 0, .int .u64 0, .int .u64 0, .int .u64 0, .int .u64 0, .int .u64 0, .int .u64 0]], []⟩).memory :=
  laidMet_of_run' 8 (by kernel_rfl) (by kernel_rfl)
theorem reads (os : Os) {H : Type} (enc : TypeId × Value → H) : ∃ places, DataW.whole enc Tryz.prog ((laidWorld os).forCall (fun _ _ => 0) ⟨#[], #[zeroPol, .slice none 0 0, .agg #[.int .u32 0, .int .u32 0, .int .u64 0, .int .u64 0, .int .u64 0, .int .u64 0, .int .u64 0, .int .u64 0, .int .u64 0]], []⟩).memory Tryz.f8.params.toList Rows.modelNormsSpec.vars false #[zeroPol, .slice none 0 0, .agg #[.int .u32 0, .int .u32 0, .int .u64 0, .int .u64 0, .int .u64 0, .int .u64 0, .int .u64 0, .int .u64 0, .int .u64 0]].toList 8 = some ([.agg [.agg [.lit (.int .i64 0), .lit (.int .i64 0)], .lit (.bool false), .nil], .nil, .agg [.lit (.int .u32 0), .lit (.int .u32 0), .lit (.int .u64 0), .agg [.lit (.int .u64 0), .lit (.int .u64 0), .lit (.int .u64 0), .lit (.int .u64 0), .lit (.int .u64 0), .lit (.int .u64 0)]]], [], places) :=
  ⟨[], by kernel_rfl⟩
set_option maxRecDepth 100000 in
theorem lifted (os : Os) (started : os.Started) (H : Type) (enc : TypeId × Value → H) (F : Stop.Interp) :
    ReturnsInHanded {} Tryz.checked os 8 .any ((OpenSpec.ofChange Rows.modelNormsSpec).preRow enc Tryz.prog Tryz.f8 Rows.modelNormsRow.domain false Rows.modelNormsRow.laid) (((OpenSpec.ofChange Rows.modelNormsSpec).at F).post enc Tryz.prog Tryz.f8 false true false false) := by
  obtain ⟨places, hx⟩ := reads os enc
  refine returnsInHanded_of_row (C := Tryz.checked) (s := OpenSpec.ofChange Rows.modelNormsSpec) Tryz.own started (by kernel_rfl) Tryz.func8
    (witness_row_at (enc := enc) (C := Tryz.checked) false (laidWorld os) #[zeroPol, .slice none 0 0, .agg #[.int .u32 0, .int .u32 0, .int .u64 0, .int .u64 0, .int .u64 0, .int .u64 0, .int .u64 0, .int .u64 0, .int .u64 0]] rfl (by kernel_rfl) (by kernel_rfl) (by kernel_rfl)
      (OpenSpec.preRow_of_cond 8 hx (by kernel_rfl) (fun k hk => by cases hk) (by kernel_rfl) (laid_met os))) ?_
  intro W base args ds gs before hval hW _ _ _ hlaid _ _
  exact contract H enc W base args ds gs before hval hW (kn_laid hlaid)
set_option maxRecDepth 100000 in
theorem k1 : (Rows.modelNormsRow.inPlace == Tryz.pinned.checked.prog.inPlace 8) = true := by kernel_rfl
set_option maxRecDepth 100000 in
theorem k2 : (Rows.modelNormsRow.unfollowed == Tryz.pinned.checked.prog.unfollowed 8) = true := by kernel_rfl
set_option maxRecDepth 100000 in
theorem k3 : (Rows.modelNormsRow.recurses == Tryz.pinned.checked.prog.recurses 8) = true := by kernel_rfl
set_option maxRecDepth 100000 in
theorem k4 : (Rows.modelNormsRow.named == Tryz.pinned.checked.prog.varsNamed 8) = true := by kernel_rfl
end Go.Proofs.YtghikejaadkalaaGreatDoor
