import Derived.Test.YtibmfgeambbpaaaDoorD
import Derived.Test.YtibmfgeambbpaaaDoorC
import Derived.Sort.AssemblyPlain
import Derived.KernelRfl
import Derived.Test.YtibmfgeambbpaaaDoorProg
import Derived.Shelf.SortM.Plain
import Derived.Shelf.SortM.SortNone
import Derived.Shelf.SlGeneric
import Derived.Ground.SlgmProg
import Derived.Sort.Walk0
set_option linter.unusedVariables false
set_option linter.unusedSimpArgs false
namespace Go.Proofs.W
open Go.Vl
set_option maxRecDepth 100000

/-- A record. -/
structure Rec where
  num : Nat
  arch : Nat
  ptr : Nat
  a0 : Nat
  a1 : Nat
  a2 : Nat
  a3 : Nat
  a4 : Nat
  a5 : Nat
def Rec.ok (r : Rec) : Prop := r.num < 4294967296 ∧ r.arch < 4294967296 ∧ r.ptr < 18446744073709551616 ∧ r.a0 < 18446744073709551616 ∧ r.a1 < 18446744073709551616 ∧ r.a2 < 18446744073709551616 ∧ r.a3 < 18446744073709551616 ∧ r.a4 < 18446744073709551616 ∧ r.a5 < 18446744073709551616
def Rec.arg (r : Rec) : Nat → Nat
  | 0 => r.a0
  | 1 => r.a1
  | 2 => r.a2
  | 3 => r.a3
  | 4 => r.a4
  | _ => r.a5
def rec0 : Rec := ⟨0, 0, 0, 0, 0, 0, 0, 0, 0⟩
def recC (r : Rec) : List AV := [u32 r.num, u32 r.arch, u64 r.ptr, u64 r.a0, u64 r.a1, u64 r.a2, u64 r.a3, u64 r.a4, u64 r.a5]
def recA (r : Rec) : AV := .ag (recC r)
def recs (l : List Rec) : AV := slOf 9 recA rec0 l
theorem find_of {a : Nat} (h : a < 5) (hn : ∀ z ∈ infN, z.1 ≠ a) : False := by
  rcases (by omega : a = 0 ∨ a = 1 ∨ a = 2 ∨ a = 3 ∨ a = 4) with rfl | rfl | rfl | rfl | rfl
  · exact hn (0, infL.getD 0 inf0) (by simp [infN]) rfl
  · exact hn (1, infL.getD 1 inf0) (by simp [infN]) rfl
  · exact hn (2, infL.getD 2 inf0) (by simp [infN]) rfl
  · exact hn (3, infL.getD 3 inf0) (by simp [infN]) rfl
  · exact hn (4, infL.getD 4 inf0) (by simp [infN]) rfl
theorem of_no {k a : Nat} {pre : List (Nat × Inf)} {i : Inf} (h : ∀ z ∈ pre, z.1 ≠ a) (t : false = ((k : Int) == (a : Int))) : ∀ z ∈ pre ++ [(k, i)], z.1 ≠ a := fun z hz => by
  rcases List.mem_append.1 hz with q | q
  · exact h z q
  · rw [List.mem_singleton.1 q]
    intro e
    dsimp only at e
    subst e; simp at t
theorem of_yes {k a : Nat} (t : true = ((k : Int) == (a : Int))) : k = a := by
  have : (k : Int) = (a : Int) := by simpa using t.symm
  omega
set_option maxHeartbeats 4000000 in
theorem abiof_spec (a : Nat) (ha : a < 5) : Tells Tryd.prog 45 [int a] (.tup [infA (infL.getD a inf0), int 0]) := by
  refine tells_of_aw Tryd.func45 rfl rfl fun nx => ?_
  (repeat((conv=>whnf);first|apply ω0|apply ω1|apply ω2|refine τ3 rfl ?_|refine τ4 rfl ?_|refine ⟨rfl,?_⟩|apply τa|refine τb rfl ?_|refine ⟨⟨by kernel_rfl,by kernel_rfl⟩,?_⟩|refine ⟨by decide,?_⟩|apply τt|apply τf))
  refine aop_tells rfl rfl abirows_spec trivial fun nx3 => ?_
  (repeat((conv=>whnf);first|apply ω0|apply ω1|apply ω2|refine τ3 rfl ?_|refine τ4 rfl ?_|refine ⟨rfl,?_⟩|apply τa|refine τb rfl ?_|refine ⟨⟨by kernel_rfl,by kernel_rfl⟩,?_⟩|refine ⟨by decide,?_⟩|apply τt|apply τf))
  refine AW.le (E' := mk 14 [(1, .bp (0, nx) 0), (2, .bp (1, nx + 1) 0), (3, .bp (2, nx + 2) 0), (6, .fn (.func 85) [] [])] ⟨[((2, nx + 2), .c [int 0]), ((1, nx + 1), .c (infC inf0)), ((0, nx), .c [int a])], [], nx3, 3⟩) (ele_tell (pm := []) _ [] rfl rfl (List.Sublist.refl _) (List.Sublist.refl _) (BxLe.refl _) trivial ⟨AVle.refl _, AVle.refl _, AVle.refl _, AVle.refl _, trivial⟩) ?_
  refine aw_forX (σ := Option Nat) (α := Nat × Inf) (e := infE) (xs := infN) (first' := []) (caps' := []) (fun y => [((2, nx + 2), .c [int 0]), ((1, nx + 1), .c (infC (y.elim inf0 fun k => infL.getD k inf0))), ((0, nx), .c [int a])]) (fun _ => []) (fun pre y => y = none ∧ ∀ z ∈ pre, z.1 ≠ a) (fun pre x y => y = some a) none rfl rfl rows_iter trivial trivial rfl rfl ⟨rfl, fun z hz => by cases hz⟩ (fun _ => rfl) ?_ ?_ ?_
  · rintro pre x post s nx4 nn4 hx ⟨rfl, hI⟩
    rcases inf_cases hx with ⟨rfl, rfl⟩ | ⟨rfl, rfl⟩ | ⟨rfl, rfl⟩ | ⟨rfl, rfl⟩ | ⟨rfl, rfl⟩
    all_goals
      refine AW.le (ele_drop (nn := 9) (List.Sublist.refl _) (List.Sublist.refl _)) ?_
      (repeat((conv=>whnf);first|apply ω0|apply ω1|apply ω2|refine τ3 rfl ?_|refine τ4 rfl ?_|refine ⟨rfl,?_⟩|apply τa|refine τb rfl ?_|refine ⟨⟨by kernel_rfl,by kernel_rfl⟩,?_⟩|refine ⟨by decide,?_⟩|apply τt|apply τf))
      intro c t1; cases c
      · (repeat((conv=>whnf);first|apply ω0|apply ω1|apply ω2|refine τ3 rfl ?_|refine τ4 rfl ?_|refine ⟨rfl,?_⟩|apply τa|refine τb rfl ?_|refine ⟨⟨by kernel_rfl,by kernel_rfl⟩,?_⟩|refine ⟨by decide,?_⟩|apply τt|apply τf))
        exact ⟨_, ⟨_, _, _, 0⟩, AVle.refl _, hle_tell _ _ rfl (.cons _ (List.Sublist.refl _)) (List.Sublist.refl _) (BxLe.refl _) (PmEq.refl _), .inl ⟨rfl, none, ⟨rfl, of_no hI t1⟩, rfl, rfl⟩⟩
      · have e := of_yes t1
        clear t1
        subst e
        (repeat((conv=>whnf);first|apply ω0|apply ω1|apply ω2|refine τ3 rfl ?_|refine τ4 rfl ?_|refine ⟨rfl,?_⟩|apply τa|refine τb rfl ?_|refine ⟨⟨by kernel_rfl,by kernel_rfl⟩,?_⟩|refine ⟨by decide,?_⟩|apply τt|apply τf))
        exact ⟨_, ⟨_, _, _, 0⟩, AVle.refl _, hle_tell _ _ rfl (.cons _ (List.Sublist.refl _)) (List.Sublist.refl _) (BxLe.refl _) (PmEq.refl _), .inr ⟨rfl, some _, rfl, rfl, rfl⟩⟩
  · rintro s' nx4 nn4 ⟨rfl, hI⟩
    exact (find_of ha hI).elim
  · rintro pre x post s' nx4 nn4 hx rfl
    (repeat((conv=>whnf);first|apply ω0|apply ω1|apply ω2|refine τ3 rfl ?_|refine τ4 rfl ?_|refine ⟨rfl,?_⟩|apply τa|refine τb rfl ?_|refine ⟨⟨by kernel_rfl,by kernel_rfl⟩,?_⟩|refine ⟨by decide,?_⟩|apply τt|apply τf))
    exact ret_tells_all rfl ⟨rfl, ⟨rfl, Nat.le_of_ble_eq_true rfl⟩, trivial⟩ (AVle.refl _)
def arrA (f : Nat → Nat) : AV := .ag [u64 (f 0 : Nat), u64 (f 1 : Nat), u64 (f 2 : Nat), u64 (f 3 : Nat), u64 (f 4 : Nat), u64 (f 5 : Nat)]
/-- A record's arguments, as a way of calling sees them. -/
def argI (a : Nat) (r : Rec) (k : Nat) : Nat := if a = 2 then r.arg k % 4294967296 else r.arg k
theorem low32 {n : Nat} (h : n < 18446744073709551616) : IntKind.u64.wrap (IntKind.u32.wrap (n : Int)) = ((n % 4294967296 : Nat) : Int) := by
  simp [IntKind.wrap, IntKind.signed, IntKind.bits]; omega
theorem inf_bits {a : Nat} (h : a < 5) : ((infL.getD a inf0).bits == 32) = decide (a = 2) := by
  rcases (by omega : a = 0 ∨ a = 1 ∨ a = 2 ∨ a = 3 ∨ a = 4) with rfl | rfl | rfl | rfl | rfl <;> rfl
theorem c_u64 : Tryd.prog.cellsOf 26 = 1 := by kernel_rfl
def arrC (f : Nat → Nat) : List AV := [u64 (f 0 : Nat), u64 (f 1 : Nat), u64 (f 2 : Nat), u64 (f 3 : Nat), u64 (f 4 : Nat), u64 (f 5 : Nat)]
def lowK (k : Nat) (r : Rec) (j : Nat) : Nat := bif Nat.blt j k then r.arg j % 4294967296 else r.arg j
theorem le_arg {a : Nat} {r : Rec} (e : a = 2) (k : Nat) : AVle (u64 (r.arg k % 4294967296 : Nat)) (u64 (argI a r k : Nat)) := by
  unfold argI; rw [if_pos e]; exact AVle.refl _
set_option maxHeartbeats 4000000 in
theorem abiargs_spec (a : Nat) (ha : a < 5) (r : Rec) (hr : r.ok) : Tells Tryd.prog 25 [int a, recA r] (arrA (argI a r)) := by
  have hof := abiof_spec a ha
  have hbits := inf_bits ha
  obtain ⟨-, -, -, r0, r1, r2, r3, r4, r5⟩ := hr
  refine tells_of_aw Tryd.func25 rfl rfl fun nx => ?_
  (repeat((conv=>whnf);first|apply ω0|apply ω1|apply ω2|refine τ3 rfl ?_|refine τ4 rfl ?_|refine ⟨rfl,?_⟩|apply τa|refine τb rfl ?_|refine ⟨⟨by kernel_rfl,by kernel_rfl⟩,?_⟩|refine ⟨by decide,?_⟩|apply τt|apply τf))
  refine aop_tells rfl rfl hof ⟨AVle.refl _, trivial⟩ fun nx2 => ?_
  (repeat((conv=>whnf);first|apply ω0|apply ω1|apply ω2|refine τ3 rfl ?_|refine τ4 rfl ?_|refine ⟨rfl,?_⟩|apply τa|refine τb rfl ?_|refine ⟨⟨by kernel_rfl,by kernel_rfl⟩,?_⟩|refine ⟨by decide,?_⟩|apply τt|apply τf))
  intro c hc
  have hc2 : c = decide (a = 2) := hc.trans hbits
  clear hc
  cases c
  · have e : ¬ a = 2 := of_decide_eq_false hc2.symm
    have eA : argI a r = r.arg := by funext k; unfold argI; rw [if_neg e]
    rw [eA]
    (repeat((conv=>whnf);first|apply ω0|apply ω1|apply ω2|refine τ3 rfl ?_|refine τ4 rfl ?_|refine ⟨rfl,?_⟩|apply τa|refine τb rfl ?_|refine ⟨⟨by kernel_rfl,by kernel_rfl⟩,?_⟩|refine ⟨by decide,?_⟩|apply τt|apply τf))
    exact ret_tells_all rfl ⟨rfl, trivial⟩ (AVle.refl _)
  · have e : a = 2 := of_decide_eq_true hc2.symm
    (repeat((conv=>whnf);first|apply ω0|apply ω1|apply ω2|refine τ3 rfl ?_|refine τ4 rfl ?_|refine ⟨rfl,?_⟩|apply τa|refine τb rfl ?_|refine ⟨⟨by kernel_rfl,by kernel_rfl⟩,?_⟩|refine ⟨by decide,?_⟩|apply τt|apply τf))
    refine aw_loop (fun y : Nat × Nat => mk 35 [(3, .bp (0, nx) 0), (4, .bp (1, nx + 1) 0), (5, .bp (2, nx + 2) 0), (23, int y.1)] ⟨[((3, nx2), .c (infC (infL.getD a inf0))), ((2, nx + 2), .c (arrC (lowK y.1 r))), ((1, nx + 1), .c (arrC fun _ => 0)), ((0, nx), .c (recC r))], [], y.2, 4⟩) (fun y => y.1 ≤ 6) (fun y => 6 - y.1) ?_ ?_
    · exact ⟨(0, nx2 + 1), Nat.zero_le _, ele_tell (pm := []) _ [] rfl rfl (List.Sublist.refl _) (List.Sublist.refl _) ⟨rfl, OwnLe.refl _, rfl, ⟨AVle.refl _, AVle.refl _, AVle.refl _, AVle.refl _, AVle.refl _, AVle.refl _, trivial⟩, rfl, ⟨AVle.refl _, AVle.refl _, AVle.refl _, AVle.refl _, AVle.refl _, AVle.refl _, trivial⟩, BxLe.refl _⟩ trivial ⟨AVle.refl _, AVle.refl _, AVle.refl _, AVle.refl _, trivial⟩⟩
    · rintro ⟨k, nx3⟩ hk
      dsimp only at hk
      rcases k with _ | _ | _ | _ | _ | _ | _ | k
      · (repeat((conv=>whnf);first|apply ω0|apply ω1|apply ω2|refine τ3 rfl ?_|refine τ4 rfl ?_|refine ⟨rfl,?_⟩|apply τa|refine τb rfl ?_|refine ⟨⟨by kernel_rfl,by kernel_rfl⟩,?_⟩|refine ⟨by decide,?_⟩|apply τt|apply τf))
        refine ⟨⟨Int.natCast_nonneg _, show ((0 : Nat) : Int) < 6 by decide⟩, splitO_eq (b := .bp (2, nx + 2) 0) (congrArg (AV.bp (2, nx + 2)) (by rw [c_u64]; rfl)) ?_⟩
        (repeat((conv=>whnf);first|apply ω0|apply ω1|apply ω2|refine τ3 rfl ?_|refine τ4 rfl ?_|refine ⟨rfl,?_⟩|apply τa|refine τb rfl ?_|refine ⟨⟨by kernel_rfl,by kernel_rfl⟩,?_⟩|refine ⟨by decide,?_⟩|apply τt|apply τf))
        refine ⟨⟨Int.natCast_nonneg _, show ((0 : Nat) : Int) < 6 by decide⟩, splitO_eq (b := .bp (2, nx + 2) 0) (congrArg (AV.bp (2, nx + 2)) (by rw [c_u64]; rfl)) ?_⟩
        (repeat((conv=>whnf);first|apply ω0|apply ω1|apply ω2|refine τ3 rfl ?_|refine τ4 rfl ?_|refine ⟨rfl,?_⟩|apply τa|refine τb rfl ?_|refine ⟨⟨by kernel_rfl,by kernel_rfl⟩,?_⟩|refine ⟨by decide,?_⟩|apply τt|apply τf))
        exact back (0 + 1, nx3) (show 0 + 1 ≤ 6 by decide) (by dsimp only; omega) (ele_tell (bx := [((3, nx2), .c (infC (infL.getD a inf0))), ((2, nx + 2), .c (arrC (lowK (0 + 1) r))), ((1, nx + 1), .c (arrC fun _ => 0)), ((0, nx), .c (recC r))]) (pm := []) _ [] rfl rfl (List.Sublist.refl _) (List.Sublist.refl _) ⟨rfl, OwnLe.refl _, rfl, ⟨le_u64 (low32 r0), AVle.refl _, AVle.refl _, AVle.refl _, AVle.refl _, AVle.refl _, trivial⟩, BxLe.refl _⟩ trivial ⟨AVle.refl _, AVle.refl _, AVle.refl _, AVle.refl _, trivial⟩)
      · (repeat((conv=>whnf);first|apply ω0|apply ω1|apply ω2|refine τ3 rfl ?_|refine τ4 rfl ?_|refine ⟨rfl,?_⟩|apply τa|refine τb rfl ?_|refine ⟨⟨by kernel_rfl,by kernel_rfl⟩,?_⟩|refine ⟨by decide,?_⟩|apply τt|apply τf))
        refine ⟨⟨Int.natCast_nonneg _, show ((1 : Nat) : Int) < 6 by decide⟩, splitO_eq (b := .bp (2, nx + 2) 1) (congrArg (AV.bp (2, nx + 2)) (by rw [c_u64]; rfl)) ?_⟩
        (repeat((conv=>whnf);first|apply ω0|apply ω1|apply ω2|refine τ3 rfl ?_|refine τ4 rfl ?_|refine ⟨rfl,?_⟩|apply τa|refine τb rfl ?_|refine ⟨⟨by kernel_rfl,by kernel_rfl⟩,?_⟩|refine ⟨by decide,?_⟩|apply τt|apply τf))
        refine ⟨⟨Int.natCast_nonneg _, show ((1 : Nat) : Int) < 6 by decide⟩, splitO_eq (b := .bp (2, nx + 2) 1) (congrArg (AV.bp (2, nx + 2)) (by rw [c_u64]; rfl)) ?_⟩
        (repeat((conv=>whnf);first|apply ω0|apply ω1|apply ω2|refine τ3 rfl ?_|refine τ4 rfl ?_|refine ⟨rfl,?_⟩|apply τa|refine τb rfl ?_|refine ⟨⟨by kernel_rfl,by kernel_rfl⟩,?_⟩|refine ⟨by decide,?_⟩|apply τt|apply τf))
        exact back (1 + 1, nx3) (show 1 + 1 ≤ 6 by decide) (by dsimp only; omega) (ele_tell (bx := [((3, nx2), .c (infC (infL.getD a inf0))), ((2, nx + 2), .c (arrC (lowK (1 + 1) r))), ((1, nx + 1), .c (arrC fun _ => 0)), ((0, nx), .c (recC r))]) (pm := []) _ [] rfl rfl (List.Sublist.refl _) (List.Sublist.refl _) ⟨rfl, OwnLe.refl _, rfl, ⟨AVle.refl _, le_u64 (low32 r1), AVle.refl _, AVle.refl _, AVle.refl _, AVle.refl _, trivial⟩, BxLe.refl _⟩ trivial ⟨AVle.refl _, AVle.refl _, AVle.refl _, AVle.refl _, trivial⟩)
      · (repeat((conv=>whnf);first|apply ω0|apply ω1|apply ω2|refine τ3 rfl ?_|refine τ4 rfl ?_|refine ⟨rfl,?_⟩|apply τa|refine τb rfl ?_|refine ⟨⟨by kernel_rfl,by kernel_rfl⟩,?_⟩|refine ⟨by decide,?_⟩|apply τt|apply τf))
        refine ⟨⟨Int.natCast_nonneg _, show ((2 : Nat) : Int) < 6 by decide⟩, splitO_eq (b := .bp (2, nx + 2) 2) (congrArg (AV.bp (2, nx + 2)) (by rw [c_u64]; rfl)) ?_⟩
        (repeat((conv=>whnf);first|apply ω0|apply ω1|apply ω2|refine τ3 rfl ?_|refine τ4 rfl ?_|refine ⟨rfl,?_⟩|apply τa|refine τb rfl ?_|refine ⟨⟨by kernel_rfl,by kernel_rfl⟩,?_⟩|refine ⟨by decide,?_⟩|apply τt|apply τf))
        refine ⟨⟨Int.natCast_nonneg _, show ((2 : Nat) : Int) < 6 by decide⟩, splitO_eq (b := .bp (2, nx + 2) 2) (congrArg (AV.bp (2, nx + 2)) (by rw [c_u64]; rfl)) ?_⟩
        (repeat((conv=>whnf);first|apply ω0|apply ω1|apply ω2|refine τ3 rfl ?_|refine τ4 rfl ?_|refine ⟨rfl,?_⟩|apply τa|refine τb rfl ?_|refine ⟨⟨by kernel_rfl,by kernel_rfl⟩,?_⟩|refine ⟨by decide,?_⟩|apply τt|apply τf))
        exact back (2 + 1, nx3) (show 2 + 1 ≤ 6 by decide) (by dsimp only; omega) (ele_tell (bx := [((3, nx2), .c (infC (infL.getD a inf0))), ((2, nx + 2), .c (arrC (lowK (2 + 1) r))), ((1, nx + 1), .c (arrC fun _ => 0)), ((0, nx), .c (recC r))]) (pm := []) _ [] rfl rfl (List.Sublist.refl _) (List.Sublist.refl _) ⟨rfl, OwnLe.refl _, rfl, ⟨AVle.refl _, AVle.refl _, le_u64 (low32 r2), AVle.refl _, AVle.refl _, AVle.refl _, trivial⟩, BxLe.refl _⟩ trivial ⟨AVle.refl _, AVle.refl _, AVle.refl _, AVle.refl _, trivial⟩)
      · (repeat((conv=>whnf);first|apply ω0|apply ω1|apply ω2|refine τ3 rfl ?_|refine τ4 rfl ?_|refine ⟨rfl,?_⟩|apply τa|refine τb rfl ?_|refine ⟨⟨by kernel_rfl,by kernel_rfl⟩,?_⟩|refine ⟨by decide,?_⟩|apply τt|apply τf))
        refine ⟨⟨Int.natCast_nonneg _, show ((3 : Nat) : Int) < 6 by decide⟩, splitO_eq (b := .bp (2, nx + 2) 3) (congrArg (AV.bp (2, nx + 2)) (by rw [c_u64]; rfl)) ?_⟩
        (repeat((conv=>whnf);first|apply ω0|apply ω1|apply ω2|refine τ3 rfl ?_|refine τ4 rfl ?_|refine ⟨rfl,?_⟩|apply τa|refine τb rfl ?_|refine ⟨⟨by kernel_rfl,by kernel_rfl⟩,?_⟩|refine ⟨by decide,?_⟩|apply τt|apply τf))
        refine ⟨⟨Int.natCast_nonneg _, show ((3 : Nat) : Int) < 6 by decide⟩, splitO_eq (b := .bp (2, nx + 2) 3) (congrArg (AV.bp (2, nx + 2)) (by rw [c_u64]; rfl)) ?_⟩
        (repeat((conv=>whnf);first|apply ω0|apply ω1|apply ω2|refine τ3 rfl ?_|refine τ4 rfl ?_|refine ⟨rfl,?_⟩|apply τa|refine τb rfl ?_|refine ⟨⟨by kernel_rfl,by kernel_rfl⟩,?_⟩|refine ⟨by decide,?_⟩|apply τt|apply τf))
        exact back (3 + 1, nx3) (show 3 + 1 ≤ 6 by decide) (by dsimp only; omega) (ele_tell (bx := [((3, nx2), .c (infC (infL.getD a inf0))), ((2, nx + 2), .c (arrC (lowK (3 + 1) r))), ((1, nx + 1), .c (arrC fun _ => 0)), ((0, nx), .c (recC r))]) (pm := []) _ [] rfl rfl (List.Sublist.refl _) (List.Sublist.refl _) ⟨rfl, OwnLe.refl _, rfl, ⟨AVle.refl _, AVle.refl _, AVle.refl _, le_u64 (low32 r3), AVle.refl _, AVle.refl _, trivial⟩, BxLe.refl _⟩ trivial ⟨AVle.refl _, AVle.refl _, AVle.refl _, AVle.refl _, trivial⟩)
      · (repeat((conv=>whnf);first|apply ω0|apply ω1|apply ω2|refine τ3 rfl ?_|refine τ4 rfl ?_|refine ⟨rfl,?_⟩|apply τa|refine τb rfl ?_|refine ⟨⟨by kernel_rfl,by kernel_rfl⟩,?_⟩|refine ⟨by decide,?_⟩|apply τt|apply τf))
        refine ⟨⟨Int.natCast_nonneg _, show ((4 : Nat) : Int) < 6 by decide⟩, splitO_eq (b := .bp (2, nx + 2) 4) (congrArg (AV.bp (2, nx + 2)) (by rw [c_u64]; rfl)) ?_⟩
        (repeat((conv=>whnf);first|apply ω0|apply ω1|apply ω2|refine τ3 rfl ?_|refine τ4 rfl ?_|refine ⟨rfl,?_⟩|apply τa|refine τb rfl ?_|refine ⟨⟨by kernel_rfl,by kernel_rfl⟩,?_⟩|refine ⟨by decide,?_⟩|apply τt|apply τf))
        refine ⟨⟨Int.natCast_nonneg _, show ((4 : Nat) : Int) < 6 by decide⟩, splitO_eq (b := .bp (2, nx + 2) 4) (congrArg (AV.bp (2, nx + 2)) (by rw [c_u64]; rfl)) ?_⟩
        (repeat((conv=>whnf);first|apply ω0|apply ω1|apply ω2|refine τ3 rfl ?_|refine τ4 rfl ?_|refine ⟨rfl,?_⟩|apply τa|refine τb rfl ?_|refine ⟨⟨by kernel_rfl,by kernel_rfl⟩,?_⟩|refine ⟨by decide,?_⟩|apply τt|apply τf))
        exact back (4 + 1, nx3) (show 4 + 1 ≤ 6 by decide) (by dsimp only; omega) (ele_tell (bx := [((3, nx2), .c (infC (infL.getD a inf0))), ((2, nx + 2), .c (arrC (lowK (4 + 1) r))), ((1, nx + 1), .c (arrC fun _ => 0)), ((0, nx), .c (recC r))]) (pm := []) _ [] rfl rfl (List.Sublist.refl _) (List.Sublist.refl _) ⟨rfl, OwnLe.refl _, rfl, ⟨AVle.refl _, AVle.refl _, AVle.refl _, AVle.refl _, le_u64 (low32 r4), AVle.refl _, trivial⟩, BxLe.refl _⟩ trivial ⟨AVle.refl _, AVle.refl _, AVle.refl _, AVle.refl _, trivial⟩)
      · (repeat((conv=>whnf);first|apply ω0|apply ω1|apply ω2|refine τ3 rfl ?_|refine τ4 rfl ?_|refine ⟨rfl,?_⟩|apply τa|refine τb rfl ?_|refine ⟨⟨by kernel_rfl,by kernel_rfl⟩,?_⟩|refine ⟨by decide,?_⟩|apply τt|apply τf))
        refine ⟨⟨Int.natCast_nonneg _, show ((5 : Nat) : Int) < 6 by decide⟩, splitO_eq (b := .bp (2, nx + 2) 5) (congrArg (AV.bp (2, nx + 2)) (by rw [c_u64]; rfl)) ?_⟩
        (repeat((conv=>whnf);first|apply ω0|apply ω1|apply ω2|refine τ3 rfl ?_|refine τ4 rfl ?_|refine ⟨rfl,?_⟩|apply τa|refine τb rfl ?_|refine ⟨⟨by kernel_rfl,by kernel_rfl⟩,?_⟩|refine ⟨by decide,?_⟩|apply τt|apply τf))
        refine ⟨⟨Int.natCast_nonneg _, show ((5 : Nat) : Int) < 6 by decide⟩, splitO_eq (b := .bp (2, nx + 2) 5) (congrArg (AV.bp (2, nx + 2)) (by rw [c_u64]; rfl)) ?_⟩
        (repeat((conv=>whnf);first|apply ω0|apply ω1|apply ω2|refine τ3 rfl ?_|refine τ4 rfl ?_|refine ⟨rfl,?_⟩|apply τa|refine τb rfl ?_|refine ⟨⟨by kernel_rfl,by kernel_rfl⟩,?_⟩|refine ⟨by decide,?_⟩|apply τt|apply τf))
        exact back (5 + 1, nx3) (show 5 + 1 ≤ 6 by decide) (by dsimp only; omega) (ele_tell (bx := [((3, nx2), .c (infC (infL.getD a inf0))), ((2, nx + 2), .c (arrC (lowK (5 + 1) r))), ((1, nx + 1), .c (arrC fun _ => 0)), ((0, nx), .c (recC r))]) (pm := []) _ [] rfl rfl (List.Sublist.refl _) (List.Sublist.refl _) ⟨rfl, OwnLe.refl _, rfl, ⟨AVle.refl _, AVle.refl _, AVle.refl _, AVle.refl _, AVle.refl _, le_u64 (low32 r5), trivial⟩, BxLe.refl _⟩ trivial ⟨AVle.refl _, AVle.refl _, AVle.refl _, AVle.refl _, trivial⟩)
      · (repeat((conv=>whnf);first|apply ω0|apply ω1|apply ω2|refine τ3 rfl ?_|refine τ4 rfl ?_|refine ⟨rfl,?_⟩|apply τa|refine τb rfl ?_|refine ⟨⟨by kernel_rfl,by kernel_rfl⟩,?_⟩|refine ⟨by decide,?_⟩|apply τt|apply τf))
        refine ret_tells_all rfl ⟨rfl, trivial⟩ (AVle.ags ⟨le_arg e 0, le_arg e 1, le_arg e 2, le_arg e 3, le_arg e 4, le_arg e 5, trivial⟩)
      · omega
end Go.Proofs.W

namespace Go.Proofs.W
open Go.Vl
section
variable {α : Type} [Inhabited α] {lt : α → α → Bool}
theorem insG_go {a j : Nat} {e : Array α} (h : a < j) (hl : lt e[j]! e[j - 1]! = true) : Go.Sort.insInner lt a j e = Go.Sort.insInner lt a (j - 1) (Go.Sort.swp e j (j - 1)) := by
  cases j with
  | zero => omega
  | succ j =>
    rw [Go.Sort.insInner]
    simp only [Nat.add_sub_cancel] at hl ⊢
    rw [if_pos (by simp [hl]; omega)]
theorem insG_end {a j : Nat} {e : Array α} (hl : lt e[j]! e[j - 1]! = false) : Go.Sort.insInner lt a j e = e := by
  cases j with
  | zero => rfl
  | succ j =>
    rw [Go.Sort.insInner]
    simp only [Nat.add_sub_cancel] at hl ⊢
    rw [if_neg (by simp [hl])]
theorem insG_stop {a j : Nat} {e : Array α} (h : ¬ a < j) : Go.Sort.insInner lt a j e = e := by
  cases j with
  | zero => rfl
  | succ j => rw [Go.Sort.insInner]; simp; omega
theorem siftG_stop {hi F root : Nat} {d : Array α} (h : 2 * root + 1 ≥ hi) : Go.Sort.siftDown lt hi F root d = d := by rw [Go.Sort.siftDown, dif_pos h]
/-- Which child is the greater one. -/
def siftC (lt : α → α → Bool) (hi F root : Nat) (d : Array α) : Nat := if 2 * root + 2 < hi ∧ lt d[F + (2 * root + 1)]! d[F + (2 * root + 2)]! = true then 2 * root + 2 else 2 * root + 1
theorem siftG_end {hi F root : Nat} {d : Array α} (h : ¬ 2 * root + 1 ≥ hi) (hl : lt d[F + root]! d[F + siftC lt hi F root d]! = false) : Go.Sort.siftDown lt hi F root d = d := by
  rw [Go.Sort.siftDown, dif_neg h]
  unfold siftC at hl
  by_cases hc : 2 * root + 2 < hi ∧ lt d[F + (2 * root + 1)]! d[F + (2 * root + 2)]! = true
  · rw [if_pos hc] at hl
    rw [if_pos (by simp only [Bool.and_eq_true, decide_eq_true_eq]; exact hc), if_pos (by rw [hl]; rfl)]
  · rw [if_neg hc] at hl
    rw [if_neg (by simp only [Bool.and_eq_true, decide_eq_true_eq]; exact hc), if_pos (by rw [hl]; rfl)]
theorem siftG_go {hi F root : Nat} {d : Array α} (h : ¬ 2 * root + 1 ≥ hi) (hl : lt d[F + root]! d[F + siftC lt hi F root d]! = true) : Go.Sort.siftDown lt hi F root d = Go.Sort.siftDown lt hi F (siftC lt hi F root d) (Go.Sort.swp d (F + root) (F + siftC lt hi F root d)) := by
  rw [Go.Sort.siftDown, dif_neg h]
  unfold siftC at hl ⊢
  by_cases hc : 2 * root + 2 < hi ∧ lt d[F + (2 * root + 1)]! d[F + (2 * root + 2)]! = true
  · rw [if_pos hc] at hl ⊢
    rw [if_pos (by simp only [Bool.and_eq_true, decide_eq_true_eq]; exact hc), if_neg (by rw [hl]; simp), dif_pos hc.1]
  · rw [if_neg hc] at hl ⊢
    rw [if_neg (by simp only [Bool.and_eq_true, decide_eq_true_eq]; exact hc), if_neg (by rw [hl]; simp)]
theorem swpG_size {d : Array α} {i j : Nat} : (Go.Sort.swp d i j).size = d.size := by simp [Go.Sort.swp]
theorem siftG_size {hi F : Nat} : ∀ (k root : Nat) (d : Array α), hi - root ≤ k → (Go.Sort.siftDown lt hi F root d).size = d.size := by
  intro k
  induction k with
  | zero => intro root d h; rw [siftG_stop (by omega)]
  | succ k ih =>
    intro root d h
    by_cases h1 : 2 * root + 1 ≥ hi
    · rw [siftG_stop h1]
    · cases hl : lt d[F + root]! d[F + siftC lt hi F root d]! with
      | false => rw [siftG_end h1 hl]
      | true =>
        rw [siftG_go h1 hl, ih _ _ ?_, swpG_size]
        unfold siftC; split <;> omega
theorem scanG_up_end {p : α → Bool} {d : Array α} {i j : Nat} (h : ¬ (i ≤ j ∧ p d[i]! = true)) : Go.Sort.scanUp p d j i = i := by
  rw [Go.Sort.scanUp, if_neg (by simp only [Bool.and_eq_true, decide_eq_true_eq]; exact h)]
theorem scanG_up_go {p : α → Bool} {d : Array α} {i j : Nat} (h : i ≤ j) (hp : p d[i]! = true) : Go.Sort.scanUp p d j i = Go.Sort.scanUp p d j (i + 1) := by
  rw [Go.Sort.scanUp, if_pos (by simp only [Bool.and_eq_true, decide_eq_true_eq]; exact ⟨h, hp⟩)]
theorem scanG_dn_end {p : α → Bool} {d : Array α} {i j : Nat} (h : ¬ (i ≤ j ∧ p d[j]! = true)) : Go.Sort.scanDown p d i j = j := by
  cases j with
  | zero => rfl
  | succ j => rw [Go.Sort.scanDown, if_neg (by simp only [Bool.and_eq_true, decide_eq_true_eq]; exact h)]
theorem scanG_dn_go {p : α → Bool} {d : Array α} {i j : Nat} (h1 : 1 ≤ i) (h : i ≤ j) (hp : p d[j]! = true) : Go.Sort.scanDown p d i j = Go.Sort.scanDown p d i (j - 1) := by
  cases j with
  | zero => omega
  | succ j => rw [Go.Sort.scanDown, if_pos (by simp only [Bool.and_eq_true, decide_eq_true_eq]; exact ⟨h, hp⟩)]; rfl
theorem scanG_so_end {d : Array α} {i b : Nat} (h : ¬ (i < b ∧ lt d[i]! d[i - 1]! = false)) : Go.Sort.scanSorted lt d b i = i := by
  rw [Go.Sort.scanSorted, if_neg (by simp only [Bool.and_eq_true, decide_eq_true_eq, Bool.not_eq_true']; exact h)]
theorem scanG_so_go {d : Array α} {i b : Nat} (h : i < b) (hp : lt d[i]! d[i - 1]! = false) : Go.Sort.scanSorted lt d b i = Go.Sort.scanSorted lt d b (i + 1) := by
  rw [Go.Sort.scanSorted, if_pos (by simp only [Bool.and_eq_true, decide_eq_true_eq, Bool.not_eq_true']; exact ⟨h, hp⟩)]
theorem shDn_end {d : Array α} {j : Nat} (h : lt d[j]! d[j - 1]! = false) : Go.Sort.shiftDown lt j d = d := by
  cases j with
  | zero => rfl
  | succ j => rw [Go.Sort.shiftDown]; simp only [Nat.add_sub_cancel] at h; rw [if_pos (by rw [h]; rfl)]
theorem shDn_go {d : Array α} {j : Nat} (h1 : 1 ≤ j) (h : lt d[j]! d[j - 1]! = true) : Go.Sort.shiftDown lt j d = Go.Sort.shiftDown lt (j - 1) (Go.Sort.swp d j (j - 1)) := by
  cases j with
  | zero => omega
  | succ j => rw [Go.Sort.shiftDown]; simp only [Nat.add_sub_cancel] at h ⊢; rw [if_neg (by rw [h]; simp)]
theorem shUp_end {d : Array α} {b j : Nat} (h : ¬ (j < b ∧ lt d[j]! d[j - 1]! = true)) : Go.Sort.shiftUp lt b j d = d := by
  rw [Go.Sort.shiftUp]
  by_cases hj : j < b
  · rw [if_pos hj, if_pos (by cases hl : lt d[j]! d[j - 1]! with | false => rfl | true => exact absurd ⟨hj, hl⟩ h)]
  · rw [if_neg hj]
theorem shUp_go {d : Array α} {b j : Nat} (h1 : j < b) (h : lt d[j]! d[j - 1]! = true) : Go.Sort.shiftUp lt b j d = Go.Sort.shiftUp lt b (j + 1) (Go.Sort.swp d j (j - 1)) := by
  rw [Go.Sort.shiftUp, if_pos h1, if_neg (by rw [h]; simp)]
theorem partG_now {d : Array α} {a b p i j : Nat} (hi : i = Go.Sort.scanUp (fun x => lt x (Go.Sort.swp d a p)[a]!) (Go.Sort.swp d a p) (b - 1) (a + 1)) (hj : j = Go.Sort.scanDown (fun x => !lt x (Go.Sort.swp d a p)[a]!) (Go.Sort.swp d a p) i (b - 1)) (h : i > j) :
    Go.Sort.partition lt d a b p = (j, true, Go.Sort.swp (Go.Sort.swp d a p) j a) := by
  subst hj; subst hi
  show (if _ then _ else _) = _
  rw [if_pos h]
theorem partG_go {d : Array α} {a b p i j : Nat} (hi : i = Go.Sort.scanUp (fun x => lt x (Go.Sort.swp d a p)[a]!) (Go.Sort.swp d a p) (b - 1) (a + 1)) (hj : j = Go.Sort.scanDown (fun x => !lt x (Go.Sort.swp d a p)[a]!) (Go.Sort.swp d a p) i (b - 1)) (h : ¬ i > j) :
    Go.Sort.partition lt d a b p = ((Go.Sort.partLoop lt a (i + 1) (j - 1) (Go.Sort.swp (Go.Sort.swp d a p) i j)).1, false, Go.Sort.swp (Go.Sort.partLoop lt a (i + 1) (j - 1) (Go.Sort.swp (Go.Sort.swp d a p) i j)).2 (Go.Sort.partLoop lt a (i + 1) (j - 1) (Go.Sort.swp (Go.Sort.swp d a p) i j)).1 a) := by
  subst hj; subst hi
  show (if _ then _ else _) = _
  rw [if_neg h]
theorem lit_eq {K : Bool → Prop} {b b' : Bool} (h : b = b') (hk : ∀ c, c = b' → K c) : ∀ c, c = b → K c := by subst h; exact hk
theorem not_of' {b : Bool} (h : false = !b) : b = true := by cases b <;> simp_all
theorem yes_of' {b : Bool} (h : true = !b) : b = false := by cases b <;> simp_all
theorem wrapN {x : Int} {k : Nat} (h : x = (k : Int)) (hk : k ≤ 9000000000000000000) : IntKind.i64.wrap x = (k : Int) := by rw [wrap_id (by omega) (by omega)]; exact h
/-- A list, sorted. -/
def sortBy (lt : α → α → Bool) (l : List α) : List α := l.mergeSort (fun x y => !lt y x)
omit [Inhabited α] in
theorem sortBy_pair (hS : Go.Sort.SWO lt) (l : List α) : (sortBy lt l).Pairwise (fun x y => lt y x = false) := by
  have tr : ∀ a b c : α, (!lt b a) = true → (!lt c b) = true → (!lt c a) = true := fun a b c h1 h2 => by
    simp only [Bool.not_eq_true'] at *; exact hS.ntrans _ _ _ h2 h1
  have to : ∀ a b : α, ((!lt b a) || (!lt a b)) = true := fun a b => by
    cases h1 : lt b a <;> cases h2 : lt a b <;> try rfl
    have := hS.trans _ _ _ h1 h2
    rw [hS.irrefl] at this; cases this
  exact (List.pairwise_mergeSort tr to l).imp fun h => by simpa using h
omit [Inhabited α] in
theorem sortBy_mem {l : List α} {x : α} : x ∈ sortBy lt l ↔ x ∈ l := (List.mergeSort_perm l _).mem_iff
omit [Inhabited α] in
theorem sortBy_length {l : List α} : (sortBy lt l).length = l.length := List.length_mergeSort _
omit [Inhabited α] in
theorem sortBy_of_perm (hS : Go.Sort.SWO lt) (hT : ∀ x y, lt x y = false → lt y x = false → x = y) {l l' : List α} (h : l.Perm l') : sortBy lt l = sortBy lt l' :=
  List.Perm.eq_of_pairwise (le := fun x y => lt y x = false) (fun a b _ _ h1 h2 => hT a b h2 h1) (sortBy_pair hS l) (sortBy_pair hS l') (((List.mergeSort_perm l _).trans h).trans (List.mergeSort_perm l' _).symm)
omit [Inhabited α] in
/-- Sorted lists of the same elements, none twice. -/
theorem sorted_same (hT : ∀ x y, lt x y = false → lt y x = false → x = y) {l l' : List α} (h1 : l.Pairwise (fun x y => lt y x = false)) (h2 : l'.Pairwise (fun x y => lt y x = false)) (n1 : l.Nodup) (n2 : l'.Nodup) (h : ∀ x, x ∈ l ↔ x ∈ l') : l = l' :=
  List.Perm.eq_of_pairwise (le := fun x y => lt y x = false) (fun a b _ _ h1 h2 => hT a b h2 h1) h1 h2 ((List.perm_ext_iff_of_nodup n1 n2).2 h)
end
theorem ltInt_tot : ∀ x y : Int, Go.Sort.ltInt x y = false → Go.Sort.ltInt y x = false → x = y := fun x y h1 h2 => by
  simp [Go.Sort.ltInt] at h1 h2; omega
end Go.Proofs.W

namespace Go.Proofs.W
open Go.Vl
set_option maxRecDepth 100000

theorem idxf_trow (l : List TRow) (p : TRow → Bool) (f : Nat) (x y : List AV) (hl : l.length ≤ 1000000000) (hp : ∀ i, i < l.length → Tells Tryd.prog f [trowA (l.getD i trow0), .rp x, .rp y] (boolA (p (l.getD i trow0)))) :
    Tells Tryd.prog 64 [slOf 8 trowA trow0 l, (.fn (.func f) [] [.rp x, .rp y])] (int (optI (l.findIdx? p))) := by
  refine tells_of_aw Tryd.func64 rfl rfl fun nx => ?_
  (repeat((conv=>whnf);first|apply ω0|apply ω1|apply ω2|refine τ3 rfl ?_|refine τ4 rfl ?_|refine ⟨rfl,?_⟩|apply τa|refine τb rfl ?_|refine ⟨⟨by kernel_rfl,by kernel_rfl⟩,?_⟩|refine ⟨by decide,?_⟩|apply τt|apply τf))
  refine aw_loop (fun s : Nat × Nat => mk 19 [(0, slOf 8 trowA trow0 l), (1, (.fn (.func f) [] [.rp x, .rp y])), (7, int l.length), (8, int s.1)] ⟨[], [], s.2, 0⟩) (fun s => s.1 ≤ l.length ∧ ∀ j, j < s.1 → p (l.getD j trow0) = false) (fun s => l.length - s.1) ?_ ?_
  · exact ⟨(0, nx), ⟨by simp, by intro j hj; simp at hj⟩, ele_mk rfl rfl ⟨AVle.refl _, AVle.refl _, AVle.refl _, AVle.refl _, trivial⟩⟩
  · rintro ⟨i, nx⟩ ⟨h1, h2⟩
    dsimp only at h1 h2
    (repeat((conv=>whnf);first|apply ω0|apply ω1|apply ω2|refine τ3 rfl ?_|refine τ4 rfl ?_|refine ⟨rfl,?_⟩|apply τa|refine τb rfl ?_|refine ⟨⟨by kernel_rfl,by kernel_rfl⟩,?_⟩|refine ⟨by decide,?_⟩|apply τt|apply τf))
    intro c h3; cases c
    · have h3 := not_of h3
      dsimp only at h3
      (repeat((conv=>whnf);first|apply ω0|apply ω1|apply ω2|refine τ3 rfl ?_|refine τ4 rfl ?_|refine ⟨rfl,?_⟩|apply τa|refine τb rfl ?_|refine ⟨⟨by kernel_rfl,by kernel_rfl⟩,?_⟩|refine ⟨by decide,?_⟩|apply τt|apply τf))
      refine ret_tells rfl (le_int ?_)
      rw [idx_none trow0 (fun j hj => h2 j (by omega))]; rfl
    · have h3 := yes_of h3
      dsimp only at h3
      have hi : i < l.length := by omega
      (repeat((conv=>whnf);first|apply ω0|apply ω1|apply ω2|refine τ3 rfl ?_|refine τ4 rfl ?_|refine ⟨rfl,?_⟩|apply τa|refine τb rfl ?_|refine ⟨⟨by kernel_rfl,by kernel_rfl⟩,?_⟩|refine ⟨by decide,?_⟩|apply τt|apply τf))
      refine ⟨⟨by dsimp only; omega, by dsimp only; omega⟩, ?_⟩
      (repeat((conv=>whnf);first|apply ω0|apply ω1|apply ω2|refine τ3 rfl ?_|refine τ4 rfl ?_|refine ⟨rfl,?_⟩|apply τa|refine τb rfl ?_|refine ⟨⟨by kernel_rfl,by kernel_rfl⟩,?_⟩|refine ⟨by decide,?_⟩|apply τt|apply τf))
      refine aop_tells rfl rfl (hp i hi) ⟨AVle.refl _, AVle.refl _, AVle.refl _, trivial⟩ fun nx' => ?_
      intro c h4; cases c
      · (repeat((conv=>whnf);first|apply ω0|apply ω1|apply ω2|refine τ3 rfl ?_|refine τ4 rfl ?_|refine ⟨rfl,?_⟩|apply τa|refine τb rfl ?_|refine ⟨⟨by kernel_rfl,by kernel_rfl⟩,?_⟩|refine ⟨by decide,?_⟩|apply τt|apply τf))
        refine back (i + 1, nx') ⟨by dsimp only; omega, fun j hj => ?_⟩ (by dsimp only; omega) (ele_mk rfl rfl ⟨AVle.refl _, AVle.refl _, AVle.refl _, le_int (wrap_succ (by dsimp only; omega)), trivial⟩)
        dsimp only at hj
        rcases Nat.lt_or_ge j i with h | h
        · exact h2 j h
        · obtain rfl : j = i := by omega
          exact h4.symm
      · (repeat((conv=>whnf);first|apply ω0|apply ω1|apply ω2|refine τ3 rfl ?_|refine τ4 rfl ?_|refine ⟨rfl,?_⟩|apply τa|refine τb rfl ?_|refine ⟨⟨by kernel_rfl,by kernel_rfl⟩,?_⟩|refine ⟨by decide,?_⟩|apply τt|apply τf))
        refine ret_tells rfl (le_int ?_)
        rw [idx_at trow0 hi h2 h4.symm]; rfl
def subB (mux sub : Int) (r : TRow) : Bool := decide (r.mux = mux) && (decide (r.sub = sub) && decide (mux ≠ 0))
theorem sub1_spec (r : TRow) (mux sub : Int) : Tells Tryd.prog 65 [trowA r, .rp [int mux], .rp [int sub]] (boolA (subB mux sub r)) := by
  refine tells_of_aw Tryd.func65 rfl rfl fun nx => ?_
  (repeat((conv=>whnf);first|apply ω0|apply ω1|apply ω2|refine τ3 rfl ?_|refine τ4 rfl ?_|refine ⟨rfl,?_⟩|apply τa|refine τb rfl ?_|refine ⟨⟨by kernel_rfl,by kernel_rfl⟩,?_⟩|refine ⟨by decide,?_⟩|apply τt|apply τf))
  intro c t1; cases c
  · have e : subB mux sub r = false := by unfold subB; rw [decide_eq_false (by simpa using t1.symm)]; rfl
    rw [e]
    (repeat((conv=>whnf);first|apply ω0|apply ω1|apply ω2|refine τ3 rfl ?_|refine τ4 rfl ?_|refine ⟨rfl,?_⟩|apply τa|refine τb rfl ?_|refine ⟨⟨by kernel_rfl,by kernel_rfl⟩,?_⟩|refine ⟨by decide,?_⟩|apply τt|apply τf))
    exact ret_tells rfl (AVle.refl _)
  · have t1 : r.mux = mux := by simpa using t1.symm
    have e : subB mux sub r = (decide (r.sub = sub) && decide (mux ≠ 0)) := by unfold subB; rw [decide_eq_true t1]; rfl
    rw [e]
    (repeat((conv=>whnf);first|apply ω0|apply ω1|apply ω2|refine τ3 rfl ?_|refine τ4 rfl ?_|refine ⟨rfl,?_⟩|apply τa|refine τb rfl ?_|refine ⟨⟨by kernel_rfl,by kernel_rfl⟩,?_⟩|refine ⟨by decide,?_⟩|apply τt|apply τf))
    intro c t2; cases c
    · rw [decide_eq_false (show ¬ r.sub = sub by simpa using t2.symm)]
      (repeat((conv=>whnf);first|apply ω0|apply ω1|apply ω2|refine τ3 rfl ?_|refine τ4 rfl ?_|refine ⟨rfl,?_⟩|apply τa|refine τb rfl ?_|refine ⟨⟨by kernel_rfl,by kernel_rfl⟩,?_⟩|refine ⟨by decide,?_⟩|apply τt|apply τf))
      exact ret_tells rfl (AVle.refl _)
    · rw [decide_eq_true (show r.sub = sub by simpa using t2.symm)]
      (repeat((conv=>whnf);first|apply ω0|apply ω1|apply ω2|refine τ3 rfl ?_|refine τ4 rfl ?_|refine ⟨rfl,?_⟩|apply τa|refine τb rfl ?_|refine ⟨⟨by kernel_rfl,by kernel_rfl⟩,?_⟩|refine ⟨by decide,?_⟩|apply τt|apply τf))
      intro c t3; cases c
      all_goals
        (repeat((conv=>whnf);first|apply ω0|apply ω1|apply ω2|refine τ3 rfl ?_|refine τ4 rfl ?_|refine ⟨rfl,?_⟩|apply τa|refine τb rfl ?_|refine ⟨⟨by kernel_rfl,by kernel_rfl⟩,?_⟩|refine ⟨by decide,?_⟩|apply τt|apply τf))
        exact ret_tells rfl (le_bool (t3.trans (by rw [Bool.true_and, Bool.eq_iff_iff]; simp)))
def subRes (l : List TRow) : Option Nat → AV
  | some i => .tup [strA (l.getD i trow0).name, boolA true]
  | none => .tup [strA ⟨#[]⟩, boolA false]
theorem idx_lt {l : List TRow} {p : TRow → Bool} {i : Nat} (h : l.findIdx? p = some i) : i < l.length := (List.findIdx?_eq_some_iff_getElem.1 h).1
theorem tabsub_spec (l : List TRow) (mux sub : Int) (hl : l.length ≤ 1000000000) : Tells Tryd.prog 41 [trows l, int mux, int sub] (subRes l (l.findIdx? (subB mux sub))) := by
  have hi := idxf_trow l (subB mux sub) 65 [int mux] [int sub] hl (fun i _ => sub1_spec _ mux sub)
  have hlt := fun i => idx_lt (l := l) (p := subB mux sub) (i := i)
  generalize l.findIdx? (subB mux sub) = o at hi hlt ⊢
  refine tells_of_aw Tryd.func41 rfl rfl fun nx => ?_
  ((repeat((conv=>whnf);first|apply ω0|apply ω2|refine τ3 rfl ?_|refine τ4 rfl ?_|refine ⟨rfl,?_⟩|apply τa|refine τb rfl ?_|refine ⟨⟨by kernel_rfl,by kernel_rfl⟩,?_⟩|refine ⟨by decide,?_⟩|apply τt|apply τf)); refine aw_region ?_; (repeat((conv=>whnf);first|apply ω0|apply ω2|refine τ3 rfl ?_|refine τ4 rfl ?_|refine ⟨rfl,?_⟩|apply τa|refine τb rfl ?_|refine ⟨⟨by kernel_rfl,by kernel_rfl⟩,?_⟩|refine ⟨by decide,?_⟩|apply τt|apply τf)))
  refine aw_freeze (n := 19) (nx := nx + 2) (nn := 2) (pm := []) (bx := []) (L := [(0, trows l), (4, .rp [int mux]), (5, .rp [int sub])]) (df := some []) [((1, nx + 1), .c [int sub]), ((0, nx), .c [int mux])] rfl rfl rfl (List.Perm.refl _) (List.Sublist.refl _) ⟨Frz.refl _, Frz.bp (.tail _ (.head _)) rfl, Frz.bp (.head _) rfl, trivial⟩ ?_
  (repeat((conv=>whnf);first|apply ω0|apply ω1|apply ω2|refine τ3 rfl ?_|refine τ4 rfl ?_|refine ⟨rfl,?_⟩|apply τa|refine τb rfl ?_|refine ⟨⟨by kernel_rfl,by kernel_rfl⟩,?_⟩|refine ⟨by decide,?_⟩|apply τt|apply τf))
  refine aop_tells rfl rfl hi ⟨AVle.refl _, AVle.refl _, trivial⟩ fun nx2 => ?_
  rcases o with _ | i
  · (repeat((conv=>whnf);first|apply ω0|apply ω1|apply ω2|refine τ3 rfl ?_|refine τ4 rfl ?_|refine ⟨rfl,?_⟩|apply τa|refine τb rfl ?_|refine ⟨⟨by kernel_rfl,by kernel_rfl⟩,?_⟩|refine ⟨by decide,?_⟩|apply τt|apply τf))
    exact ret_tells rfl (AVle.refl _)
  · have hi := hlt i rfl
    (repeat((conv=>whnf);first|apply ω0|apply ω1|apply ω2|refine τ3 rfl ?_|refine τ4 rfl ?_|refine ⟨rfl,?_⟩|apply τa|refine τb rfl ?_|refine ⟨⟨by kernel_rfl,by kernel_rfl⟩,?_⟩|refine ⟨by decide,?_⟩|apply τt|apply τf))
    refine ⟨⟨Int.natCast_nonneg i, show (i : Int) < (l.length : Int) by omega⟩, ?_⟩
    (repeat((conv=>whnf);first|apply ω0|apply ω1|apply ω2|refine τ3 rfl ?_|refine τ4 rfl ?_|refine ⟨rfl,?_⟩|apply τa|refine τb rfl ?_|refine ⟨⟨by kernel_rfl,by kernel_rfl⟩,?_⟩|refine ⟨by decide,?_⟩|apply τt|apply τf))
    exact ret_tells rfl (AVle.refl _)
def nameB5 (a : Nat) (n : Int) (r : TRow) : Bool := decide (r.num a = n)
theorem name1_spec (r : TRow) (a : Nat) (ha : a < 5) (n : Int) (hn : 0 ≤ n) : Tells Tryd.prog 66 [trowA r, .rp [int a], .rp [int n]] (boolA (nameB5 a n r)) := by
  have hne : decide (n ≠ -1) = true := decide_eq_true (by omega)
  have hne2 : (n != -1) = true := by simp; omega
  unfold nameB5
  refine tells_of_aw Tryd.func66 rfl rfl fun nx => ?_
  rcases (by omega : a = 0 ∨ a = 1 ∨ a = 2 ∨ a = 3 ∨ a = 4) with rfl | rfl | rfl | rfl | rfl
  all_goals
    (repeat((conv=>whnf);first|apply ω0|apply ω1|apply ω2|refine τ3 rfl ?_|refine τ4 rfl ?_|refine ⟨rfl,?_⟩|apply τa|refine τb rfl ?_|refine ⟨⟨by kernel_rfl,by kernel_rfl⟩,?_⟩|refine ⟨by decide,?_⟩|apply τt|apply τf))
    (refine aw_draw 11 ?_ ?_ ?_ ?_; (· kernel_rfl); (· kernel_rfl); (· kernel_rfl))
    (repeat((conv=>whnf);first|apply ω0|apply ω1|apply ω2|refine τ3 rfl ?_|refine τ4 rfl ?_|refine ⟨rfl,?_⟩|apply τa|refine τb rfl ?_|refine ⟨⟨by kernel_rfl,by kernel_rfl⟩,?_⟩|refine ⟨by decide,?_⟩|apply τt|apply τf))
    intro c t1; cases c
    · (repeat((conv=>whnf);first|apply ω0|apply ω1|apply ω2|refine τ3 rfl ?_|refine τ4 rfl ?_|refine ⟨rfl,?_⟩|apply τa|refine τb rfl ?_|refine ⟨⟨by kernel_rfl,by kernel_rfl⟩,?_⟩|refine ⟨by decide,?_⟩|apply τt|apply τf))
      exact ret_tells rfl (le_bool (decide_eq_false (beq_eq_false_iff_ne.1 t1.symm)).symm)
    · (repeat((conv=>whnf);first|apply ω0|apply ω1|apply ω2|refine τ3 rfl ?_|refine τ4 rfl ?_|refine ⟨rfl,?_⟩|apply τa|refine τb rfl ?_|refine ⟨⟨by kernel_rfl,by kernel_rfl⟩,?_⟩|refine ⟨by decide,?_⟩|apply τt|apply τf))
      (conv => whnf)
      refine lit_eq hne2 ?_
      (repeat((conv=>whnf);first|apply ω0|apply ω1|apply ω2|refine τ3 rfl ?_|refine τ4 rfl ?_|refine ⟨rfl,?_⟩|apply τa|refine τb rfl ?_|refine ⟨⟨by kernel_rfl,by kernel_rfl⟩,?_⟩|refine ⟨by decide,?_⟩|apply τt|apply τf))
      exact ret_tells rfl (le_bool (decide_eq_true (beq_iff_eq.1 t1.symm)).symm)
def nameRes (l : List TRow) : Option Nat → AV
  | some i => .tup [strA (l.getD i trow0).name, int 0]
  | none => .tup [strA ⟨#[]⟩, int 14]
theorem tabname_spec (l : List TRow) (a : Nat) (ha : a < 5) (n : Int) (hn : 0 ≤ n) (hl : l.length ≤ 1000000000) : Tells Tryd.prog 43 [trows l, int a, int n] (nameRes l (l.findIdx? (nameB5 a n))) := by
  have hi := idxf_trow l (nameB5 a n) 66 [int a] [int n] hl (fun i _ => name1_spec _ a ha n hn)
  have hlt := fun i => idx_lt (l := l) (p := nameB5 a n) (i := i)
  generalize l.findIdx? (nameB5 a n) = o at hi hlt ⊢
  have hd1 : decide ((a : Int) < 0) = false := decide_eq_false (by omega)
  have hd2 : decide ((a : Int) ≥ 5) = false := decide_eq_false (by omega)
  have hd3 : decide (n < 0) = false := decide_eq_false (by omega)
  refine tells_of_aw Tryd.func43 rfl rfl fun nx => ?_
  ((repeat((conv=>whnf);first|apply ω0|apply ω2|refine τ3 rfl ?_|refine τ4 rfl ?_|refine ⟨rfl,?_⟩|apply τa|refine τb rfl ?_|refine ⟨⟨by kernel_rfl,by kernel_rfl⟩,?_⟩|refine ⟨by decide,?_⟩|apply τt|apply τf)); refine aw_region ?_; (repeat((conv=>whnf);first|apply ω0|apply ω2|refine τ3 rfl ?_|refine τ4 rfl ?_|refine ⟨rfl,?_⟩|apply τa|refine τb rfl ?_|refine ⟨⟨by kernel_rfl,by kernel_rfl⟩,?_⟩|refine ⟨by decide,?_⟩|apply τt|apply τf)))
  refine aw_freeze (n := 47) (nx := nx + 2) (nn := 2) (pm := []) (bx := []) (L := [(0, trows l), (4, .rp [int a]), (5, .rp [int n])]) (df := some []) [((1, nx + 1), .c [int n]), ((0, nx), .c [int a])] rfl rfl rfl (List.Perm.refl _) (List.Sublist.refl _) ⟨Frz.refl _, Frz.bp (.tail _ (.head _)) rfl, Frz.bp (.head _) rfl, trivial⟩ ?_
  (repeat((conv=>whnf);first|apply ω0|apply ω1|apply ω2|refine τ3 rfl ?_|refine τ4 rfl ?_|refine ⟨rfl,?_⟩|apply τa|refine τb rfl ?_|refine ⟨⟨by kernel_rfl,by kernel_rfl⟩,?_⟩|refine ⟨by decide,?_⟩|apply τt|apply τf))
  (conv => whnf)
  refine lit_eq hd2 ?_
  (repeat((conv=>whnf);first|apply ω0|apply ω1|apply ω2|refine τ3 rfl ?_|refine τ4 rfl ?_|refine ⟨rfl,?_⟩|apply τa|refine τb rfl ?_|refine ⟨⟨by kernel_rfl,by kernel_rfl⟩,?_⟩|refine ⟨by decide,?_⟩|apply τt|apply τf))
  refine aop_tells rfl rfl hi ⟨AVle.refl _, AVle.refl _, trivial⟩ fun nx2 => ?_
  rcases o with _ | i
  · (repeat((conv=>whnf);first|apply ω0|apply ω1|apply ω2|refine τ3 rfl ?_|refine τ4 rfl ?_|refine ⟨rfl,?_⟩|apply τa|refine τb rfl ?_|refine ⟨⟨by kernel_rfl,by kernel_rfl⟩,?_⟩|refine ⟨by decide,?_⟩|apply τt|apply τf))
    (refine aw_draw 20 ?_ ?_ ?_ ?_; (· kernel_rfl); (· kernel_rfl); (· kernel_rfl))
    (repeat((conv=>whnf);first|apply ω0|apply ω1|apply ω2|refine τ3 rfl ?_|refine τ4 rfl ?_|refine ⟨rfl,?_⟩|apply τa|refine τb rfl ?_|refine ⟨⟨by kernel_rfl,by kernel_rfl⟩,?_⟩|refine ⟨by decide,?_⟩|apply τt|apply τf))
    (conv => whnf)
    refine lit_eq hd3 ?_
    (repeat((conv=>whnf);first|apply ω0|apply ω1|apply ω2|refine τ3 rfl ?_|refine τ4 rfl ?_|refine ⟨rfl,?_⟩|apply τa|refine τb rfl ?_|refine ⟨⟨by kernel_rfl,by kernel_rfl⟩,?_⟩|refine ⟨by decide,?_⟩|apply τt|apply τf))
    exact ret_tells rfl (AVle.refl _)
  · have hi := hlt i rfl
    (repeat((conv=>whnf);first|apply ω0|apply ω1|apply ω2|refine τ3 rfl ?_|refine τ4 rfl ?_|refine ⟨rfl,?_⟩|apply τa|refine τb rfl ?_|refine ⟨⟨by kernel_rfl,by kernel_rfl⟩,?_⟩|refine ⟨by decide,?_⟩|apply τt|apply τf))
    (refine aw_draw 20 ?_ ?_ ?_ ?_; (· kernel_rfl); (· kernel_rfl); (· kernel_rfl))
    (repeat((conv=>whnf);first|apply ω0|apply ω1|apply ω2|refine τ3 rfl ?_|refine τ4 rfl ?_|refine ⟨rfl,?_⟩|apply τa|refine τb rfl ?_|refine ⟨⟨by kernel_rfl,by kernel_rfl⟩,?_⟩|refine ⟨by decide,?_⟩|apply τt|apply τf))
    (conv => whnf)
    refine lit_eq hd3 ?_
    (repeat((conv=>whnf);first|apply ω0|apply ω1|apply ω2|refine τ3 rfl ?_|refine τ4 rfl ?_|refine ⟨rfl,?_⟩|apply τa|refine τb rfl ?_|refine ⟨⟨by kernel_rfl,by kernel_rfl⟩,?_⟩|refine ⟨by decide,?_⟩|apply τt|apply τf))
    refine ⟨⟨Int.natCast_nonneg i, show (i : Int) < (l.length : Int) by omega⟩, ?_⟩
    (repeat((conv=>whnf);first|apply ω0|apply ω1|apply ω2|refine τ3 rfl ?_|refine τ4 rfl ?_|refine ⟨rfl,?_⟩|apply τa|refine τb rfl ?_|refine ⟨⟨by kernel_rfl,by kernel_rfl⟩,?_⟩|refine ⟨by decide,?_⟩|apply τt|apply τf))
    exact ret_tells rfl (AVle.refl _)
end Go.Proofs.W

namespace Go.Proofs.W
open Go.Vl
set_option maxRecDepth 100000

def ownI (a num : Nat) : Nat := if a = 1 ∧ num / 1073741824 % 2 = 1 then num - 1073741824 else num
theorem and_split {c lo d m i : Nat} (h : lo < 2 ^ i) (hm : m < 2 ^ i) : (2 ^ i * c + lo) &&& (2 ^ i * d + m) = 2 ^ i * (c &&& d) + (lo &&& m) := by
  apply Nat.eq_of_testBit_eq
  intro j
  have hlm : lo &&& m < 2 ^ i := Nat.lt_of_le_of_lt Nat.and_le_left h
  rw [Nat.testBit_and, Nat.testBit_two_pow_mul_add _ h, Nat.testBit_two_pow_mul_add _ hm, Nat.testBit_two_pow_mul_add _ hlm]
  split <;> rw [Nat.testBit_and]
theorem own_and {num : Nat} (h : num < 4294967296) : num &&& 3221225471 = ownI 1 num := by
  have hlo : num % 1073741824 < 2 ^ 30 := Nat.mod_lt _ (by decide)
  have e1 : num = 2 ^ 30 * (num / 1073741824) + num % 1073741824 := by have := Nat.div_add_mod num 1073741824; show num = 1073741824 * _ + _; omega
  have hc : num / 1073741824 < 4 := by omega
  have hs := and_split (c := num / 1073741824) (lo := num % 1073741824) (d := 2) (m := 1073741823) (i := 30) hlo (by decide)
  rw [← e1] at hs
  have e2 : (2 ^ 30 * 2 + 1073741823 : Nat) = 3221225471 := by decide
  rw [e2] at hs
  have e3 : num % 1073741824 &&& 1073741823 = num % 1073741824 := by
    have := Nat.and_two_pow_sub_one_eq_mod (num % 1073741824) 30
    rw [show (2 ^ 30 - 1 : Nat) = 1073741823 by decide] at this
    rw [this]; exact Nat.mod_eq_of_lt hlo
  rw [hs, e3]
  unfold ownI
  generalize hq : num / 1073741824 = c at hc
  generalize num % 1073741824 = lo at e1
  rw [hq] at e1
  have e4 : (2 ^ 30 : Nat) = 1073741824 := by decide
  rw [e4] at e1 ⊢
  rcases (by omega : c = 0 ∨ c = 1 ∨ c = 2 ∨ c = 3) with rfl | rfl | rfl | rfl
  · rw [if_neg (by decide), show (0 &&& 2 : Nat) = 0 by decide]; omega
  · rw [if_pos (by decide), show (1 &&& 2 : Nat) = 0 by decide]; omega
  · rw [if_neg (by decide), show (2 &&& 2 : Nat) = 2 by decide]; omega
  · rw [if_pos (by decide), show (3 &&& 2 : Nat) = 2 by decide]; omega
theorem own32 {num : Nat} (h : num < 4294967296) : bitsI .andNot .u32 (num : Int) 1073741824 = ((ownI 1 num : Nat) : Int) := by
  rw [← own_and h]
  exact bits_andNot (k := .u32) (b := 1073741824) h (by decide) (by
    have : num &&& (2 ^ IntKind.u32.bits - 1 - 1073741824) ≤ num := Nat.and_le_left
    have : num &&& (2 ^ IntKind.u32.bits - 1 - 1073741824) < 4294967296 := by omega
    simp [IntKind.wrap, IntKind.signed, IntKind.bits] at this ⊢
    omega)
theorem abiown_spec (a num : Nat) (h : num < 4294967296) : Tells Tryd.prog 44 [int a, u32 num] (u32 (ownI a num)) := by
  refine tells_of_aw Tryd.func44 rfl rfl fun nx => ?_
  (repeat((conv=>whnf);first|apply ω0|apply ω1|apply ω2|refine τ3 rfl ?_|refine τ4 rfl ?_|refine ⟨rfl,?_⟩|apply τa|refine τb rfl ?_|refine ⟨⟨by kernel_rfl,by kernel_rfl⟩,?_⟩|refine ⟨by decide,?_⟩|apply τt|apply τf))
  intro c t; cases c
  · have e : ¬ a = 1 := fun e => by subst e; simp at t
    have e2 : ownI a num = num := if_neg (fun q => e q.1)
    rw [e2]
    (repeat((conv=>whnf);first|apply ω0|apply ω1|apply ω2|refine τ3 rfl ?_|refine τ4 rfl ?_|refine ⟨rfl,?_⟩|apply τa|refine τb rfl ?_|refine ⟨⟨by kernel_rfl,by kernel_rfl⟩,?_⟩|refine ⟨by decide,?_⟩|apply τt|apply τf))
    exact ret_tells rfl (AVle.refl _)
  · have e : a = 1 := by have : (a : Int) = 1 := by simpa using t.symm
                         omega
    subst e
    (repeat((conv=>whnf);first|apply ω0|apply ω1|apply ω2|refine τ3 rfl ?_|refine τ4 rfl ?_|refine ⟨rfl,?_⟩|apply τa|refine τb rfl ?_|refine ⟨⟨by kernel_rfl,by kernel_rfl⟩,?_⟩|refine ⟨by decide,?_⟩|apply τt|apply τf))
    exact ret_tells rfl (AVle.of_eq (congrArg u32 (own32 h)))
def kindI (num : Nat) : Nat := if num = 102 then 1 else if num = 117 then 2 else 0
theorem muxkind_spec (num : Nat) : Tells Tryd.prog 39 [u32 num] (int (kindI num)) := by
  refine tells_of_aw Tryd.func39 rfl rfl fun nx => ?_
  (repeat((conv=>whnf);first|apply ω0|apply ω1|apply ω2|refine τ3 rfl ?_|refine τ4 rfl ?_|refine ⟨rfl,?_⟩|apply τa|refine τb rfl ?_|refine ⟨⟨by kernel_rfl,by kernel_rfl⟩,?_⟩|refine ⟨by decide,?_⟩|apply τt|apply τf))
  intro c t; cases c
  · have e : ¬ num = 102 := fun e => by subst e; simp at t
    (repeat((conv=>whnf);first|apply ω0|apply ω1|apply ω2|refine τ3 rfl ?_|refine τ4 rfl ?_|refine ⟨rfl,?_⟩|apply τa|refine τb rfl ?_|refine ⟨⟨by kernel_rfl,by kernel_rfl⟩,?_⟩|refine ⟨by decide,?_⟩|apply τt|apply τf))
    intro c t2; cases c
    · have e2 : ¬ num = 117 := fun e => by subst e; simp at t2
      have e3 : kindI num = 0 := by unfold kindI; rw [if_neg e, if_neg e2]
      rw [e3]
      (repeat((conv=>whnf);first|apply ω0|apply ω1|apply ω2|refine τ3 rfl ?_|refine τ4 rfl ?_|refine ⟨rfl,?_⟩|apply τa|refine τb rfl ?_|refine ⟨⟨by kernel_rfl,by kernel_rfl⟩,?_⟩|refine ⟨by decide,?_⟩|apply τt|apply τf))
      exact ret_tells rfl (AVle.refl _)
    · have e2 : num = 117 := by have : (num : Int) = 117 := by simpa using t2.symm
                                omega
      subst e2
      (repeat((conv=>whnf);first|apply ω0|apply ω1|apply ω2|refine τ3 rfl ?_|refine τ4 rfl ?_|refine ⟨rfl,?_⟩|apply τa|refine τb rfl ?_|refine ⟨⟨by kernel_rfl,by kernel_rfl⟩,?_⟩|refine ⟨by decide,?_⟩|apply τt|apply τf))
      exact ret_tells rfl (AVle.refl _)
  · have e2 : num = 102 := by have : (num : Int) = 102 := by simpa using t.symm
                              omega
    subst e2
    (repeat((conv=>whnf);first|apply ω0|apply ω1|apply ω2|refine τ3 rfl ?_|refine τ4 rfl ?_|refine ⟨rfl,?_⟩|apply τa|refine τb rfl ?_|refine ⟨⟨by kernel_rfl,by kernel_rfl⟩,?_⟩|refine ⟨by decide,?_⟩|apply τt|apply τf))
    exact ret_tells rfl (AVle.refl _)
def nameO (l : List TRow) : Option Nat → ByteArray
  | some i => (l.getD i trow0).name
  | none => ⟨#[]⟩
theorem low32i {n : Nat} : IntKind.i64.wrap (IntKind.u32.wrap (n : Int)) = ((n % 4294967296 : Nat) : Int) := by
  simp [IntKind.wrap, IntKind.signed, IntKind.bits]; omega
theorem muxed_spec (l : List TRow) (kind : Int) (r : Rec) (hl : l.length ≤ 1000000000) : Tells Tryd.prog 40 [.rp [trows l], .rp [int kind], .rp (recC r)] (strA (nameO l (l.findIdx? (subB kind ((r.a0 % 4294967296 : Nat) : Int))))) := by
  have hs := tabsub_spec l kind ((r.a0 % 4294967296 : Nat) : Int) hl
  generalize l.findIdx? (subB kind ((r.a0 % 4294967296 : Nat) : Int)) = o at hs ⊢
  refine tells_of_aw Tryd.func40 rfl rfl fun nx => ?_
  (repeat((conv=>whnf);first|apply ω0|apply ω1|apply ω2|refine τ3 rfl ?_|refine τ4 rfl ?_|refine ⟨rfl,?_⟩|apply τa|refine τb rfl ?_|refine ⟨⟨by kernel_rfl,by kernel_rfl⟩,?_⟩|refine ⟨by decide,?_⟩|apply τt|apply τf))
  refine ⟨⟨by decide, by decide, by rw [show Int.toNat 0 = 0 from rfl, Nat.zero_mul]; exact Nat.zero_le _⟩, splitO_eq (b := .rp [u64 r.a0, u64 r.a1, u64 r.a2, u64 r.a3, u64 r.a4, u64 r.a5]) (by rw [c_u64]; rfl) ?_⟩
  (repeat((conv=>whnf);first|apply ω0|apply ω1|apply ω2|refine τ3 rfl ?_|refine τ4 rfl ?_|refine ⟨rfl,?_⟩|apply τa|refine τb rfl ?_|refine ⟨⟨by kernel_rfl,by kernel_rfl⟩,?_⟩|refine ⟨by decide,?_⟩|apply τt|apply τf))
  refine aop_tells rfl rfl hs ⟨AVle.refl _, AVle.refl _, le_int low32i, trivial⟩ fun nx2 => ?_
  rcases o with _ | i
  all_goals
    (repeat((conv=>whnf);first|apply ω0|apply ω1|apply ω2|refine τ3 rfl ?_|refine τ4 rfl ?_|refine ⟨rfl,?_⟩|apply τa|refine τb rfl ?_|refine ⟨⟨by kernel_rfl,by kernel_rfl⟩,?_⟩|refine ⟨by decide,?_⟩|apply τt|apply τf))
    exact ret_tells rfl (AVle.refl _)
theorem direct_spec (l : List TRow) (a : Nat) (ha : a < 5) (r : Rec) (hr : r.ok) (hl : l.length ≤ 1000000000) : Tells Tryd.prog 42 [.rp [trows l], .rp [int a], .rp (recC r)] (strA (nameO l (l.findIdx? (nameB5 a ((ownI a r.num : Nat) : Int))))) := by
  have hs := tabname_spec l a ha ((ownI a r.num : Nat) : Int) (Int.natCast_nonneg _) hl
  have ho := abiown_spec a r.num hr.1
  generalize l.findIdx? (nameB5 a ((ownI a r.num : Nat) : Int)) = o at hs ⊢
  have hid : NoId (nameRes l o) := by
    cases o <;> exact NoId.tup (by intro y hy; simp only [List.mem_cons, List.not_mem_nil, or_false] at hy; rcases hy with rfl | rfl <;> exact NoId.v _)
  have hw : IntKind.i64.wrap ((ownI a r.num : Nat) : Int) = ((ownI a r.num : Nat) : Int) := by
    have h2 : ownI a r.num ≤ r.num := by unfold ownI; split <;> omega
    have := hr.1
    exact wrap_id (by omega) (by omega)
  refine tells_of_aw Tryd.func42 rfl rfl fun nx => ?_
  (repeat((conv=>whnf);first|apply ω0|apply ω1|apply ω2|refine τ3 rfl ?_|refine τ4 rfl ?_|refine ⟨rfl,?_⟩|apply τa|refine τb rfl ?_|refine ⟨⟨by kernel_rfl,by kernel_rfl⟩,?_⟩|refine ⟨by decide,?_⟩|apply τt|apply τf))
  refine aw_mixN 12 _ (fun _ => false) (fun i => match i with | 5 => true | 7 => true | _ => false) [0, 1, 2, 3, 4, 5, 6, 7, 8, 9, 10, 11] (by kernel_rfl) (by kernel_rfl) (HB.refl _) ?_
  (repeat((conv=>whnf);first|apply ω0|apply ω1|apply ω2|refine τ3 rfl ?_|refine τ4 rfl ?_|refine ⟨rfl,?_⟩|apply τa|refine τb rfl ?_|refine ⟨⟨by kernel_rfl,by kernel_rfl⟩,?_⟩|refine ⟨by decide,?_⟩|apply τt|apply τf))
  refine ⟨_, pure_tells rfl rfl rfl ho ⟨AVle.refl _, AVle.refl _, trivial⟩ (NoId.v _), ?_⟩
  (repeat((conv=>whnf);first|apply ω0|apply ω1|apply ω2|refine τ3 rfl ?_|refine τ4 rfl ?_|refine ⟨rfl,?_⟩|apply τa|refine τb rfl ?_|refine ⟨⟨by kernel_rfl,by kernel_rfl⟩,?_⟩|refine ⟨by decide,?_⟩|apply τt|apply τf))
  refine ⟨_, pure_tells rfl rfl rfl hs ⟨AVle.refl _, AVle.refl _, le_int hw, trivial⟩ hid, ?_⟩
  rcases o with _ | i
  all_goals
    (repeat((conv=>whnf);first|apply ω0|apply ω1|apply ω2|refine τ3 rfl ?_|refine τ4 rfl ?_|refine ⟨rfl,?_⟩|apply τa|refine τb rfl ?_|refine ⟨⟨by kernel_rfl,by kernel_rfl⟩,?_⟩|refine ⟨by decide,?_⟩|apply τt|apply τf))
    exact ret_tells rfl (AVle.refl _)
end Go.Proofs.W

namespace Go.Proofs.W
open Go.Vl
set_option maxRecDepth 100000

structure CallR where
  some : Bool
  abi : Int
  name : ByteArray
  muxed : Bool
def callC (c : CallR) : List AV := [boolA c.some, int c.abi, strA c.name, boolA c.muxed]
def callA (c : CallR) : AV := .ag (callC c)
def call0 : CallR := ⟨false, 0, ⟨#[]⟩, false⟩
def selO (arch num : Nat) : Option Nat := (infN.find? (selB arch (withB num))).map (·.1)
theorem selA_eq (arch num : Nat) : selA arch num = match selO arch num with
    | some a => .tup [int a, boolA true]
    | none => .tup [int 0, boolA false] := by
  unfold selA selO
  cases infN.find? (selB arch (withB num)) <;> rfl
theorem selO_lt {arch num a : Nat} (h : selO arch num = some a) : a < 5 := by
  unfold selO at h
  obtain ⟨x, hx, rfl⟩ := Option.map_eq_some_iff.1 h
  have := List.mem_of_find?_eq_some hx
  simp only [infN, List.mem_cons, List.not_mem_nil, or_false] at this
  rcases this with rfl | rfl | rfl | rfl | rfl <;> decide
def kindO (a num : Nat) : Nat := if a = 2 then kindI num else 0
/-- Which call a record is. -/
def ofI (l : List TRow) (r : Rec) : CallR := match selO r.arch r.num with
  | none => call0
  | some a => if 0 < kindO a r.num then ⟨true, a, nameO l (l.findIdx? (subB (kindO a r.num) ((r.a0 % 4294967296 : Nat) : Int))), true⟩
    else ⟨true, a, nameO l (l.findIdx? (nameB5 a ((ownI a r.num : Nat) : Int))), false⟩
theorem int2 {a : Nat} : ((a : Int) == 2) = decide (a = 2) := by
  rw [Bool.eq_iff_iff]; simp; omega
set_option maxHeartbeats 4000000 in
theorem muxof_spec (l : List TRow) (r : Rec) (hr : r.ok) (hl : l.length ≤ 1000000000) : Tells Tryd.prog 23 [trows l, recA r] (callA (ofI l r)) := by
  have hs := select_spec r.arch r.num hr.2.1 hr.1
  rw [selA_eq] at hs
  unfold ofI
  cases hso : selO r.arch r.num with
  | none =>
    rw [hso] at hs
    refine tells_of_aw Tryd.func23 rfl rfl fun nx => ?_
    (repeat((conv=>whnf);first|apply ω0|apply ω1|apply ω2|refine τ3 rfl ?_|refine τ4 rfl ?_|refine ⟨rfl,?_⟩|apply τa|refine τb rfl ?_|refine ⟨⟨by kernel_rfl,by kernel_rfl⟩,?_⟩|refine ⟨by decide,?_⟩|apply τt|apply τf))
    refine aop_tells rfl rfl hs ⟨AVle.refl _, AVle.refl _, trivial⟩ fun nx2 => ?_
    (repeat((conv=>whnf);first|apply ω0|apply ω1|apply ω2|refine τ3 rfl ?_|refine τ4 rfl ?_|refine ⟨rfl,?_⟩|apply τa|refine τb rfl ?_|refine ⟨⟨by kernel_rfl,by kernel_rfl⟩,?_⟩|refine ⟨by decide,?_⟩|apply τt|apply τf))
    exact ret_tells_all rfl ⟨rfl, trivial⟩ (AVle.refl _)
  | some a =>
    rw [hso] at hs
    dsimp only at hs ⊢
    have ha := selO_lt hso
    have hk := muxkind_spec r.num
    have hm := fun k => muxed_spec l k r hl
    have hd := direct_spec l a ha r hr hl
    by_cases e : a = 2
    · have ek : kindO a r.num = kindI r.num := if_pos e
      rw [ek]
      have hm := hm (kindI r.num)
      generalize kindI r.num = k at hk hm ⊢
      by_cases hk0 : 0 < k
      · rw [if_pos hk0]
        have hd0 : decide ((k : Int) > 0) = true := decide_eq_true (by omega)
        refine tells_of_aw Tryd.func23 rfl rfl fun nx => ?_
        (repeat((conv=>whnf);first|apply ω0|apply ω1|apply ω2|refine τ3 rfl ?_|refine τ4 rfl ?_|refine ⟨rfl,?_⟩|apply τa|refine τb rfl ?_|refine ⟨⟨by kernel_rfl,by kernel_rfl⟩,?_⟩|refine ⟨by decide,?_⟩|apply τt|apply τf))
        refine aop_tells rfl rfl hs ⟨AVle.refl _, AVle.refl _, trivial⟩ fun nx2 => ?_
        (repeat((conv=>whnf);first|apply ω0|apply ω1|apply ω2|refine τ3 rfl ?_|refine τ4 rfl ?_|refine ⟨rfl,?_⟩|apply τa|refine τb rfl ?_|refine ⟨⟨by kernel_rfl,by kernel_rfl⟩,?_⟩|refine ⟨by decide,?_⟩|apply τt|apply τf))
        intro c hc
        have hc2 : c = decide (a = 2) := hc.trans int2
        clear hc
        have hc3 : c = true := hc2.trans (decide_eq_true e)
        clear hc2; subst hc3
        (repeat((conv=>whnf);first|apply ω0|apply ω2|refine τ3 rfl ?_|refine τ4 rfl ?_|refine ⟨rfl,?_⟩|apply τa|refine τb rfl ?_|refine ⟨⟨by kernel_rfl,by kernel_rfl⟩,?_⟩|refine ⟨by decide,?_⟩|apply τt|apply τf))
        refine aw_region ?_
        (repeat((conv=>whnf);first|apply ω0|apply ω2|refine τ3 rfl ?_|refine τ4 rfl ?_|refine ⟨rfl,?_⟩|apply τa|refine τb rfl ?_|refine ⟨⟨by kernel_rfl,by kernel_rfl⟩,?_⟩|refine ⟨by decide,?_⟩|apply τt|apply τf))
        refine aop_tells rfl rfl hk ⟨AVle.refl _, trivial⟩ fun nx3 => ?_
        (repeat((conv=>whnf);first|apply ω0|apply ω2|refine τ3 rfl ?_|refine τ4 rfl ?_|refine ⟨rfl,?_⟩|apply τa|refine τb rfl ?_|refine ⟨⟨by kernel_rfl,by kernel_rfl⟩,?_⟩|refine ⟨by decide,?_⟩|apply τt|apply τf))
        refine aw_freeze (n := 41) (nx := nx3) (nn := 6) (pm := []) (bx := [((4, nx2 + 1), .c (callC ⟨true, a, ⟨#[]⟩, false⟩)), ((2, nx + 2), .c (callC call0))]) (L := [(2, .rp [trows l]), (3, .rp (recC r)), (4, .bp (2, nx + 2) 0), (5, .rp [int a]), (7, .bp (4, nx2 + 1) 0), (8, .rp [int k])]) (df := some []) [((5, nx2 + 2), .c [int k]), ((3, nx2), .c [int a]), ((1, nx + 1), .c (recC r)), ((0, nx), .c [trows l])] rfl rfl rfl (.cons _ ((List.Perm.swap _ _ _).trans (.cons _ (List.perm_append_comm (l₁ := [_, _]) (l₂ := [_, _]))))) (List.Sublist.refl _) ⟨Frz.bp (.tail _ (.tail _ (.tail _ (.head _)))) rfl, Frz.bp (.tail _ (.tail _ (.head _))) rfl, Frz.refl _, Frz.bp (.tail _ (.head _)) rfl, Frz.refl _, Frz.bp (.head _) rfl, trivial⟩ ?_
        (repeat((conv=>whnf);first|apply ω0|apply ω1|apply ω2|refine τ3 rfl ?_|refine τ4 rfl ?_|refine ⟨rfl,?_⟩|apply τa|refine τb rfl ?_|refine ⟨⟨by kernel_rfl,by kernel_rfl⟩,?_⟩|refine ⟨by decide,?_⟩|apply τt|apply τf))
        (conv => whnf)
        refine lit_eq hd0 ?_
        (repeat((conv=>whnf);first|apply ω0|apply ω1|apply ω2|refine τ3 rfl ?_|refine τ4 rfl ?_|refine ⟨rfl,?_⟩|apply τa|refine τb rfl ?_|refine ⟨⟨by kernel_rfl,by kernel_rfl⟩,?_⟩|refine ⟨by decide,?_⟩|apply τt|apply τf))
        refine aop_tells rfl rfl hm ⟨AVle.refl _, AVle.refl _, AVle.refl _, trivial⟩ fun nx4 => ?_
        (repeat((conv=>whnf);first|apply ω0|apply ω1|apply ω2|refine τ3 rfl ?_|refine τ4 rfl ?_|refine ⟨rfl,?_⟩|apply τa|refine τb rfl ?_|refine ⟨⟨by kernel_rfl,by kernel_rfl⟩,?_⟩|refine ⟨by decide,?_⟩|apply τt|apply τf))
        exact ret_tells_all rfl ⟨rfl, trivial⟩ (AVle.refl _)
      · obtain rfl : k = 0 := by omega
        rw [if_neg hk0]
        refine tells_of_aw Tryd.func23 rfl rfl fun nx => ?_
        (repeat((conv=>whnf);first|apply ω0|apply ω1|apply ω2|refine τ3 rfl ?_|refine τ4 rfl ?_|refine ⟨rfl,?_⟩|apply τa|refine τb rfl ?_|refine ⟨⟨by kernel_rfl,by kernel_rfl⟩,?_⟩|refine ⟨by decide,?_⟩|apply τt|apply τf))
        refine aop_tells rfl rfl hs ⟨AVle.refl _, AVle.refl _, trivial⟩ fun nx2 => ?_
        (repeat((conv=>whnf);first|apply ω0|apply ω1|apply ω2|refine τ3 rfl ?_|refine τ4 rfl ?_|refine ⟨rfl,?_⟩|apply τa|refine τb rfl ?_|refine ⟨⟨by kernel_rfl,by kernel_rfl⟩,?_⟩|refine ⟨by decide,?_⟩|apply τt|apply τf))
        intro c hc
        have hc2 : c = decide (a = 2) := hc.trans int2
        clear hc
        have hc3 : c = true := hc2.trans (decide_eq_true e)
        clear hc2; subst hc3
        (repeat((conv=>whnf);first|apply ω0|apply ω2|refine τ3 rfl ?_|refine τ4 rfl ?_|refine ⟨rfl,?_⟩|apply τa|refine τb rfl ?_|refine ⟨⟨by kernel_rfl,by kernel_rfl⟩,?_⟩|refine ⟨by decide,?_⟩|apply τt|apply τf))
        refine aw_region ?_
        (repeat((conv=>whnf);first|apply ω0|apply ω2|refine τ3 rfl ?_|refine τ4 rfl ?_|refine ⟨rfl,?_⟩|apply τa|refine τb rfl ?_|refine ⟨⟨by kernel_rfl,by kernel_rfl⟩,?_⟩|refine ⟨by decide,?_⟩|apply τt|apply τf))
        refine aop_tells rfl rfl hk ⟨AVle.refl _, trivial⟩ fun nx3 => ?_
        (repeat((conv=>whnf);first|apply ω0|apply ω2|refine τ3 rfl ?_|refine τ4 rfl ?_|refine ⟨rfl,?_⟩|apply τa|refine τb rfl ?_|refine ⟨⟨by kernel_rfl,by kernel_rfl⟩,?_⟩|refine ⟨by decide,?_⟩|apply τt|apply τf))
        refine aw_freeze (n := 41) (nx := nx3) (nn := 6) (pm := []) (bx := [((4, nx2 + 1), .c (callC ⟨true, a, ⟨#[]⟩, false⟩)), ((2, nx + 2), .c (callC call0))]) (L := [(2, .rp [trows l]), (3, .rp (recC r)), (4, .bp (2, nx + 2) 0), (5, .rp [int a]), (7, .bp (4, nx2 + 1) 0), (8, .rp [int ((0 : Nat) : Int)])]) (df := some []) [((5, nx2 + 2), .c [int ((0 : Nat) : Int)]), ((3, nx2), .c [int a]), ((1, nx + 1), .c (recC r)), ((0, nx), .c [trows l])] rfl rfl rfl (.cons _ ((List.Perm.swap _ _ _).trans (.cons _ (List.perm_append_comm (l₁ := [_, _]) (l₂ := [_, _]))))) (List.Sublist.refl _) ⟨Frz.bp (.tail _ (.tail _ (.tail _ (.head _)))) rfl, Frz.bp (.tail _ (.tail _ (.head _))) rfl, Frz.refl _, Frz.bp (.tail _ (.head _)) rfl, Frz.refl _, Frz.bp (.head _) rfl, trivial⟩ ?_
        (repeat((conv=>whnf);first|apply ω0|apply ω1|apply ω2|refine τ3 rfl ?_|refine τ4 rfl ?_|refine ⟨rfl,?_⟩|apply τa|refine τb rfl ?_|refine ⟨⟨by kernel_rfl,by kernel_rfl⟩,?_⟩|refine ⟨by decide,?_⟩|apply τt|apply τf))
        refine aop_tells rfl rfl hd ⟨AVle.refl _, AVle.refl _, AVle.refl _, trivial⟩ fun nx4 => ?_
        (repeat((conv=>whnf);first|apply ω0|apply ω1|apply ω2|refine τ3 rfl ?_|refine τ4 rfl ?_|refine ⟨rfl,?_⟩|apply τa|refine τb rfl ?_|refine ⟨⟨by kernel_rfl,by kernel_rfl⟩,?_⟩|refine ⟨by decide,?_⟩|apply τt|apply τf))
        exact ret_tells_all rfl ⟨rfl, trivial⟩ (AVle.refl _)
    · have ek : kindO a r.num = 0 := if_neg e
      rw [ek, if_neg (by decide)]
      refine tells_of_aw Tryd.func23 rfl rfl fun nx => ?_
      (repeat((conv=>whnf);first|apply ω0|apply ω1|apply ω2|refine τ3 rfl ?_|refine τ4 rfl ?_|refine ⟨rfl,?_⟩|apply τa|refine τb rfl ?_|refine ⟨⟨by kernel_rfl,by kernel_rfl⟩,?_⟩|refine ⟨by decide,?_⟩|apply τt|apply τf))
      refine aop_tells rfl rfl hs ⟨AVle.refl _, AVle.refl _, trivial⟩ fun nx2 => ?_
      (repeat((conv=>whnf);first|apply ω0|apply ω1|apply ω2|refine τ3 rfl ?_|refine τ4 rfl ?_|refine ⟨rfl,?_⟩|apply τa|refine τb rfl ?_|refine ⟨⟨by kernel_rfl,by kernel_rfl⟩,?_⟩|refine ⟨by decide,?_⟩|apply τt|apply τf))
      intro c hc
      have hc2 : c = decide (a = 2) := hc.trans int2
      clear hc
      have hc3 : c = false := hc2.trans (decide_eq_false e)
      clear hc2; subst hc3
      (repeat((conv=>whnf);first|apply ω0|apply ω2|refine τ3 rfl ?_|refine τ4 rfl ?_|refine ⟨rfl,?_⟩|apply τa|refine τb rfl ?_|refine ⟨⟨by kernel_rfl,by kernel_rfl⟩,?_⟩|refine ⟨by decide,?_⟩|apply τt|apply τf))
      refine aw_freeze (n := 41) (nx := nx2 + 3) (nn := 6) (pm := []) (bx := [((4, nx2 + 1), .c (callC ⟨true, a, ⟨#[]⟩, false⟩)), ((2, nx + 2), .c (callC call0))]) (L := [(2, .rp [trows l]), (3, .rp (recC r)), (4, .bp (2, nx + 2) 0), (5, .rp [int a]), (7, .bp (4, nx2 + 1) 0), (8, .rp [int 0])]) (df := some []) [((5, nx2 + 2), .c [int 0]), ((3, nx2), .c [int a]), ((1, nx + 1), .c (recC r)), ((0, nx), .c [trows l])] rfl rfl rfl (.cons _ ((List.Perm.swap _ _ _).trans (.cons _ (List.perm_append_comm (l₁ := [_, _]) (l₂ := [_, _]))))) (List.Sublist.refl _) ⟨Frz.bp (.tail _ (.tail _ (.tail _ (.head _)))) rfl, Frz.bp (.tail _ (.tail _ (.head _))) rfl, Frz.refl _, Frz.bp (.tail _ (.head _)) rfl, Frz.refl _, Frz.bp (.head _) rfl, trivial⟩ ?_
      (repeat((conv=>whnf);first|apply ω0|apply ω1|apply ω2|refine τ3 rfl ?_|refine τ4 rfl ?_|refine ⟨rfl,?_⟩|apply τa|refine τb rfl ?_|refine ⟨⟨by kernel_rfl,by kernel_rfl⟩,?_⟩|refine ⟨by decide,?_⟩|apply τt|apply τf))
      refine aop_tells rfl rfl hd ⟨AVle.refl _, AVle.refl _, AVle.refl _, trivial⟩ fun nx4 => ?_
      (repeat((conv=>whnf);first|apply ω0|apply ω1|apply ω2|refine τ3 rfl ?_|refine τ4 rfl ?_|refine ⟨rfl,?_⟩|apply τa|refine τb rfl ?_|refine ⟨⟨by kernel_rfl,by kernel_rfl⟩,?_⟩|refine ⟨by decide,?_⟩|apply τt|apply τf))
      exact ret_tells_all rfl ⟨rfl, trivial⟩ (AVle.refl _)
end Go.Proofs.W

namespace Go.Proofs.W
open Go.Vl
set_option maxRecDepth 100000

theorem c_bool' : Tryd.prog.cellsOf 4 = 1 := by kernel_rfl
theorem splitV_to {a b : AV} {K : AV → Prop} (h : a = b) (hk : splitV b K) : splitV a K := h ▸ hk
/-- What was seen of a name. -/
def seenC (m : Nat) (a : Nat → Nat) (b : Nat → Bool) : List AV := [int m, u64 (a 0 : Nat), u64 (a 1 : Nat), u64 (a 2 : Nat), u64 (a 3 : Nat), u64 (a 4 : Nat), u64 (a 5 : Nat), boolA (b 0), boolA (b 1), boolA (b 2), boolA (b 3), boolA (b 4), boolA (b 5)]
def noteA (m : Nat) (a x : Nat → Nat) (k : Nat) : Nat := if m = 0 then x k else a k
def noteB (m : Nat) (a : Nat → Nat) (b : Nat → Bool) (x : Nat → Nat) (k : Nat) : Bool := if m = 0 then true else b k && decide (a k = x k)
def upK {α : Type} (k : Nat) (f g : Nat → α) (j : Nat) : α := bif Nat.blt j k then f j else g j
set_option maxHeartbeats 4000000 in
theorem note0_spec (st nx : Nat) (a : Nat → Nat) (b : Nat → Bool) (x : Nat → Nat) :
    ECall Tryd.prog 24 [.bp (50, st) 0, arrA x] ⟨[((50, st), .c (seenC 0 a b))], [], nx, 0⟩ fun _ h' => ∃ nx' nn', h' = ⟨[((50, st), .c (seenC 1 x (fun _ => true)))], [], nx', nn'⟩ := by
  refine ECall.wk (ecall_of_aw Tryd.func24 rfl rfl ?_)
  (repeat((conv=>whnf);first|apply ω0|apply ω1|apply ω2|refine τ3 rfl ?_|refine τ4 rfl ?_|refine ⟨rfl,?_⟩|apply τa|refine τb rfl ?_|refine ⟨⟨by kernel_rfl,by kernel_rfl⟩,?_⟩|refine ⟨by decide,?_⟩|apply τt|apply τf))
  refine aw_loop (fun y : Nat × Nat => mk 56 [(0, .bp (50, st) 0), (6, arrA x), (7, int y.1)] ⟨[((50, st), .c (seenC 0 (upK y.1 x a) (upK y.1 (fun _ => true) b)))], [], y.2, 1⟩) (fun y => y.1 ≤ 6) (fun y => 6 - y.1) ?_ ?_
  · exact ⟨(0, nx + 1), Nat.zero_le _, ele_tell _ _ rfl rfl (.cons _ (List.Sublist.refl _)) (List.Sublist.refl _) (BxLe.refl _) trivial ⟨AVle.refl _, AVle.refl _, AVle.refl _, trivial⟩⟩
  · rintro ⟨k, nx1⟩ hk
    dsimp only at hk
    rcases k with _ | _ | _ | _ | _ | _ | _ | k
    · (repeat((conv=>whnf);first|apply ω0|apply ω1|apply ω2|refine τ3 rfl ?_|refine τ4 rfl ?_|refine ⟨rfl,?_⟩|apply τa|refine τb rfl ?_|refine ⟨⟨by kernel_rfl,by kernel_rfl⟩,?_⟩|refine ⟨by decide,?_⟩|apply τt|apply τf))
      refine aw_mixN 12 [] (fun i => match i with | 8 => true | _ => false) (fun _ => false) [0, 1, 2, 3, 4, 5, 6, 7, 9, 10, 8, 11] (by kernel_rfl) (by kernel_rfl) (fun _ _ _ h => by cases h) ?_
      (repeat((conv=>whnf);first|apply ω0|apply ω1|apply ω2|refine τ3 rfl ?_|refine τ4 rfl ?_|refine ⟨rfl,?_⟩|apply τa|refine τb rfl ?_|refine ⟨⟨by kernel_rfl,by kernel_rfl⟩,?_⟩|refine ⟨by decide,?_⟩|apply τt|apply τf))
      refine ⟨⟨Int.natCast_nonneg _, show ((0 : Nat) : Int) < 6 by decide⟩, splitV_to (b := .bp (50, st) 1) (congrArg (AV.bp (50, st)) (by rw [c_u64]; rfl)) ?_⟩
      (repeat((conv=>whnf);first|apply ω0|apply ω1|apply ω2|refine τ3 rfl ?_|refine τ4 rfl ?_|refine ⟨rfl,?_⟩|apply τa|refine τb rfl ?_|refine ⟨⟨by kernel_rfl,by kernel_rfl⟩,?_⟩|refine ⟨by decide,?_⟩|apply τt|apply τf))
      refine ⟨_, eff_store (i := (50, st)) (off := 1) (cs := seenC 0 (upK 0 x a) (upK 0 (fun _ => true) b)) rfl rfl rfl rfl rfl rfl rfl (by kernel_rfl) (by kernel_rfl) (by show 1 + 1 ≤ 13; omega) (fun _ _ _ h => by cases h), fun r h' hr => ?_⟩
      obtain rfl := hr
      (repeat((conv=>whnf);first|apply ω0|apply ω1|apply ω2|refine τ3 rfl ?_|refine τ4 rfl ?_|refine ⟨rfl,?_⟩|apply τa|refine τb rfl ?_|refine ⟨⟨by kernel_rfl,by kernel_rfl⟩,?_⟩|refine ⟨by decide,?_⟩|apply τt|apply τf))
      refine ⟨⟨Int.natCast_nonneg _, show ((0 : Nat) : Int) < 6 by decide⟩, splitV_to (b := .bp (50, st) 7) (congrArg (AV.bp (50, st)) (by rw [c_bool']; rfl)) ?_⟩
      (repeat((conv=>whnf);first|apply ω0|apply ω1|apply ω2|refine τ3 rfl ?_|refine τ4 rfl ?_|refine ⟨rfl,?_⟩|apply τa|refine τb rfl ?_|refine ⟨⟨by kernel_rfl,by kernel_rfl⟩,?_⟩|refine ⟨by decide,?_⟩|apply τt|apply τf))
      (refine aw_draw 21 ?_ ?_ ?_ ?_; (· kernel_rfl); (· kernel_rfl); (· kernel_rfl))
      (repeat((conv=>whnf);first|apply ω0|apply ω1|apply ω2|refine τ3 rfl ?_|refine τ4 rfl ?_|refine ⟨rfl,?_⟩|apply τa|refine τb rfl ?_|refine ⟨⟨by kernel_rfl,by kernel_rfl⟩,?_⟩|refine ⟨by decide,?_⟩|apply τt|apply τf))
      refine ⟨⟨Int.natCast_nonneg _, show ((0 : Nat) : Int) < 6 by decide⟩, splitO_eq (b := .bp (50, st) 7) (congrArg (AV.bp (50, st)) (by rw [c_bool']; rfl)) ?_⟩
      (repeat((conv=>whnf);first|apply ω0|apply ω1|apply ω2|refine τ3 rfl ?_|refine τ4 rfl ?_|refine ⟨rfl,?_⟩|apply τa|refine τb rfl ?_|refine ⟨⟨by kernel_rfl,by kernel_rfl⟩,?_⟩|refine ⟨by decide,?_⟩|apply τt|apply τf))
      refine ⟨⟨Int.natCast_nonneg _, show ((0 : Nat) : Int) < 6 by decide⟩, splitO_eq (b := .bp (50, st) 1) (congrArg (AV.bp (50, st)) (by rw [c_u64]; rfl)) ?_⟩
      (repeat((conv=>whnf);first|apply ω0|apply ω1|apply ω2|refine τ3 rfl ?_|refine τ4 rfl ?_|refine ⟨rfl,?_⟩|apply τa|refine τb rfl ?_|refine ⟨⟨by kernel_rfl,by kernel_rfl⟩,?_⟩|refine ⟨by decide,?_⟩|apply τt|apply τf))
      (conv => whnf)
      refine lit_eq (beq_self_eq_true _) ?_
      (repeat((conv=>whnf);first|apply ω0|apply ω1|apply ω2|refine τ3 rfl ?_|refine τ4 rfl ?_|refine ⟨rfl,?_⟩|apply τa|refine τb rfl ?_|refine ⟨⟨by kernel_rfl,by kernel_rfl⟩,?_⟩|refine ⟨by decide,?_⟩|apply τt|apply τf))
      refine ⟨⟨Int.natCast_nonneg _, show ((0 : Nat) : Int) < 6 by decide⟩, splitO_eq (b := .bp (50, st) 7) (congrArg (AV.bp (50, st)) (by rw [c_bool']; rfl)) ?_⟩
      (repeat((conv=>whnf);first|apply ω0|apply ω1|apply ω2|refine τ3 rfl ?_|refine τ4 rfl ?_|refine ⟨rfl,?_⟩|apply τa|refine τb rfl ?_|refine ⟨⟨by kernel_rfl,by kernel_rfl⟩,?_⟩|refine ⟨by decide,?_⟩|apply τt|apply τf))
      exact back (0 + 1, nx1) (show 0 + 1 ≤ 6 by decide) (by dsimp only; omega) (ele_tell (bx := [((50, st), .c (seenC 0 (upK (0 + 1) x a) (upK (0 + 1) (fun _ => true) b)))]) (pm := []) _ [] rfl rfl (List.Sublist.refl _) (List.Sublist.refl _) (BxLe.refl _) trivial ⟨AVle.refl _, AVle.refl _, AVle.refl _, trivial⟩)
    · (repeat((conv=>whnf);first|apply ω0|apply ω1|apply ω2|refine τ3 rfl ?_|refine τ4 rfl ?_|refine ⟨rfl,?_⟩|apply τa|refine τb rfl ?_|refine ⟨⟨by kernel_rfl,by kernel_rfl⟩,?_⟩|refine ⟨by decide,?_⟩|apply τt|apply τf))
      refine aw_mixN 12 [] (fun i => match i with | 8 => true | _ => false) (fun _ => false) [0, 1, 2, 3, 4, 5, 6, 7, 9, 10, 8, 11] (by kernel_rfl) (by kernel_rfl) (fun _ _ _ h => by cases h) ?_
      (repeat((conv=>whnf);first|apply ω0|apply ω1|apply ω2|refine τ3 rfl ?_|refine τ4 rfl ?_|refine ⟨rfl,?_⟩|apply τa|refine τb rfl ?_|refine ⟨⟨by kernel_rfl,by kernel_rfl⟩,?_⟩|refine ⟨by decide,?_⟩|apply τt|apply τf))
      refine ⟨⟨Int.natCast_nonneg _, show ((1 : Nat) : Int) < 6 by decide⟩, splitV_to (b := .bp (50, st) 2) (congrArg (AV.bp (50, st)) (by rw [c_u64]; rfl)) ?_⟩
      (repeat((conv=>whnf);first|apply ω0|apply ω1|apply ω2|refine τ3 rfl ?_|refine τ4 rfl ?_|refine ⟨rfl,?_⟩|apply τa|refine τb rfl ?_|refine ⟨⟨by kernel_rfl,by kernel_rfl⟩,?_⟩|refine ⟨by decide,?_⟩|apply τt|apply τf))
      refine ⟨_, eff_store (i := (50, st)) (off := 2) (cs := seenC 0 (upK 1 x a) (upK 1 (fun _ => true) b)) rfl rfl rfl rfl rfl rfl rfl (by kernel_rfl) (by kernel_rfl) (by show 2 + 1 ≤ 13; omega) (fun _ _ _ h => by cases h), fun r h' hr => ?_⟩
      obtain rfl := hr
      (repeat((conv=>whnf);first|apply ω0|apply ω1|apply ω2|refine τ3 rfl ?_|refine τ4 rfl ?_|refine ⟨rfl,?_⟩|apply τa|refine τb rfl ?_|refine ⟨⟨by kernel_rfl,by kernel_rfl⟩,?_⟩|refine ⟨by decide,?_⟩|apply τt|apply τf))
      refine ⟨⟨Int.natCast_nonneg _, show ((1 : Nat) : Int) < 6 by decide⟩, splitV_to (b := .bp (50, st) 8) (congrArg (AV.bp (50, st)) (by rw [c_bool']; rfl)) ?_⟩
      (repeat((conv=>whnf);first|apply ω0|apply ω1|apply ω2|refine τ3 rfl ?_|refine τ4 rfl ?_|refine ⟨rfl,?_⟩|apply τa|refine τb rfl ?_|refine ⟨⟨by kernel_rfl,by kernel_rfl⟩,?_⟩|refine ⟨by decide,?_⟩|apply τt|apply τf))
      (refine aw_draw 21 ?_ ?_ ?_ ?_; (· kernel_rfl); (· kernel_rfl); (· kernel_rfl))
      (repeat((conv=>whnf);first|apply ω0|apply ω1|apply ω2|refine τ3 rfl ?_|refine τ4 rfl ?_|refine ⟨rfl,?_⟩|apply τa|refine τb rfl ?_|refine ⟨⟨by kernel_rfl,by kernel_rfl⟩,?_⟩|refine ⟨by decide,?_⟩|apply τt|apply τf))
      refine ⟨⟨Int.natCast_nonneg _, show ((1 : Nat) : Int) < 6 by decide⟩, splitO_eq (b := .bp (50, st) 8) (congrArg (AV.bp (50, st)) (by rw [c_bool']; rfl)) ?_⟩
      (repeat((conv=>whnf);first|apply ω0|apply ω1|apply ω2|refine τ3 rfl ?_|refine τ4 rfl ?_|refine ⟨rfl,?_⟩|apply τa|refine τb rfl ?_|refine ⟨⟨by kernel_rfl,by kernel_rfl⟩,?_⟩|refine ⟨by decide,?_⟩|apply τt|apply τf))
      refine ⟨⟨Int.natCast_nonneg _, show ((1 : Nat) : Int) < 6 by decide⟩, splitO_eq (b := .bp (50, st) 2) (congrArg (AV.bp (50, st)) (by rw [c_u64]; rfl)) ?_⟩
      (repeat((conv=>whnf);first|apply ω0|apply ω1|apply ω2|refine τ3 rfl ?_|refine τ4 rfl ?_|refine ⟨rfl,?_⟩|apply τa|refine τb rfl ?_|refine ⟨⟨by kernel_rfl,by kernel_rfl⟩,?_⟩|refine ⟨by decide,?_⟩|apply τt|apply τf))
      (conv => whnf)
      refine lit_eq (beq_self_eq_true _) ?_
      (repeat((conv=>whnf);first|apply ω0|apply ω1|apply ω2|refine τ3 rfl ?_|refine τ4 rfl ?_|refine ⟨rfl,?_⟩|apply τa|refine τb rfl ?_|refine ⟨⟨by kernel_rfl,by kernel_rfl⟩,?_⟩|refine ⟨by decide,?_⟩|apply τt|apply τf))
      refine ⟨⟨Int.natCast_nonneg _, show ((1 : Nat) : Int) < 6 by decide⟩, splitO_eq (b := .bp (50, st) 8) (congrArg (AV.bp (50, st)) (by rw [c_bool']; rfl)) ?_⟩
      (repeat((conv=>whnf);first|apply ω0|apply ω1|apply ω2|refine τ3 rfl ?_|refine τ4 rfl ?_|refine ⟨rfl,?_⟩|apply τa|refine τb rfl ?_|refine ⟨⟨by kernel_rfl,by kernel_rfl⟩,?_⟩|refine ⟨by decide,?_⟩|apply τt|apply τf))
      exact back (1 + 1, nx1) (show 1 + 1 ≤ 6 by decide) (by dsimp only; omega) (ele_tell (bx := [((50, st), .c (seenC 0 (upK (1 + 1) x a) (upK (1 + 1) (fun _ => true) b)))]) (pm := []) _ [] rfl rfl (List.Sublist.refl _) (List.Sublist.refl _) (BxLe.refl _) trivial ⟨AVle.refl _, AVle.refl _, AVle.refl _, trivial⟩)
    · (repeat((conv=>whnf);first|apply ω0|apply ω1|apply ω2|refine τ3 rfl ?_|refine τ4 rfl ?_|refine ⟨rfl,?_⟩|apply τa|refine τb rfl ?_|refine ⟨⟨by kernel_rfl,by kernel_rfl⟩,?_⟩|refine ⟨by decide,?_⟩|apply τt|apply τf))
      refine aw_mixN 12 [] (fun i => match i with | 8 => true | _ => false) (fun _ => false) [0, 1, 2, 3, 4, 5, 6, 7, 9, 10, 8, 11] (by kernel_rfl) (by kernel_rfl) (fun _ _ _ h => by cases h) ?_
      (repeat((conv=>whnf);first|apply ω0|apply ω1|apply ω2|refine τ3 rfl ?_|refine τ4 rfl ?_|refine ⟨rfl,?_⟩|apply τa|refine τb rfl ?_|refine ⟨⟨by kernel_rfl,by kernel_rfl⟩,?_⟩|refine ⟨by decide,?_⟩|apply τt|apply τf))
      refine ⟨⟨Int.natCast_nonneg _, show ((2 : Nat) : Int) < 6 by decide⟩, splitV_to (b := .bp (50, st) 3) (congrArg (AV.bp (50, st)) (by rw [c_u64]; rfl)) ?_⟩
      (repeat((conv=>whnf);first|apply ω0|apply ω1|apply ω2|refine τ3 rfl ?_|refine τ4 rfl ?_|refine ⟨rfl,?_⟩|apply τa|refine τb rfl ?_|refine ⟨⟨by kernel_rfl,by kernel_rfl⟩,?_⟩|refine ⟨by decide,?_⟩|apply τt|apply τf))
      refine ⟨_, eff_store (i := (50, st)) (off := 3) (cs := seenC 0 (upK 2 x a) (upK 2 (fun _ => true) b)) rfl rfl rfl rfl rfl rfl rfl (by kernel_rfl) (by kernel_rfl) (by show 3 + 1 ≤ 13; omega) (fun _ _ _ h => by cases h), fun r h' hr => ?_⟩
      obtain rfl := hr
      (repeat((conv=>whnf);first|apply ω0|apply ω1|apply ω2|refine τ3 rfl ?_|refine τ4 rfl ?_|refine ⟨rfl,?_⟩|apply τa|refine τb rfl ?_|refine ⟨⟨by kernel_rfl,by kernel_rfl⟩,?_⟩|refine ⟨by decide,?_⟩|apply τt|apply τf))
      refine ⟨⟨Int.natCast_nonneg _, show ((2 : Nat) : Int) < 6 by decide⟩, splitV_to (b := .bp (50, st) 9) (congrArg (AV.bp (50, st)) (by rw [c_bool']; rfl)) ?_⟩
      (repeat((conv=>whnf);first|apply ω0|apply ω1|apply ω2|refine τ3 rfl ?_|refine τ4 rfl ?_|refine ⟨rfl,?_⟩|apply τa|refine τb rfl ?_|refine ⟨⟨by kernel_rfl,by kernel_rfl⟩,?_⟩|refine ⟨by decide,?_⟩|apply τt|apply τf))
      (refine aw_draw 21 ?_ ?_ ?_ ?_; (· kernel_rfl); (· kernel_rfl); (· kernel_rfl))
      (repeat((conv=>whnf);first|apply ω0|apply ω1|apply ω2|refine τ3 rfl ?_|refine τ4 rfl ?_|refine ⟨rfl,?_⟩|apply τa|refine τb rfl ?_|refine ⟨⟨by kernel_rfl,by kernel_rfl⟩,?_⟩|refine ⟨by decide,?_⟩|apply τt|apply τf))
      refine ⟨⟨Int.natCast_nonneg _, show ((2 : Nat) : Int) < 6 by decide⟩, splitO_eq (b := .bp (50, st) 9) (congrArg (AV.bp (50, st)) (by rw [c_bool']; rfl)) ?_⟩
      (repeat((conv=>whnf);first|apply ω0|apply ω1|apply ω2|refine τ3 rfl ?_|refine τ4 rfl ?_|refine ⟨rfl,?_⟩|apply τa|refine τb rfl ?_|refine ⟨⟨by kernel_rfl,by kernel_rfl⟩,?_⟩|refine ⟨by decide,?_⟩|apply τt|apply τf))
      refine ⟨⟨Int.natCast_nonneg _, show ((2 : Nat) : Int) < 6 by decide⟩, splitO_eq (b := .bp (50, st) 3) (congrArg (AV.bp (50, st)) (by rw [c_u64]; rfl)) ?_⟩
      (repeat((conv=>whnf);first|apply ω0|apply ω1|apply ω2|refine τ3 rfl ?_|refine τ4 rfl ?_|refine ⟨rfl,?_⟩|apply τa|refine τb rfl ?_|refine ⟨⟨by kernel_rfl,by kernel_rfl⟩,?_⟩|refine ⟨by decide,?_⟩|apply τt|apply τf))
      (conv => whnf)
      refine lit_eq (beq_self_eq_true _) ?_
      (repeat((conv=>whnf);first|apply ω0|apply ω1|apply ω2|refine τ3 rfl ?_|refine τ4 rfl ?_|refine ⟨rfl,?_⟩|apply τa|refine τb rfl ?_|refine ⟨⟨by kernel_rfl,by kernel_rfl⟩,?_⟩|refine ⟨by decide,?_⟩|apply τt|apply τf))
      refine ⟨⟨Int.natCast_nonneg _, show ((2 : Nat) : Int) < 6 by decide⟩, splitO_eq (b := .bp (50, st) 9) (congrArg (AV.bp (50, st)) (by rw [c_bool']; rfl)) ?_⟩
      (repeat((conv=>whnf);first|apply ω0|apply ω1|apply ω2|refine τ3 rfl ?_|refine τ4 rfl ?_|refine ⟨rfl,?_⟩|apply τa|refine τb rfl ?_|refine ⟨⟨by kernel_rfl,by kernel_rfl⟩,?_⟩|refine ⟨by decide,?_⟩|apply τt|apply τf))
      exact back (2 + 1, nx1) (show 2 + 1 ≤ 6 by decide) (by dsimp only; omega) (ele_tell (bx := [((50, st), .c (seenC 0 (upK (2 + 1) x a) (upK (2 + 1) (fun _ => true) b)))]) (pm := []) _ [] rfl rfl (List.Sublist.refl _) (List.Sublist.refl _) (BxLe.refl _) trivial ⟨AVle.refl _, AVle.refl _, AVle.refl _, trivial⟩)
    · (repeat((conv=>whnf);first|apply ω0|apply ω1|apply ω2|refine τ3 rfl ?_|refine τ4 rfl ?_|refine ⟨rfl,?_⟩|apply τa|refine τb rfl ?_|refine ⟨⟨by kernel_rfl,by kernel_rfl⟩,?_⟩|refine ⟨by decide,?_⟩|apply τt|apply τf))
      refine aw_mixN 12 [] (fun i => match i with | 8 => true | _ => false) (fun _ => false) [0, 1, 2, 3, 4, 5, 6, 7, 9, 10, 8, 11] (by kernel_rfl) (by kernel_rfl) (fun _ _ _ h => by cases h) ?_
      (repeat((conv=>whnf);first|apply ω0|apply ω1|apply ω2|refine τ3 rfl ?_|refine τ4 rfl ?_|refine ⟨rfl,?_⟩|apply τa|refine τb rfl ?_|refine ⟨⟨by kernel_rfl,by kernel_rfl⟩,?_⟩|refine ⟨by decide,?_⟩|apply τt|apply τf))
      refine ⟨⟨Int.natCast_nonneg _, show ((3 : Nat) : Int) < 6 by decide⟩, splitV_to (b := .bp (50, st) 4) (congrArg (AV.bp (50, st)) (by rw [c_u64]; rfl)) ?_⟩
      (repeat((conv=>whnf);first|apply ω0|apply ω1|apply ω2|refine τ3 rfl ?_|refine τ4 rfl ?_|refine ⟨rfl,?_⟩|apply τa|refine τb rfl ?_|refine ⟨⟨by kernel_rfl,by kernel_rfl⟩,?_⟩|refine ⟨by decide,?_⟩|apply τt|apply τf))
      refine ⟨_, eff_store (i := (50, st)) (off := 4) (cs := seenC 0 (upK 3 x a) (upK 3 (fun _ => true) b)) rfl rfl rfl rfl rfl rfl rfl (by kernel_rfl) (by kernel_rfl) (by show 4 + 1 ≤ 13; omega) (fun _ _ _ h => by cases h), fun r h' hr => ?_⟩
      obtain rfl := hr
      (repeat((conv=>whnf);first|apply ω0|apply ω1|apply ω2|refine τ3 rfl ?_|refine τ4 rfl ?_|refine ⟨rfl,?_⟩|apply τa|refine τb rfl ?_|refine ⟨⟨by kernel_rfl,by kernel_rfl⟩,?_⟩|refine ⟨by decide,?_⟩|apply τt|apply τf))
      refine ⟨⟨Int.natCast_nonneg _, show ((3 : Nat) : Int) < 6 by decide⟩, splitV_to (b := .bp (50, st) 10) (congrArg (AV.bp (50, st)) (by rw [c_bool']; rfl)) ?_⟩
      (repeat((conv=>whnf);first|apply ω0|apply ω1|apply ω2|refine τ3 rfl ?_|refine τ4 rfl ?_|refine ⟨rfl,?_⟩|apply τa|refine τb rfl ?_|refine ⟨⟨by kernel_rfl,by kernel_rfl⟩,?_⟩|refine ⟨by decide,?_⟩|apply τt|apply τf))
      (refine aw_draw 21 ?_ ?_ ?_ ?_; (· kernel_rfl); (· kernel_rfl); (· kernel_rfl))
      (repeat((conv=>whnf);first|apply ω0|apply ω1|apply ω2|refine τ3 rfl ?_|refine τ4 rfl ?_|refine ⟨rfl,?_⟩|apply τa|refine τb rfl ?_|refine ⟨⟨by kernel_rfl,by kernel_rfl⟩,?_⟩|refine ⟨by decide,?_⟩|apply τt|apply τf))
      refine ⟨⟨Int.natCast_nonneg _, show ((3 : Nat) : Int) < 6 by decide⟩, splitO_eq (b := .bp (50, st) 10) (congrArg (AV.bp (50, st)) (by rw [c_bool']; rfl)) ?_⟩
      (repeat((conv=>whnf);first|apply ω0|apply ω1|apply ω2|refine τ3 rfl ?_|refine τ4 rfl ?_|refine ⟨rfl,?_⟩|apply τa|refine τb rfl ?_|refine ⟨⟨by kernel_rfl,by kernel_rfl⟩,?_⟩|refine ⟨by decide,?_⟩|apply τt|apply τf))
      refine ⟨⟨Int.natCast_nonneg _, show ((3 : Nat) : Int) < 6 by decide⟩, splitO_eq (b := .bp (50, st) 4) (congrArg (AV.bp (50, st)) (by rw [c_u64]; rfl)) ?_⟩
      (repeat((conv=>whnf);first|apply ω0|apply ω1|apply ω2|refine τ3 rfl ?_|refine τ4 rfl ?_|refine ⟨rfl,?_⟩|apply τa|refine τb rfl ?_|refine ⟨⟨by kernel_rfl,by kernel_rfl⟩,?_⟩|refine ⟨by decide,?_⟩|apply τt|apply τf))
      (conv => whnf)
      refine lit_eq (beq_self_eq_true _) ?_
      (repeat((conv=>whnf);first|apply ω0|apply ω1|apply ω2|refine τ3 rfl ?_|refine τ4 rfl ?_|refine ⟨rfl,?_⟩|apply τa|refine τb rfl ?_|refine ⟨⟨by kernel_rfl,by kernel_rfl⟩,?_⟩|refine ⟨by decide,?_⟩|apply τt|apply τf))
      refine ⟨⟨Int.natCast_nonneg _, show ((3 : Nat) : Int) < 6 by decide⟩, splitO_eq (b := .bp (50, st) 10) (congrArg (AV.bp (50, st)) (by rw [c_bool']; rfl)) ?_⟩
      (repeat((conv=>whnf);first|apply ω0|apply ω1|apply ω2|refine τ3 rfl ?_|refine τ4 rfl ?_|refine ⟨rfl,?_⟩|apply τa|refine τb rfl ?_|refine ⟨⟨by kernel_rfl,by kernel_rfl⟩,?_⟩|refine ⟨by decide,?_⟩|apply τt|apply τf))
      exact back (3 + 1, nx1) (show 3 + 1 ≤ 6 by decide) (by dsimp only; omega) (ele_tell (bx := [((50, st), .c (seenC 0 (upK (3 + 1) x a) (upK (3 + 1) (fun _ => true) b)))]) (pm := []) _ [] rfl rfl (List.Sublist.refl _) (List.Sublist.refl _) (BxLe.refl _) trivial ⟨AVle.refl _, AVle.refl _, AVle.refl _, trivial⟩)
    · (repeat((conv=>whnf);first|apply ω0|apply ω1|apply ω2|refine τ3 rfl ?_|refine τ4 rfl ?_|refine ⟨rfl,?_⟩|apply τa|refine τb rfl ?_|refine ⟨⟨by kernel_rfl,by kernel_rfl⟩,?_⟩|refine ⟨by decide,?_⟩|apply τt|apply τf))
      refine aw_mixN 12 [] (fun i => match i with | 8 => true | _ => false) (fun _ => false) [0, 1, 2, 3, 4, 5, 6, 7, 9, 10, 8, 11] (by kernel_rfl) (by kernel_rfl) (fun _ _ _ h => by cases h) ?_
      (repeat((conv=>whnf);first|apply ω0|apply ω1|apply ω2|refine τ3 rfl ?_|refine τ4 rfl ?_|refine ⟨rfl,?_⟩|apply τa|refine τb rfl ?_|refine ⟨⟨by kernel_rfl,by kernel_rfl⟩,?_⟩|refine ⟨by decide,?_⟩|apply τt|apply τf))
      refine ⟨⟨Int.natCast_nonneg _, show ((4 : Nat) : Int) < 6 by decide⟩, splitV_to (b := .bp (50, st) 5) (congrArg (AV.bp (50, st)) (by rw [c_u64]; rfl)) ?_⟩
      (repeat((conv=>whnf);first|apply ω0|apply ω1|apply ω2|refine τ3 rfl ?_|refine τ4 rfl ?_|refine ⟨rfl,?_⟩|apply τa|refine τb rfl ?_|refine ⟨⟨by kernel_rfl,by kernel_rfl⟩,?_⟩|refine ⟨by decide,?_⟩|apply τt|apply τf))
      refine ⟨_, eff_store (i := (50, st)) (off := 5) (cs := seenC 0 (upK 4 x a) (upK 4 (fun _ => true) b)) rfl rfl rfl rfl rfl rfl rfl (by kernel_rfl) (by kernel_rfl) (by show 5 + 1 ≤ 13; omega) (fun _ _ _ h => by cases h), fun r h' hr => ?_⟩
      obtain rfl := hr
      (repeat((conv=>whnf);first|apply ω0|apply ω1|apply ω2|refine τ3 rfl ?_|refine τ4 rfl ?_|refine ⟨rfl,?_⟩|apply τa|refine τb rfl ?_|refine ⟨⟨by kernel_rfl,by kernel_rfl⟩,?_⟩|refine ⟨by decide,?_⟩|apply τt|apply τf))
      refine ⟨⟨Int.natCast_nonneg _, show ((4 : Nat) : Int) < 6 by decide⟩, splitV_to (b := .bp (50, st) 11) (congrArg (AV.bp (50, st)) (by rw [c_bool']; rfl)) ?_⟩
      (repeat((conv=>whnf);first|apply ω0|apply ω1|apply ω2|refine τ3 rfl ?_|refine τ4 rfl ?_|refine ⟨rfl,?_⟩|apply τa|refine τb rfl ?_|refine ⟨⟨by kernel_rfl,by kernel_rfl⟩,?_⟩|refine ⟨by decide,?_⟩|apply τt|apply τf))
      (refine aw_draw 21 ?_ ?_ ?_ ?_; (· kernel_rfl); (· kernel_rfl); (· kernel_rfl))
      (repeat((conv=>whnf);first|apply ω0|apply ω1|apply ω2|refine τ3 rfl ?_|refine τ4 rfl ?_|refine ⟨rfl,?_⟩|apply τa|refine τb rfl ?_|refine ⟨⟨by kernel_rfl,by kernel_rfl⟩,?_⟩|refine ⟨by decide,?_⟩|apply τt|apply τf))
      refine ⟨⟨Int.natCast_nonneg _, show ((4 : Nat) : Int) < 6 by decide⟩, splitO_eq (b := .bp (50, st) 11) (congrArg (AV.bp (50, st)) (by rw [c_bool']; rfl)) ?_⟩
      (repeat((conv=>whnf);first|apply ω0|apply ω1|apply ω2|refine τ3 rfl ?_|refine τ4 rfl ?_|refine ⟨rfl,?_⟩|apply τa|refine τb rfl ?_|refine ⟨⟨by kernel_rfl,by kernel_rfl⟩,?_⟩|refine ⟨by decide,?_⟩|apply τt|apply τf))
      refine ⟨⟨Int.natCast_nonneg _, show ((4 : Nat) : Int) < 6 by decide⟩, splitO_eq (b := .bp (50, st) 5) (congrArg (AV.bp (50, st)) (by rw [c_u64]; rfl)) ?_⟩
      (repeat((conv=>whnf);first|apply ω0|apply ω1|apply ω2|refine τ3 rfl ?_|refine τ4 rfl ?_|refine ⟨rfl,?_⟩|apply τa|refine τb rfl ?_|refine ⟨⟨by kernel_rfl,by kernel_rfl⟩,?_⟩|refine ⟨by decide,?_⟩|apply τt|apply τf))
      (conv => whnf)
      refine lit_eq (beq_self_eq_true _) ?_
      (repeat((conv=>whnf);first|apply ω0|apply ω1|apply ω2|refine τ3 rfl ?_|refine τ4 rfl ?_|refine ⟨rfl,?_⟩|apply τa|refine τb rfl ?_|refine ⟨⟨by kernel_rfl,by kernel_rfl⟩,?_⟩|refine ⟨by decide,?_⟩|apply τt|apply τf))
      refine ⟨⟨Int.natCast_nonneg _, show ((4 : Nat) : Int) < 6 by decide⟩, splitO_eq (b := .bp (50, st) 11) (congrArg (AV.bp (50, st)) (by rw [c_bool']; rfl)) ?_⟩
      (repeat((conv=>whnf);first|apply ω0|apply ω1|apply ω2|refine τ3 rfl ?_|refine τ4 rfl ?_|refine ⟨rfl,?_⟩|apply τa|refine τb rfl ?_|refine ⟨⟨by kernel_rfl,by kernel_rfl⟩,?_⟩|refine ⟨by decide,?_⟩|apply τt|apply τf))
      exact back (4 + 1, nx1) (show 4 + 1 ≤ 6 by decide) (by dsimp only; omega) (ele_tell (bx := [((50, st), .c (seenC 0 (upK (4 + 1) x a) (upK (4 + 1) (fun _ => true) b)))]) (pm := []) _ [] rfl rfl (List.Sublist.refl _) (List.Sublist.refl _) (BxLe.refl _) trivial ⟨AVle.refl _, AVle.refl _, AVle.refl _, trivial⟩)
    · (repeat((conv=>whnf);first|apply ω0|apply ω1|apply ω2|refine τ3 rfl ?_|refine τ4 rfl ?_|refine ⟨rfl,?_⟩|apply τa|refine τb rfl ?_|refine ⟨⟨by kernel_rfl,by kernel_rfl⟩,?_⟩|refine ⟨by decide,?_⟩|apply τt|apply τf))
      refine aw_mixN 12 [] (fun i => match i with | 8 => true | _ => false) (fun _ => false) [0, 1, 2, 3, 4, 5, 6, 7, 9, 10, 8, 11] (by kernel_rfl) (by kernel_rfl) (fun _ _ _ h => by cases h) ?_
      (repeat((conv=>whnf);first|apply ω0|apply ω1|apply ω2|refine τ3 rfl ?_|refine τ4 rfl ?_|refine ⟨rfl,?_⟩|apply τa|refine τb rfl ?_|refine ⟨⟨by kernel_rfl,by kernel_rfl⟩,?_⟩|refine ⟨by decide,?_⟩|apply τt|apply τf))
      refine ⟨⟨Int.natCast_nonneg _, show ((5 : Nat) : Int) < 6 by decide⟩, splitV_to (b := .bp (50, st) 6) (congrArg (AV.bp (50, st)) (by rw [c_u64]; rfl)) ?_⟩
      (repeat((conv=>whnf);first|apply ω0|apply ω1|apply ω2|refine τ3 rfl ?_|refine τ4 rfl ?_|refine ⟨rfl,?_⟩|apply τa|refine τb rfl ?_|refine ⟨⟨by kernel_rfl,by kernel_rfl⟩,?_⟩|refine ⟨by decide,?_⟩|apply τt|apply τf))
      refine ⟨_, eff_store (i := (50, st)) (off := 6) (cs := seenC 0 (upK 5 x a) (upK 5 (fun _ => true) b)) rfl rfl rfl rfl rfl rfl rfl (by kernel_rfl) (by kernel_rfl) (by show 6 + 1 ≤ 13; omega) (fun _ _ _ h => by cases h), fun r h' hr => ?_⟩
      obtain rfl := hr
      (repeat((conv=>whnf);first|apply ω0|apply ω1|apply ω2|refine τ3 rfl ?_|refine τ4 rfl ?_|refine ⟨rfl,?_⟩|apply τa|refine τb rfl ?_|refine ⟨⟨by kernel_rfl,by kernel_rfl⟩,?_⟩|refine ⟨by decide,?_⟩|apply τt|apply τf))
      refine ⟨⟨Int.natCast_nonneg _, show ((5 : Nat) : Int) < 6 by decide⟩, splitV_to (b := .bp (50, st) 12) (congrArg (AV.bp (50, st)) (by rw [c_bool']; rfl)) ?_⟩
      (repeat((conv=>whnf);first|apply ω0|apply ω1|apply ω2|refine τ3 rfl ?_|refine τ4 rfl ?_|refine ⟨rfl,?_⟩|apply τa|refine τb rfl ?_|refine ⟨⟨by kernel_rfl,by kernel_rfl⟩,?_⟩|refine ⟨by decide,?_⟩|apply τt|apply τf))
      (refine aw_draw 21 ?_ ?_ ?_ ?_; (· kernel_rfl); (· kernel_rfl); (· kernel_rfl))
      (repeat((conv=>whnf);first|apply ω0|apply ω1|apply ω2|refine τ3 rfl ?_|refine τ4 rfl ?_|refine ⟨rfl,?_⟩|apply τa|refine τb rfl ?_|refine ⟨⟨by kernel_rfl,by kernel_rfl⟩,?_⟩|refine ⟨by decide,?_⟩|apply τt|apply τf))
      refine ⟨⟨Int.natCast_nonneg _, show ((5 : Nat) : Int) < 6 by decide⟩, splitO_eq (b := .bp (50, st) 12) (congrArg (AV.bp (50, st)) (by rw [c_bool']; rfl)) ?_⟩
      (repeat((conv=>whnf);first|apply ω0|apply ω1|apply ω2|refine τ3 rfl ?_|refine τ4 rfl ?_|refine ⟨rfl,?_⟩|apply τa|refine τb rfl ?_|refine ⟨⟨by kernel_rfl,by kernel_rfl⟩,?_⟩|refine ⟨by decide,?_⟩|apply τt|apply τf))
      refine ⟨⟨Int.natCast_nonneg _, show ((5 : Nat) : Int) < 6 by decide⟩, splitO_eq (b := .bp (50, st) 6) (congrArg (AV.bp (50, st)) (by rw [c_u64]; rfl)) ?_⟩
      (repeat((conv=>whnf);first|apply ω0|apply ω1|apply ω2|refine τ3 rfl ?_|refine τ4 rfl ?_|refine ⟨rfl,?_⟩|apply τa|refine τb rfl ?_|refine ⟨⟨by kernel_rfl,by kernel_rfl⟩,?_⟩|refine ⟨by decide,?_⟩|apply τt|apply τf))
      (conv => whnf)
      refine lit_eq (beq_self_eq_true _) ?_
      (repeat((conv=>whnf);first|apply ω0|apply ω1|apply ω2|refine τ3 rfl ?_|refine τ4 rfl ?_|refine ⟨rfl,?_⟩|apply τa|refine τb rfl ?_|refine ⟨⟨by kernel_rfl,by kernel_rfl⟩,?_⟩|refine ⟨by decide,?_⟩|apply τt|apply τf))
      refine ⟨⟨Int.natCast_nonneg _, show ((5 : Nat) : Int) < 6 by decide⟩, splitO_eq (b := .bp (50, st) 12) (congrArg (AV.bp (50, st)) (by rw [c_bool']; rfl)) ?_⟩
      (repeat((conv=>whnf);first|apply ω0|apply ω1|apply ω2|refine τ3 rfl ?_|refine τ4 rfl ?_|refine ⟨rfl,?_⟩|apply τa|refine τb rfl ?_|refine ⟨⟨by kernel_rfl,by kernel_rfl⟩,?_⟩|refine ⟨by decide,?_⟩|apply τt|apply τf))
      exact back (5 + 1, nx1) (show 5 + 1 ≤ 6 by decide) (by dsimp only; omega) (ele_tell (bx := [((50, st), .c (seenC 0 (upK (5 + 1) x a) (upK (5 + 1) (fun _ => true) b)))]) (pm := []) _ [] rfl rfl (List.Sublist.refl _) (List.Sublist.refl _) (BxLe.refl _) trivial ⟨AVle.refl _, AVle.refl _, AVle.refl _, trivial⟩)
    · (repeat((conv=>whnf);first|apply ω0|apply ω1|apply ω2|refine τ3 rfl ?_|refine τ4 rfl ?_|refine ⟨rfl,?_⟩|apply τa|refine τb rfl ?_|refine ⟨⟨by kernel_rfl,by kernel_rfl⟩,?_⟩|refine ⟨by decide,?_⟩|apply τt|apply τf))
      exact ret_is rfl ⟨_, ⟨[((50, st), .c (seenC 1 x (fun _ => true)))], [], nx1, 0⟩, AVle.refl _, hle_tell _ _ rfl (List.Sublist.refl _) (List.Sublist.refl _) (BxLe.refl _) (PmEq.refl _), _, _, rfl⟩
    · omega
set_option maxHeartbeats 4000000 in
theorem noteS_spec (st nx n : Nat) (hn : n ≤ 1000000) (a : Nat → Nat) (b : Nat → Bool) (x : Nat → Nat) :
    ECall Tryd.prog 24 [.bp (50, st) 0, arrA x] ⟨[((50, st), .c (seenC (n + 1) a b))], [], nx, 0⟩ fun _ h' => ∃ nx' nn', h' = ⟨[((50, st), .c (seenC (n + 2) a (fun j => b j && decide (a j = x j))))], [], nx', nn'⟩ := by
  refine ECall.wk (ecall_of_aw Tryd.func24 rfl rfl ?_)
  (repeat((conv=>whnf);first|apply ω0|apply ω1|apply ω2|refine τ3 rfl ?_|refine τ4 rfl ?_|refine ⟨rfl,?_⟩|apply τa|refine τb rfl ?_|refine ⟨⟨by kernel_rfl,by kernel_rfl⟩,?_⟩|refine ⟨by decide,?_⟩|apply τt|apply τf))
  refine aw_loop (fun y : Nat × Nat => mk 56 [(0, .bp (50, st) 0), (6, arrA x), (7, int y.1)] ⟨[((50, st), .c (seenC (n + 1) a (upK y.1 (fun j => b j && decide (a j = x j)) b)))], [], y.2, 1⟩) (fun y => y.1 ≤ 6) (fun y => 6 - y.1) ?_ ?_
  · exact ⟨(0, nx + 1), Nat.zero_le _, ele_tell _ _ rfl rfl (.cons _ (List.Sublist.refl _)) (List.Sublist.refl _) (BxLe.refl _) trivial ⟨AVle.refl _, AVle.refl _, AVle.refl _, trivial⟩⟩
  · rintro ⟨k, nx1⟩ hk
    dsimp only at hk
    rcases k with _ | _ | _ | _ | _ | _ | _ | k
    · (repeat((conv=>whnf);first|apply ω0|apply ω1|apply ω2|refine τ3 rfl ?_|refine τ4 rfl ?_|refine ⟨rfl,?_⟩|apply τa|refine τb rfl ?_|refine ⟨⟨by kernel_rfl,by kernel_rfl⟩,?_⟩|refine ⟨by decide,?_⟩|apply τt|apply τf))
      (refine aw_draw 21 ?_ ?_ ?_ ?_; (· kernel_rfl); (· kernel_rfl); (· kernel_rfl))
      (repeat((conv=>whnf);first|apply ω0|apply ω1|apply ω2|refine τ3 rfl ?_|refine τ4 rfl ?_|refine ⟨rfl,?_⟩|apply τa|refine τb rfl ?_|refine ⟨⟨by kernel_rfl,by kernel_rfl⟩,?_⟩|refine ⟨by decide,?_⟩|apply τt|apply τf))
      refine ⟨⟨Int.natCast_nonneg _, show ((0 : Nat) : Int) < 6 by decide⟩, splitO_eq (b := .bp (50, st) 7) (congrArg (AV.bp (50, st)) (by rw [c_bool']; rfl)) ?_⟩
      (repeat((conv=>whnf);first|apply ω0|apply ω1|apply ω2|refine τ3 rfl ?_|refine τ4 rfl ?_|refine ⟨rfl,?_⟩|apply τa|refine τb rfl ?_|refine ⟨⟨by kernel_rfl,by kernel_rfl⟩,?_⟩|refine ⟨by decide,?_⟩|apply τt|apply τf))
      intro c t; cases c
      · (repeat((conv=>whnf);first|apply ω0|apply ω1|apply ω2|refine τ3 rfl ?_|refine τ4 rfl ?_|refine ⟨rfl,?_⟩|apply τa|refine τb rfl ?_|refine ⟨⟨by kernel_rfl,by kernel_rfl⟩,?_⟩|refine ⟨by decide,?_⟩|apply τt|apply τf))
        refine ⟨⟨Int.natCast_nonneg _, show ((0 : Nat) : Int) < 6 by decide⟩, splitO_eq (b := .bp (50, st) 7) (congrArg (AV.bp (50, st)) (by rw [c_bool']; rfl)) ?_⟩
        (repeat((conv=>whnf);first|apply ω0|apply ω1|apply ω2|refine τ3 rfl ?_|refine τ4 rfl ?_|refine ⟨rfl,?_⟩|apply τa|refine τb rfl ?_|refine ⟨⟨by kernel_rfl,by kernel_rfl⟩,?_⟩|refine ⟨by decide,?_⟩|apply τt|apply τf))
        exact back (0 + 1, nx1) (show 0 + 1 ≤ 6 by decide) (by dsimp only; omega) (ele_tell (bx := [((50, st), .c (seenC (n + 1) a (upK (0 + 1) (fun j => b j && decide (a j = x j)) b)))]) (pm := []) _ [] rfl rfl (List.Sublist.refl _) (List.Sublist.refl _) ⟨rfl, ⟨AVle.refl _, AVle.refl _, AVle.refl _, AVle.refl _, AVle.refl _, AVle.refl _, AVle.refl _, le_bool (by show false = (b 0 && _); rw [← show false = b 0 from t]; rfl), AVle.refl _, AVle.refl _, AVle.refl _, AVle.refl _, AVle.refl _, trivial⟩, trivial⟩ trivial ⟨AVle.refl _, AVle.refl _, AVle.refl _, trivial⟩)
      · (repeat((conv=>whnf);first|apply ω0|apply ω1|apply ω2|refine τ3 rfl ?_|refine τ4 rfl ?_|refine ⟨rfl,?_⟩|apply τa|refine τb rfl ?_|refine ⟨⟨by kernel_rfl,by kernel_rfl⟩,?_⟩|refine ⟨by decide,?_⟩|apply τt|apply τf))
        refine ⟨⟨Int.natCast_nonneg _, show ((0 : Nat) : Int) < 6 by decide⟩, splitO_eq (b := .bp (50, st) 1) (congrArg (AV.bp (50, st)) (by rw [c_u64]; rfl)) ?_⟩
        (repeat((conv=>whnf);first|apply ω0|apply ω1|apply ω2|refine τ3 rfl ?_|refine τ4 rfl ?_|refine ⟨rfl,?_⟩|apply τa|refine τb rfl ?_|refine ⟨⟨by kernel_rfl,by kernel_rfl⟩,?_⟩|refine ⟨by decide,?_⟩|apply τt|apply τf))
        intro c hc
        have hc2 : c = decide (a 0 = x 0) := hc.trans (by rw [Bool.eq_iff_iff]; simp; omega)
        clear hc
        (repeat((conv=>whnf);first|apply ω0|apply ω1|apply ω2|refine τ3 rfl ?_|refine τ4 rfl ?_|refine ⟨rfl,?_⟩|apply τa|refine τb rfl ?_|refine ⟨⟨by kernel_rfl,by kernel_rfl⟩,?_⟩|refine ⟨by decide,?_⟩|apply τt|apply τf))
        refine ⟨⟨Int.natCast_nonneg _, show ((0 : Nat) : Int) < 6 by decide⟩, splitO_eq (b := .bp (50, st) 7) (congrArg (AV.bp (50, st)) (by rw [c_bool']; rfl)) ?_⟩
        (repeat((conv=>whnf);first|apply ω0|apply ω1|apply ω2|refine τ3 rfl ?_|refine τ4 rfl ?_|refine ⟨rfl,?_⟩|apply τa|refine τb rfl ?_|refine ⟨⟨by kernel_rfl,by kernel_rfl⟩,?_⟩|refine ⟨by decide,?_⟩|apply τt|apply τf))
        exact back (0 + 1, nx1) (show 0 + 1 ≤ 6 by decide) (by dsimp only; omega) (ele_tell (bx := [((50, st), .c (seenC (n + 1) a (upK (0 + 1) (fun j => b j && decide (a j = x j)) b)))]) (pm := []) _ [] rfl rfl (List.Sublist.refl _) (List.Sublist.refl _) ⟨rfl, ⟨AVle.refl _, AVle.refl _, AVle.refl _, AVle.refl _, AVle.refl _, AVle.refl _, AVle.refl _, le_bool (by show c = (b 0 && decide (a 0 = x 0)); rw [← show true = b 0 from t, hc2]; rfl), AVle.refl _, AVle.refl _, AVle.refl _, AVle.refl _, AVle.refl _, trivial⟩, trivial⟩ trivial ⟨AVle.refl _, AVle.refl _, AVle.refl _, trivial⟩)
    · (repeat((conv=>whnf);first|apply ω0|apply ω1|apply ω2|refine τ3 rfl ?_|refine τ4 rfl ?_|refine ⟨rfl,?_⟩|apply τa|refine τb rfl ?_|refine ⟨⟨by kernel_rfl,by kernel_rfl⟩,?_⟩|refine ⟨by decide,?_⟩|apply τt|apply τf))
      (refine aw_draw 21 ?_ ?_ ?_ ?_; (· kernel_rfl); (· kernel_rfl); (· kernel_rfl))
      (repeat((conv=>whnf);first|apply ω0|apply ω1|apply ω2|refine τ3 rfl ?_|refine τ4 rfl ?_|refine ⟨rfl,?_⟩|apply τa|refine τb rfl ?_|refine ⟨⟨by kernel_rfl,by kernel_rfl⟩,?_⟩|refine ⟨by decide,?_⟩|apply τt|apply τf))
      refine ⟨⟨Int.natCast_nonneg _, show ((1 : Nat) : Int) < 6 by decide⟩, splitO_eq (b := .bp (50, st) 8) (congrArg (AV.bp (50, st)) (by rw [c_bool']; rfl)) ?_⟩
      (repeat((conv=>whnf);first|apply ω0|apply ω1|apply ω2|refine τ3 rfl ?_|refine τ4 rfl ?_|refine ⟨rfl,?_⟩|apply τa|refine τb rfl ?_|refine ⟨⟨by kernel_rfl,by kernel_rfl⟩,?_⟩|refine ⟨by decide,?_⟩|apply τt|apply τf))
      intro c t; cases c
      · (repeat((conv=>whnf);first|apply ω0|apply ω1|apply ω2|refine τ3 rfl ?_|refine τ4 rfl ?_|refine ⟨rfl,?_⟩|apply τa|refine τb rfl ?_|refine ⟨⟨by kernel_rfl,by kernel_rfl⟩,?_⟩|refine ⟨by decide,?_⟩|apply τt|apply τf))
        refine ⟨⟨Int.natCast_nonneg _, show ((1 : Nat) : Int) < 6 by decide⟩, splitO_eq (b := .bp (50, st) 8) (congrArg (AV.bp (50, st)) (by rw [c_bool']; rfl)) ?_⟩
        (repeat((conv=>whnf);first|apply ω0|apply ω1|apply ω2|refine τ3 rfl ?_|refine τ4 rfl ?_|refine ⟨rfl,?_⟩|apply τa|refine τb rfl ?_|refine ⟨⟨by kernel_rfl,by kernel_rfl⟩,?_⟩|refine ⟨by decide,?_⟩|apply τt|apply τf))
        exact back (1 + 1, nx1) (show 1 + 1 ≤ 6 by decide) (by dsimp only; omega) (ele_tell (bx := [((50, st), .c (seenC (n + 1) a (upK (1 + 1) (fun j => b j && decide (a j = x j)) b)))]) (pm := []) _ [] rfl rfl (List.Sublist.refl _) (List.Sublist.refl _) ⟨rfl, ⟨AVle.refl _, AVle.refl _, AVle.refl _, AVle.refl _, AVle.refl _, AVle.refl _, AVle.refl _, AVle.refl _, le_bool (by show false = (b 1 && _); rw [← show false = b 1 from t]; rfl), AVle.refl _, AVle.refl _, AVle.refl _, AVle.refl _, trivial⟩, trivial⟩ trivial ⟨AVle.refl _, AVle.refl _, AVle.refl _, trivial⟩)
      · (repeat((conv=>whnf);first|apply ω0|apply ω1|apply ω2|refine τ3 rfl ?_|refine τ4 rfl ?_|refine ⟨rfl,?_⟩|apply τa|refine τb rfl ?_|refine ⟨⟨by kernel_rfl,by kernel_rfl⟩,?_⟩|refine ⟨by decide,?_⟩|apply τt|apply τf))
        refine ⟨⟨Int.natCast_nonneg _, show ((1 : Nat) : Int) < 6 by decide⟩, splitO_eq (b := .bp (50, st) 2) (congrArg (AV.bp (50, st)) (by rw [c_u64]; rfl)) ?_⟩
        (repeat((conv=>whnf);first|apply ω0|apply ω1|apply ω2|refine τ3 rfl ?_|refine τ4 rfl ?_|refine ⟨rfl,?_⟩|apply τa|refine τb rfl ?_|refine ⟨⟨by kernel_rfl,by kernel_rfl⟩,?_⟩|refine ⟨by decide,?_⟩|apply τt|apply τf))
        intro c hc
        have hc2 : c = decide (a 1 = x 1) := hc.trans (by rw [Bool.eq_iff_iff]; simp; omega)
        clear hc
        (repeat((conv=>whnf);first|apply ω0|apply ω1|apply ω2|refine τ3 rfl ?_|refine τ4 rfl ?_|refine ⟨rfl,?_⟩|apply τa|refine τb rfl ?_|refine ⟨⟨by kernel_rfl,by kernel_rfl⟩,?_⟩|refine ⟨by decide,?_⟩|apply τt|apply τf))
        refine ⟨⟨Int.natCast_nonneg _, show ((1 : Nat) : Int) < 6 by decide⟩, splitO_eq (b := .bp (50, st) 8) (congrArg (AV.bp (50, st)) (by rw [c_bool']; rfl)) ?_⟩
        (repeat((conv=>whnf);first|apply ω0|apply ω1|apply ω2|refine τ3 rfl ?_|refine τ4 rfl ?_|refine ⟨rfl,?_⟩|apply τa|refine τb rfl ?_|refine ⟨⟨by kernel_rfl,by kernel_rfl⟩,?_⟩|refine ⟨by decide,?_⟩|apply τt|apply τf))
        exact back (1 + 1, nx1) (show 1 + 1 ≤ 6 by decide) (by dsimp only; omega) (ele_tell (bx := [((50, st), .c (seenC (n + 1) a (upK (1 + 1) (fun j => b j && decide (a j = x j)) b)))]) (pm := []) _ [] rfl rfl (List.Sublist.refl _) (List.Sublist.refl _) ⟨rfl, ⟨AVle.refl _, AVle.refl _, AVle.refl _, AVle.refl _, AVle.refl _, AVle.refl _, AVle.refl _, AVle.refl _, le_bool (by show c = (b 1 && decide (a 1 = x 1)); rw [← show true = b 1 from t, hc2]; rfl), AVle.refl _, AVle.refl _, AVle.refl _, AVle.refl _, trivial⟩, trivial⟩ trivial ⟨AVle.refl _, AVle.refl _, AVle.refl _, trivial⟩)
    · (repeat((conv=>whnf);first|apply ω0|apply ω1|apply ω2|refine τ3 rfl ?_|refine τ4 rfl ?_|refine ⟨rfl,?_⟩|apply τa|refine τb rfl ?_|refine ⟨⟨by kernel_rfl,by kernel_rfl⟩,?_⟩|refine ⟨by decide,?_⟩|apply τt|apply τf))
      (refine aw_draw 21 ?_ ?_ ?_ ?_; (· kernel_rfl); (· kernel_rfl); (· kernel_rfl))
      (repeat((conv=>whnf);first|apply ω0|apply ω1|apply ω2|refine τ3 rfl ?_|refine τ4 rfl ?_|refine ⟨rfl,?_⟩|apply τa|refine τb rfl ?_|refine ⟨⟨by kernel_rfl,by kernel_rfl⟩,?_⟩|refine ⟨by decide,?_⟩|apply τt|apply τf))
      refine ⟨⟨Int.natCast_nonneg _, show ((2 : Nat) : Int) < 6 by decide⟩, splitO_eq (b := .bp (50, st) 9) (congrArg (AV.bp (50, st)) (by rw [c_bool']; rfl)) ?_⟩
      (repeat((conv=>whnf);first|apply ω0|apply ω1|apply ω2|refine τ3 rfl ?_|refine τ4 rfl ?_|refine ⟨rfl,?_⟩|apply τa|refine τb rfl ?_|refine ⟨⟨by kernel_rfl,by kernel_rfl⟩,?_⟩|refine ⟨by decide,?_⟩|apply τt|apply τf))
      intro c t; cases c
      · (repeat((conv=>whnf);first|apply ω0|apply ω1|apply ω2|refine τ3 rfl ?_|refine τ4 rfl ?_|refine ⟨rfl,?_⟩|apply τa|refine τb rfl ?_|refine ⟨⟨by kernel_rfl,by kernel_rfl⟩,?_⟩|refine ⟨by decide,?_⟩|apply τt|apply τf))
        refine ⟨⟨Int.natCast_nonneg _, show ((2 : Nat) : Int) < 6 by decide⟩, splitO_eq (b := .bp (50, st) 9) (congrArg (AV.bp (50, st)) (by rw [c_bool']; rfl)) ?_⟩
        (repeat((conv=>whnf);first|apply ω0|apply ω1|apply ω2|refine τ3 rfl ?_|refine τ4 rfl ?_|refine ⟨rfl,?_⟩|apply τa|refine τb rfl ?_|refine ⟨⟨by kernel_rfl,by kernel_rfl⟩,?_⟩|refine ⟨by decide,?_⟩|apply τt|apply τf))
        exact back (2 + 1, nx1) (show 2 + 1 ≤ 6 by decide) (by dsimp only; omega) (ele_tell (bx := [((50, st), .c (seenC (n + 1) a (upK (2 + 1) (fun j => b j && decide (a j = x j)) b)))]) (pm := []) _ [] rfl rfl (List.Sublist.refl _) (List.Sublist.refl _) ⟨rfl, ⟨AVle.refl _, AVle.refl _, AVle.refl _, AVle.refl _, AVle.refl _, AVle.refl _, AVle.refl _, AVle.refl _, AVle.refl _, le_bool (by show false = (b 2 && _); rw [← show false = b 2 from t]; rfl), AVle.refl _, AVle.refl _, AVle.refl _, trivial⟩, trivial⟩ trivial ⟨AVle.refl _, AVle.refl _, AVle.refl _, trivial⟩)
      · (repeat((conv=>whnf);first|apply ω0|apply ω1|apply ω2|refine τ3 rfl ?_|refine τ4 rfl ?_|refine ⟨rfl,?_⟩|apply τa|refine τb rfl ?_|refine ⟨⟨by kernel_rfl,by kernel_rfl⟩,?_⟩|refine ⟨by decide,?_⟩|apply τt|apply τf))
        refine ⟨⟨Int.natCast_nonneg _, show ((2 : Nat) : Int) < 6 by decide⟩, splitO_eq (b := .bp (50, st) 3) (congrArg (AV.bp (50, st)) (by rw [c_u64]; rfl)) ?_⟩
        (repeat((conv=>whnf);first|apply ω0|apply ω1|apply ω2|refine τ3 rfl ?_|refine τ4 rfl ?_|refine ⟨rfl,?_⟩|apply τa|refine τb rfl ?_|refine ⟨⟨by kernel_rfl,by kernel_rfl⟩,?_⟩|refine ⟨by decide,?_⟩|apply τt|apply τf))
        intro c hc
        have hc2 : c = decide (a 2 = x 2) := hc.trans (by rw [Bool.eq_iff_iff]; simp; omega)
        clear hc
        (repeat((conv=>whnf);first|apply ω0|apply ω1|apply ω2|refine τ3 rfl ?_|refine τ4 rfl ?_|refine ⟨rfl,?_⟩|apply τa|refine τb rfl ?_|refine ⟨⟨by kernel_rfl,by kernel_rfl⟩,?_⟩|refine ⟨by decide,?_⟩|apply τt|apply τf))
        refine ⟨⟨Int.natCast_nonneg _, show ((2 : Nat) : Int) < 6 by decide⟩, splitO_eq (b := .bp (50, st) 9) (congrArg (AV.bp (50, st)) (by rw [c_bool']; rfl)) ?_⟩
        (repeat((conv=>whnf);first|apply ω0|apply ω1|apply ω2|refine τ3 rfl ?_|refine τ4 rfl ?_|refine ⟨rfl,?_⟩|apply τa|refine τb rfl ?_|refine ⟨⟨by kernel_rfl,by kernel_rfl⟩,?_⟩|refine ⟨by decide,?_⟩|apply τt|apply τf))
        exact back (2 + 1, nx1) (show 2 + 1 ≤ 6 by decide) (by dsimp only; omega) (ele_tell (bx := [((50, st), .c (seenC (n + 1) a (upK (2 + 1) (fun j => b j && decide (a j = x j)) b)))]) (pm := []) _ [] rfl rfl (List.Sublist.refl _) (List.Sublist.refl _) ⟨rfl, ⟨AVle.refl _, AVle.refl _, AVle.refl _, AVle.refl _, AVle.refl _, AVle.refl _, AVle.refl _, AVle.refl _, AVle.refl _, le_bool (by show c = (b 2 && decide (a 2 = x 2)); rw [← show true = b 2 from t, hc2]; rfl), AVle.refl _, AVle.refl _, AVle.refl _, trivial⟩, trivial⟩ trivial ⟨AVle.refl _, AVle.refl _, AVle.refl _, trivial⟩)
    · (repeat((conv=>whnf);first|apply ω0|apply ω1|apply ω2|refine τ3 rfl ?_|refine τ4 rfl ?_|refine ⟨rfl,?_⟩|apply τa|refine τb rfl ?_|refine ⟨⟨by kernel_rfl,by kernel_rfl⟩,?_⟩|refine ⟨by decide,?_⟩|apply τt|apply τf))
      (refine aw_draw 21 ?_ ?_ ?_ ?_; (· kernel_rfl); (· kernel_rfl); (· kernel_rfl))
      (repeat((conv=>whnf);first|apply ω0|apply ω1|apply ω2|refine τ3 rfl ?_|refine τ4 rfl ?_|refine ⟨rfl,?_⟩|apply τa|refine τb rfl ?_|refine ⟨⟨by kernel_rfl,by kernel_rfl⟩,?_⟩|refine ⟨by decide,?_⟩|apply τt|apply τf))
      refine ⟨⟨Int.natCast_nonneg _, show ((3 : Nat) : Int) < 6 by decide⟩, splitO_eq (b := .bp (50, st) 10) (congrArg (AV.bp (50, st)) (by rw [c_bool']; rfl)) ?_⟩
      (repeat((conv=>whnf);first|apply ω0|apply ω1|apply ω2|refine τ3 rfl ?_|refine τ4 rfl ?_|refine ⟨rfl,?_⟩|apply τa|refine τb rfl ?_|refine ⟨⟨by kernel_rfl,by kernel_rfl⟩,?_⟩|refine ⟨by decide,?_⟩|apply τt|apply τf))
      intro c t; cases c
      · (repeat((conv=>whnf);first|apply ω0|apply ω1|apply ω2|refine τ3 rfl ?_|refine τ4 rfl ?_|refine ⟨rfl,?_⟩|apply τa|refine τb rfl ?_|refine ⟨⟨by kernel_rfl,by kernel_rfl⟩,?_⟩|refine ⟨by decide,?_⟩|apply τt|apply τf))
        refine ⟨⟨Int.natCast_nonneg _, show ((3 : Nat) : Int) < 6 by decide⟩, splitO_eq (b := .bp (50, st) 10) (congrArg (AV.bp (50, st)) (by rw [c_bool']; rfl)) ?_⟩
        (repeat((conv=>whnf);first|apply ω0|apply ω1|apply ω2|refine τ3 rfl ?_|refine τ4 rfl ?_|refine ⟨rfl,?_⟩|apply τa|refine τb rfl ?_|refine ⟨⟨by kernel_rfl,by kernel_rfl⟩,?_⟩|refine ⟨by decide,?_⟩|apply τt|apply τf))
        exact back (3 + 1, nx1) (show 3 + 1 ≤ 6 by decide) (by dsimp only; omega) (ele_tell (bx := [((50, st), .c (seenC (n + 1) a (upK (3 + 1) (fun j => b j && decide (a j = x j)) b)))]) (pm := []) _ [] rfl rfl (List.Sublist.refl _) (List.Sublist.refl _) ⟨rfl, ⟨AVle.refl _, AVle.refl _, AVle.refl _, AVle.refl _, AVle.refl _, AVle.refl _, AVle.refl _, AVle.refl _, AVle.refl _, AVle.refl _, le_bool (by show false = (b 3 && _); rw [← show false = b 3 from t]; rfl), AVle.refl _, AVle.refl _, trivial⟩, trivial⟩ trivial ⟨AVle.refl _, AVle.refl _, AVle.refl _, trivial⟩)
      · (repeat((conv=>whnf);first|apply ω0|apply ω1|apply ω2|refine τ3 rfl ?_|refine τ4 rfl ?_|refine ⟨rfl,?_⟩|apply τa|refine τb rfl ?_|refine ⟨⟨by kernel_rfl,by kernel_rfl⟩,?_⟩|refine ⟨by decide,?_⟩|apply τt|apply τf))
        refine ⟨⟨Int.natCast_nonneg _, show ((3 : Nat) : Int) < 6 by decide⟩, splitO_eq (b := .bp (50, st) 4) (congrArg (AV.bp (50, st)) (by rw [c_u64]; rfl)) ?_⟩
        (repeat((conv=>whnf);first|apply ω0|apply ω1|apply ω2|refine τ3 rfl ?_|refine τ4 rfl ?_|refine ⟨rfl,?_⟩|apply τa|refine τb rfl ?_|refine ⟨⟨by kernel_rfl,by kernel_rfl⟩,?_⟩|refine ⟨by decide,?_⟩|apply τt|apply τf))
        intro c hc
        have hc2 : c = decide (a 3 = x 3) := hc.trans (by rw [Bool.eq_iff_iff]; simp; omega)
        clear hc
        (repeat((conv=>whnf);first|apply ω0|apply ω1|apply ω2|refine τ3 rfl ?_|refine τ4 rfl ?_|refine ⟨rfl,?_⟩|apply τa|refine τb rfl ?_|refine ⟨⟨by kernel_rfl,by kernel_rfl⟩,?_⟩|refine ⟨by decide,?_⟩|apply τt|apply τf))
        refine ⟨⟨Int.natCast_nonneg _, show ((3 : Nat) : Int) < 6 by decide⟩, splitO_eq (b := .bp (50, st) 10) (congrArg (AV.bp (50, st)) (by rw [c_bool']; rfl)) ?_⟩
        (repeat((conv=>whnf);first|apply ω0|apply ω1|apply ω2|refine τ3 rfl ?_|refine τ4 rfl ?_|refine ⟨rfl,?_⟩|apply τa|refine τb rfl ?_|refine ⟨⟨by kernel_rfl,by kernel_rfl⟩,?_⟩|refine ⟨by decide,?_⟩|apply τt|apply τf))
        exact back (3 + 1, nx1) (show 3 + 1 ≤ 6 by decide) (by dsimp only; omega) (ele_tell (bx := [((50, st), .c (seenC (n + 1) a (upK (3 + 1) (fun j => b j && decide (a j = x j)) b)))]) (pm := []) _ [] rfl rfl (List.Sublist.refl _) (List.Sublist.refl _) ⟨rfl, ⟨AVle.refl _, AVle.refl _, AVle.refl _, AVle.refl _, AVle.refl _, AVle.refl _, AVle.refl _, AVle.refl _, AVle.refl _, AVle.refl _, le_bool (by show c = (b 3 && decide (a 3 = x 3)); rw [← show true = b 3 from t, hc2]; rfl), AVle.refl _, AVle.refl _, trivial⟩, trivial⟩ trivial ⟨AVle.refl _, AVle.refl _, AVle.refl _, trivial⟩)
    · (repeat((conv=>whnf);first|apply ω0|apply ω1|apply ω2|refine τ3 rfl ?_|refine τ4 rfl ?_|refine ⟨rfl,?_⟩|apply τa|refine τb rfl ?_|refine ⟨⟨by kernel_rfl,by kernel_rfl⟩,?_⟩|refine ⟨by decide,?_⟩|apply τt|apply τf))
      (refine aw_draw 21 ?_ ?_ ?_ ?_; (· kernel_rfl); (· kernel_rfl); (· kernel_rfl))
      (repeat((conv=>whnf);first|apply ω0|apply ω1|apply ω2|refine τ3 rfl ?_|refine τ4 rfl ?_|refine ⟨rfl,?_⟩|apply τa|refine τb rfl ?_|refine ⟨⟨by kernel_rfl,by kernel_rfl⟩,?_⟩|refine ⟨by decide,?_⟩|apply τt|apply τf))
      refine ⟨⟨Int.natCast_nonneg _, show ((4 : Nat) : Int) < 6 by decide⟩, splitO_eq (b := .bp (50, st) 11) (congrArg (AV.bp (50, st)) (by rw [c_bool']; rfl)) ?_⟩
      (repeat((conv=>whnf);first|apply ω0|apply ω1|apply ω2|refine τ3 rfl ?_|refine τ4 rfl ?_|refine ⟨rfl,?_⟩|apply τa|refine τb rfl ?_|refine ⟨⟨by kernel_rfl,by kernel_rfl⟩,?_⟩|refine ⟨by decide,?_⟩|apply τt|apply τf))
      intro c t; cases c
      · (repeat((conv=>whnf);first|apply ω0|apply ω1|apply ω2|refine τ3 rfl ?_|refine τ4 rfl ?_|refine ⟨rfl,?_⟩|apply τa|refine τb rfl ?_|refine ⟨⟨by kernel_rfl,by kernel_rfl⟩,?_⟩|refine ⟨by decide,?_⟩|apply τt|apply τf))
        refine ⟨⟨Int.natCast_nonneg _, show ((4 : Nat) : Int) < 6 by decide⟩, splitO_eq (b := .bp (50, st) 11) (congrArg (AV.bp (50, st)) (by rw [c_bool']; rfl)) ?_⟩
        (repeat((conv=>whnf);first|apply ω0|apply ω1|apply ω2|refine τ3 rfl ?_|refine τ4 rfl ?_|refine ⟨rfl,?_⟩|apply τa|refine τb rfl ?_|refine ⟨⟨by kernel_rfl,by kernel_rfl⟩,?_⟩|refine ⟨by decide,?_⟩|apply τt|apply τf))
        exact back (4 + 1, nx1) (show 4 + 1 ≤ 6 by decide) (by dsimp only; omega) (ele_tell (bx := [((50, st), .c (seenC (n + 1) a (upK (4 + 1) (fun j => b j && decide (a j = x j)) b)))]) (pm := []) _ [] rfl rfl (List.Sublist.refl _) (List.Sublist.refl _) ⟨rfl, ⟨AVle.refl _, AVle.refl _, AVle.refl _, AVle.refl _, AVle.refl _, AVle.refl _, AVle.refl _, AVle.refl _, AVle.refl _, AVle.refl _, AVle.refl _, le_bool (by show false = (b 4 && _); rw [← show false = b 4 from t]; rfl), AVle.refl _, trivial⟩, trivial⟩ trivial ⟨AVle.refl _, AVle.refl _, AVle.refl _, trivial⟩)
      · (repeat((conv=>whnf);first|apply ω0|apply ω1|apply ω2|refine τ3 rfl ?_|refine τ4 rfl ?_|refine ⟨rfl,?_⟩|apply τa|refine τb rfl ?_|refine ⟨⟨by kernel_rfl,by kernel_rfl⟩,?_⟩|refine ⟨by decide,?_⟩|apply τt|apply τf))
        refine ⟨⟨Int.natCast_nonneg _, show ((4 : Nat) : Int) < 6 by decide⟩, splitO_eq (b := .bp (50, st) 5) (congrArg (AV.bp (50, st)) (by rw [c_u64]; rfl)) ?_⟩
        (repeat((conv=>whnf);first|apply ω0|apply ω1|apply ω2|refine τ3 rfl ?_|refine τ4 rfl ?_|refine ⟨rfl,?_⟩|apply τa|refine τb rfl ?_|refine ⟨⟨by kernel_rfl,by kernel_rfl⟩,?_⟩|refine ⟨by decide,?_⟩|apply τt|apply τf))
        intro c hc
        have hc2 : c = decide (a 4 = x 4) := hc.trans (by rw [Bool.eq_iff_iff]; simp; omega)
        clear hc
        (repeat((conv=>whnf);first|apply ω0|apply ω1|apply ω2|refine τ3 rfl ?_|refine τ4 rfl ?_|refine ⟨rfl,?_⟩|apply τa|refine τb rfl ?_|refine ⟨⟨by kernel_rfl,by kernel_rfl⟩,?_⟩|refine ⟨by decide,?_⟩|apply τt|apply τf))
        refine ⟨⟨Int.natCast_nonneg _, show ((4 : Nat) : Int) < 6 by decide⟩, splitO_eq (b := .bp (50, st) 11) (congrArg (AV.bp (50, st)) (by rw [c_bool']; rfl)) ?_⟩
        (repeat((conv=>whnf);first|apply ω0|apply ω1|apply ω2|refine τ3 rfl ?_|refine τ4 rfl ?_|refine ⟨rfl,?_⟩|apply τa|refine τb rfl ?_|refine ⟨⟨by kernel_rfl,by kernel_rfl⟩,?_⟩|refine ⟨by decide,?_⟩|apply τt|apply τf))
        exact back (4 + 1, nx1) (show 4 + 1 ≤ 6 by decide) (by dsimp only; omega) (ele_tell (bx := [((50, st), .c (seenC (n + 1) a (upK (4 + 1) (fun j => b j && decide (a j = x j)) b)))]) (pm := []) _ [] rfl rfl (List.Sublist.refl _) (List.Sublist.refl _) ⟨rfl, ⟨AVle.refl _, AVle.refl _, AVle.refl _, AVle.refl _, AVle.refl _, AVle.refl _, AVle.refl _, AVle.refl _, AVle.refl _, AVle.refl _, AVle.refl _, le_bool (by show c = (b 4 && decide (a 4 = x 4)); rw [← show true = b 4 from t, hc2]; rfl), AVle.refl _, trivial⟩, trivial⟩ trivial ⟨AVle.refl _, AVle.refl _, AVle.refl _, trivial⟩)
    · (repeat((conv=>whnf);first|apply ω0|apply ω1|apply ω2|refine τ3 rfl ?_|refine τ4 rfl ?_|refine ⟨rfl,?_⟩|apply τa|refine τb rfl ?_|refine ⟨⟨by kernel_rfl,by kernel_rfl⟩,?_⟩|refine ⟨by decide,?_⟩|apply τt|apply τf))
      (refine aw_draw 21 ?_ ?_ ?_ ?_; (· kernel_rfl); (· kernel_rfl); (· kernel_rfl))
      (repeat((conv=>whnf);first|apply ω0|apply ω1|apply ω2|refine τ3 rfl ?_|refine τ4 rfl ?_|refine ⟨rfl,?_⟩|apply τa|refine τb rfl ?_|refine ⟨⟨by kernel_rfl,by kernel_rfl⟩,?_⟩|refine ⟨by decide,?_⟩|apply τt|apply τf))
      refine ⟨⟨Int.natCast_nonneg _, show ((5 : Nat) : Int) < 6 by decide⟩, splitO_eq (b := .bp (50, st) 12) (congrArg (AV.bp (50, st)) (by rw [c_bool']; rfl)) ?_⟩
      (repeat((conv=>whnf);first|apply ω0|apply ω1|apply ω2|refine τ3 rfl ?_|refine τ4 rfl ?_|refine ⟨rfl,?_⟩|apply τa|refine τb rfl ?_|refine ⟨⟨by kernel_rfl,by kernel_rfl⟩,?_⟩|refine ⟨by decide,?_⟩|apply τt|apply τf))
      intro c t; cases c
      · (repeat((conv=>whnf);first|apply ω0|apply ω1|apply ω2|refine τ3 rfl ?_|refine τ4 rfl ?_|refine ⟨rfl,?_⟩|apply τa|refine τb rfl ?_|refine ⟨⟨by kernel_rfl,by kernel_rfl⟩,?_⟩|refine ⟨by decide,?_⟩|apply τt|apply τf))
        refine ⟨⟨Int.natCast_nonneg _, show ((5 : Nat) : Int) < 6 by decide⟩, splitO_eq (b := .bp (50, st) 12) (congrArg (AV.bp (50, st)) (by rw [c_bool']; rfl)) ?_⟩
        (repeat((conv=>whnf);first|apply ω0|apply ω1|apply ω2|refine τ3 rfl ?_|refine τ4 rfl ?_|refine ⟨rfl,?_⟩|apply τa|refine τb rfl ?_|refine ⟨⟨by kernel_rfl,by kernel_rfl⟩,?_⟩|refine ⟨by decide,?_⟩|apply τt|apply τf))
        exact back (5 + 1, nx1) (show 5 + 1 ≤ 6 by decide) (by dsimp only; omega) (ele_tell (bx := [((50, st), .c (seenC (n + 1) a (upK (5 + 1) (fun j => b j && decide (a j = x j)) b)))]) (pm := []) _ [] rfl rfl (List.Sublist.refl _) (List.Sublist.refl _) ⟨rfl, ⟨AVle.refl _, AVle.refl _, AVle.refl _, AVle.refl _, AVle.refl _, AVle.refl _, AVle.refl _, AVle.refl _, AVle.refl _, AVle.refl _, AVle.refl _, AVle.refl _, le_bool (by show false = (b 5 && _); rw [← show false = b 5 from t]; rfl), trivial⟩, trivial⟩ trivial ⟨AVle.refl _, AVle.refl _, AVle.refl _, trivial⟩)
      · (repeat((conv=>whnf);first|apply ω0|apply ω1|apply ω2|refine τ3 rfl ?_|refine τ4 rfl ?_|refine ⟨rfl,?_⟩|apply τa|refine τb rfl ?_|refine ⟨⟨by kernel_rfl,by kernel_rfl⟩,?_⟩|refine ⟨by decide,?_⟩|apply τt|apply τf))
        refine ⟨⟨Int.natCast_nonneg _, show ((5 : Nat) : Int) < 6 by decide⟩, splitO_eq (b := .bp (50, st) 6) (congrArg (AV.bp (50, st)) (by rw [c_u64]; rfl)) ?_⟩
        (repeat((conv=>whnf);first|apply ω0|apply ω1|apply ω2|refine τ3 rfl ?_|refine τ4 rfl ?_|refine ⟨rfl,?_⟩|apply τa|refine τb rfl ?_|refine ⟨⟨by kernel_rfl,by kernel_rfl⟩,?_⟩|refine ⟨by decide,?_⟩|apply τt|apply τf))
        intro c hc
        have hc2 : c = decide (a 5 = x 5) := hc.trans (by rw [Bool.eq_iff_iff]; simp; omega)
        clear hc
        (repeat((conv=>whnf);first|apply ω0|apply ω1|apply ω2|refine τ3 rfl ?_|refine τ4 rfl ?_|refine ⟨rfl,?_⟩|apply τa|refine τb rfl ?_|refine ⟨⟨by kernel_rfl,by kernel_rfl⟩,?_⟩|refine ⟨by decide,?_⟩|apply τt|apply τf))
        refine ⟨⟨Int.natCast_nonneg _, show ((5 : Nat) : Int) < 6 by decide⟩, splitO_eq (b := .bp (50, st) 12) (congrArg (AV.bp (50, st)) (by rw [c_bool']; rfl)) ?_⟩
        (repeat((conv=>whnf);first|apply ω0|apply ω1|apply ω2|refine τ3 rfl ?_|refine τ4 rfl ?_|refine ⟨rfl,?_⟩|apply τa|refine τb rfl ?_|refine ⟨⟨by kernel_rfl,by kernel_rfl⟩,?_⟩|refine ⟨by decide,?_⟩|apply τt|apply τf))
        exact back (5 + 1, nx1) (show 5 + 1 ≤ 6 by decide) (by dsimp only; omega) (ele_tell (bx := [((50, st), .c (seenC (n + 1) a (upK (5 + 1) (fun j => b j && decide (a j = x j)) b)))]) (pm := []) _ [] rfl rfl (List.Sublist.refl _) (List.Sublist.refl _) ⟨rfl, ⟨AVle.refl _, AVle.refl _, AVle.refl _, AVle.refl _, AVle.refl _, AVle.refl _, AVle.refl _, AVle.refl _, AVle.refl _, AVle.refl _, AVle.refl _, AVle.refl _, le_bool (by show c = (b 5 && decide (a 5 = x 5)); rw [← show true = b 5 from t, hc2]; rfl), trivial⟩, trivial⟩ trivial ⟨AVle.refl _, AVle.refl _, AVle.refl _, trivial⟩)
    · (repeat((conv=>whnf);first|apply ω0|apply ω1|apply ω2|refine τ3 rfl ?_|refine τ4 rfl ?_|refine ⟨rfl,?_⟩|apply τa|refine τb rfl ?_|refine ⟨⟨by kernel_rfl,by kernel_rfl⟩,?_⟩|refine ⟨by decide,?_⟩|apply τt|apply τf))
      exact ret_is rfl ⟨_, ⟨[((50, st), .c (seenC (n + 2) a (fun j => b j && decide (a j = x j))))], [], nx1, 0⟩, AVle.refl _, hle_tell _ _ rfl (List.Sublist.refl _) (List.Sublist.refl _) ⟨rfl, ⟨le_int (by show IntKind.i64.wrap (((n + 1 : Nat) : Int) + 1) = _; rw [wrap_id (by omega) (by omega)]; omega), AVle.refl _, AVle.refl _, AVle.refl _, AVle.refl _, AVle.refl _, AVle.refl _, AVle.refl _, AVle.refl _, AVle.refl _, AVle.refl _, AVle.refl _, AVle.refl _, trivial⟩, trivial⟩ (PmEq.refl _), _, _, rfl⟩
    · omega
end Go.Proofs.W

namespace Go.Proofs.W
open Go.Vl
set_option maxRecDepth 100000

/- Maps by names, of anything: how they are looked up, how they grow; frozen with what they point to. -/
def kS (s t : ByteArray) : Bool := s.toList == t.toList
theorem kS_eq {s t : ByteArray} : kS s t = true ↔ s = t := by
  unfold kS
  rw [beq_iff_eq, Lib.toList_data, Lib.toList_data]
  constructor
  · intro h
    obtain ⟨⟨a⟩⟩ := s
    obtain ⟨⟨b⟩⟩ := t
    simpa using h
  · rintro rfl; rfl
theorem kS_refl (s : ByteArray) : kS s s = true := kS_eq.2 rfl
section
variable {α : Type} {nm : α → ByteArray} {val : α → AV}
theorem look_none {s : ByteArray} : ∀ {G : List α}, (∀ x ∈ G, kS s (nm x) = false) → alook (.string s) (G.map fun x => (Value.string (nm x), val x)) = none
  | [], _ => rfl
  | x :: G, h => by
    have h0 : (s.toList == (nm x).toList) = false := h x (.head _)
    show (bif s.toList == (nm x).toList then _ else alook (.string s) (G.map _)) = none
    rw [h0]
    exact look_none fun y hy => h y (.tail _ hy)
theorem look_at {s : ByteArray} {x : α} (hx : nm x = s) {G2 : List α} : ∀ {G1 : List α}, (∀ y ∈ G1, kS s (nm y) = false) → alook (.string s) ((G1 ++ x :: G2).map fun x => (Value.string (nm x), val x)) = some (val x)
  | [], _ => by
    subst hx
    show (bif (nm x).toList == (nm x).toList then _ else _) = _
    rw [beq_self_eq_true]; rfl
  | y :: G, h => by
    have h0 : (s.toList == (nm y).toList) = false := h y (.head _)
    show (bif s.toList == (nm y).toList then _ else alook (.string s) ((G ++ x :: G2).map _)) = _
    rw [h0]
    exact look_at hx fun y hy => h y (.tail _ hy)
theorem put_none {s : ByteArray} {v : AV} : ∀ {G : List α}, (∀ x ∈ G, kS s (nm x) = false) → aput (.string s) v (G.map fun x => (Value.string (nm x), val x)) = (G.map fun x => (Value.string (nm x), val x)) ++ [(.string s, v)]
  | [], _ => rfl
  | x :: G, h => by
    have h0 : (s.toList == (nm x).toList) = false := h x (.head _)
    show (bif s.toList == (nm x).toList then _ else (Value.string (nm x), val x) :: aput (.string s) v (G.map _)) = _
    rw [h0, put_none fun y hy => h y (.tail _ hy)]; rfl
theorem nm_cases (nm : α → ByteArray) (s : ByteArray) : ∀ (G : List α), (∀ x ∈ G, kS s (nm x) = false) ∨ ∃ G1 x G2, G = G1 ++ x :: G2 ∧ nm x = s ∧ ∀ y ∈ G1, kS s (nm y) = false
  | [] => .inl (by simp)
  | x :: G => by
    cases hk : kS s (nm x) with
    | true => exact .inr ⟨[], x, G, rfl, (kS_eq.1 hk).symm, by simp⟩
    | false =>
      rcases nm_cases nm s G with h | ⟨G1, y, G2, rfl, hy, h⟩
      · exact .inl fun z hz => by rcases List.mem_cons.1 hz with rfl | hz; exact hk; exact h z hz
      · exact .inr ⟨x :: G1, y, G2, rfl, hy, fun z hz => by rcases List.mem_cons.1 hz with rfl | hz; exact hk; exact h z hz⟩
theorem nm_fit (G : List α) : keysFit .string (G.map fun x => (Value.string (nm x), val x)) = true := by simp [keysFit, keyFit]
end
theorem MpLe.app2 : ∀ {a b c d : List (Value × AV)}, MpLe a b → MpLe c d → MpLe (a ++ c) (b ++ d)
  | [], [], _, _, _, h => h
  | _ :: _, _ :: _, _, _, h, k => ⟨h.1, h.2.1, MpLe.app2 h.2.2 k⟩
  | [], _ :: _, _, _, h, _ => h.elim
  | _ :: _, [], _, _, h, _ => h.elim
/-- A map, frozen with what it points to. -/
theorem Frz.om2 {bs : List (Nat × Own)} {i : Vl.Id} {es es' : List (Value × AV)} (hm : (i.2, .mp es) ∈ bs) (hl : es'.length = es.length) (hf : ∀ (k : Nat) (p p' : Value × AV), es[k]? = some p → es'[k]? = some p' → p'.1 = p.1 ∧ Frz bs p.2 p'.2) : Frz bs (.om i) (.fm es') := fun w X g u h hr => by
  obtain ⟨b, h1, h4, ents, h2, h3, h5⟩ := h _ hm
  cases hr with
  | om _ b' hg =>
    dsimp only at h1
    rw [h1] at hg; cases hg
    have hget : ∀ (k : Nat) (p' : Value × AV), es'[k]? = some p' → ∃ p, es[k]? = some p := fun k p' hp => by
      have : k < es'.length := (List.getElem?_eq_some_iff.1 hp).1
      exact ⟨es[k]'(by omega), List.getElem?_eq_getElem (by omega)⟩
    refine .fm es' b ents h2 h4 (h3.trans hl.symm) (fun k p' e hp he => ?_) (fun k p' e hp he => ?_)
    · obtain ⟨p, hp0⟩ := hget k p' hp
      obtain ⟨q1, q2, _⟩ := h5 k p e hp0 he
      exact ⟨q1.trans (hf k p p' hp0 hp).1.symm, q2⟩
    · obtain ⟨p, hp0⟩ := hget k p' hp
      obtain ⟨_, _, q3⟩ := h5 k p e hp0 he
      exact (hf k p p' hp0 hp).2 w X g _ h q3
end Go.Proofs.W

namespace Go.Proofs.W
open Go.Vl
set_option maxRecDepth 100000

/-- What is gathered of a name, and where it stands. -/
structure Ent where
  name : ByteArray
  m : Nat
  a : Nat → Nat
  b : Nat → Bool
  st : Nat
def entB (e : Ent) : Vl.Id × Own := ((50, e.st), .c (seenC e.m e.a e.b))
def entP (e : Ent) : AV := .bp (50, e.st) 0
def entF (e : Ent) : AV := .rp (seenC e.m e.a e.b)
def entM (G : List Ent) : List (Value × AV) := G.map fun e => (Value.string e.name, entP e)
def entR (G : List Ent) : List (Value × AV) := G.map fun e => (Value.string e.name, entF e)
def noteE (e : Ent) (x : Nat → Nat) : Ent := if e.m = 0 then ⟨e.name, 1, x, fun _ => true, e.st⟩ else ⟨e.name, e.m + 1, e.a, fun j => e.b j && decide (e.a j = x j), e.st⟩
theorem noteE_name (e : Ent) (x : Nat → Nat) : (noteE e x).name = e.name := by unfold noteE; split <;> rfl
theorem noteE_st (e : Ent) (x : Nat → Nat) : (noteE e x).st = e.st := by unfold noteE; split <;> rfl
theorem noteE_m (e : Ent) (x : Nat → Nat) : (noteE e x).m = e.m + 1 := by
  unfold noteE; split
  · rename_i h; rw [h]
  · rfl
theorem note_spec (e : Ent) (nx : Nat) (hm : e.m ≤ 1000000) (x : Nat → Nat) :
    ECall Tryd.prog 24 [entP e, arrA x] ⟨[entB e], [], nx, 0⟩ fun _ h' => ∃ nx' nn', h' = ⟨[entB (noteE e x)], [], nx', nn'⟩ := by
  obtain ⟨nm, m, a, b, st⟩ := e
  dsimp only at hm
  cases m with
  | zero => exact note0_spec st nx a b x
  | succ n => exact noteS_spec st nx n (by omega) a b x
/-- What is gathered, without places. -/
structure Gat where
  name : ByteArray
  m : Nat
  a : Nat → Nat
  b : Nat → Bool
def gatE (e : Ent) : Gat := ⟨e.name, e.m, e.a, e.b⟩
def noteG (g : Gat) (x : Nat → Nat) : Gat := if g.m = 0 then ⟨g.name, 1, x, fun _ => true⟩ else ⟨g.name, g.m + 1, g.a, fun j => g.b j && decide (g.a j = x j)⟩
theorem gat_note (e : Ent) (x : Nat → Nat) : gatE (noteE e x) = noteG (gatE e) x := by
  unfold noteE noteG gatE; dsimp only; split <;> rfl
def addG (s : ByteArray) (x : Nat → Nat) : List Gat → List Gat
  | [] => [noteG ⟨s, 0, fun _ => 0, fun _ => false⟩ x]
  | g :: G => if kS s g.name then noteG g x :: G else g :: addG s x G
def gatStep (l : List TRow) (G : List Gat × Bool) (r : Rec) : List Gat × Bool :=
  if (ofI l r).name.size = 0 then G else (addG (ofI l r).name (argI (ofI l r).abi.toNat r) G.1, G.2 || decide ((ofI l r).abi = 1))
def gather (l : List TRow) (rs : List Rec) : List Gat × Bool := rs.foldl (gatStep l) ([], false)
theorem gather_next {l : List TRow} {rs : List Rec} {i : Nat} (h : i < rs.length) : gather l (rs.take (i + 1)) = gatStep l (gather l (rs.take i)) (rs.getD i rec0) := by
  unfold gather; rw [take_getD rec0 h, List.foldl_append]; rfl
theorem addG_none {s : ByteArray} {x : Nat → Nat} : ∀ {G : List Ent} {st : Nat}, (∀ e ∈ G, kS s e.name = false) → addG s x (G.map gatE) = (G ++ [noteE ⟨s, 0, fun _ => 0, fun _ => false, st⟩ x]).map gatE
  | [], st, _ => by
    show [noteG _ x] = [gatE (noteE _ x)]
    rw [gat_note]; rfl
  | e :: G, st, h => by
    show (if kS s e.name = true then _ else gatE e :: addG s x (G.map gatE)) = _
    rw [if_neg (by rw [h e (.head _)]; decide), addG_none (st := st) fun z hz => h z (.tail _ hz)]; rfl
theorem addG_at {s : ByteArray} {x : Nat → Nat} {e : Ent} (he : e.name = s) {G2 : List Ent} : ∀ {G1 : List Ent}, (∀ z ∈ G1, kS s z.name = false) → addG s x ((G1 ++ e :: G2).map gatE) = (G1 ++ noteE e x :: G2).map gatE
  | [], _ => by
    show (if kS s e.name = true then noteG (gatE e) x :: _ else _) = gatE (noteE e x) :: _
    rw [if_pos (kS_eq.2 he.symm), gat_note]
  | z :: G, h => by
    show (if kS s z.name = true then _ else gatE z :: addG s x ((G ++ e :: G2).map gatE)) = _
    rw [if_neg (by rw [h z (.head _)]; decide), addG_at he fun y hy => h y (.tail _ hy)]; rfl
end Go.Proofs.W

namespace Go.Proofs.W
open Go.Vl
set_option maxRecDepth 100000

def gatR (G : List Gat) : List (Value × AV) := G.map fun g => (Value.string g.name, .rp (seenC g.m g.a g.b))
theorem entR_gat (G : List Ent) : entR G = gatR (G.map gatE) := by
  unfold entR gatR; rw [List.map_map]; rfl
theorem size0 {s : ByteArray} : (s.toList == (⟨#[]⟩ : ByteArray).toList) = decide (s.size = 0) := by
  rw [Lib.toList_data, Lib.toList_data, Bool.eq_iff_iff, beq_iff_eq, decide_eq_true_iff]
  obtain ⟨⟨a⟩⟩ := s
  show a = [] ↔ a.length = 0
  exact List.length_eq_zero_iff.symm
theorem frz_gath (G : List Ent) (nx : Nat) : Frz ((((0, nx), Own.mp (entM G)) :: G.map entB).map fun p => (p.1.2, p.2)) (.om (0, nx)) (.fm (entR G)) := by
  refine Frz.om2 (.head _) (by simp [entR, entM]) fun k p p' h h' => ?_
  unfold entM at h
  unfold entR at h'
  rw [List.getElem?_map] at h h'
  obtain ⟨e, he, rfl⟩ := Option.map_eq_some_iff.1 h
  rw [he] at h'
  obtain rfl := Option.some.inj h'
  refine ⟨rfl, Frz.bp (cs := seenC e.m e.a e.b) ?_ rfl⟩
  rw [List.map_cons, List.map_map]
  exact .tail _ (List.mem_map.2 ⟨e, List.mem_of_getElem? he, rfl⟩)
theorem ofI_abi {l : List TRow} {r : Rec} (h : ¬ (ofI l r).name.size = 0) : (ofI l r).abi.toNat < 5 ∧ (ofI l r).abi = ((ofI l r).abi.toNat : Int) := by
  unfold ofI at h ⊢
  cases hs : selO r.arch r.num with
  | none => rw [hs] at h; exact absurd rfl h
  | some a =>
    have ha := selO_lt hs
    dsimp only
    split
    · exact ⟨by simpa using ha, by simp⟩
    · exact ⟨by simpa using ha, by simp⟩
theorem bx_snoc {i j : Vl.Id} {o o' : Own} (h : i.2 = j.2) (ho : OwnLe o o') : ∀ L : List (Vl.Id × Own), BxLe (L ++ [(i, o)]) (L ++ [(j, o')])
  | [] => ⟨h, ho, trivial⟩
  | p :: L => ⟨rfl, OwnLe.refl _, bx_snoc h ho L⟩
theorem bxE_none {G : List Ent} {s : ByteArray} {st : Nat} : BxLe (G.map entB ++ [((3, st), .c (seenC 0 (fun _ => 0) (fun _ => false)))]) ((G ++ [(⟨s, 0, fun _ => 0, fun _ => false, st⟩ : Ent)]).map entB) := by
  rw [List.map_append]
  exact bx_snoc (i := (3, st)) (j := (50, st)) rfl (OwnLe.refl _) _
theorem mpE_none {G : List Ent} {s : ByteArray} {st : Nat} (h : ∀ e ∈ G, kS s e.name = false) : OwnLe (.mp (aput (.string s) (.bp (3, st) 0) (entM G))) (.mp (entM (G ++ [(⟨s, 0, fun _ => 0, fun _ => false, st⟩ : Ent)]))) := by
  unfold entM
  rw [put_none (nm := Ent.name) (val := entP) h, List.map_append]
  exact MpLe.app2 (MpLe.refl _) ⟨rfl, AVle.bp_nm rfl, trivial⟩
theorem eff_note {ops : Array Oper} {B : List (Vl.Id × Own)} {o : Oper} {E : Env} {fo : Operand} {args : Array Operand} {tys : Array TypeId} {first caps : List AV} (nn : Nat) (bxs : List (Vl.Id × Own)) (G1 G2 : List Ent) (e : Ent) (x : Nat → Nat) (hm : e.m ≤ 1000000) (hB : HB B (bxs ++ (G1 ++ noteE e x :: G2).map entB))
    (hbx : E.h.bx = bxs ++ (G1 ++ e :: G2).map entB) (hg : o.guard = none)
    (ho : o.op = .call { callee := .value fo, args := args, argTypes := tys }) (hf : E.ev fo = .fn (.func 24) first caps) (hl' : LeL (first ++ args.toList.map E.ev ++ caps) [entP e, arrA x]) :
    Eff Tryd.prog ops B o E fun r h' => ∃ r0 nx', r = r0 ∧ h' = ⟨bxs ++ (G1 ++ noteE e x :: G2).map entB, E.h.pm, nx', nn⟩ :=
  eff_call hg ho hf ((ECall.frame (h := E.h) (note_spec e E.h.nx hm x) (bxs ++ (G1.map entB ++ G2.map entB)) E.h.pm (by
    rw [hbx, List.map_append, List.map_cons]
    refine List.Perm.trans ?_ (List.perm_middle (a := entB e) (l₁ := bxs) (l₂ := G1.map entB ++ G2.map entB))
    exact List.Perm.append_left _ List.perm_middle) (by simp) rfl).args hl') fun r h' hq => by
    obtain ⟨h1', ⟨nx', nn', rfl⟩, rfl⟩ := hq
    refine ⟨r, ⟨bxs ++ (G1 ++ noteE e x :: G2).map entB, E.h.pm, nx', nn⟩, AVle.refl _, ⟨?_, by simp, rfl⟩, ⟨r, nx', rfl, rfl⟩, hB⟩
    refine List.Perm.map _ ?_
    rw [List.map_append, List.map_cons]
    refine List.Perm.trans ?_ (List.perm_middle (a := entB (noteE e x)) (l₁ := bxs) (l₂ := G1.map entB ++ G2.map entB))
    exact List.Perm.append_left _ List.perm_middle
theorem noid_arr {x : Nat → Nat} : NoId (arrA x) := by unfold arrA; exact NoId.ag (by intro y hy; simp at hy; rcases hy with rfl | rfl | rfl | rfl | rfl | rfl <;> exact NoId.v _)
set_option maxHeartbeats 8000000 in
theorem gather_spec (l : List TRow) (rs : List Rec) (hl : l.length ≤ 1000000) (hr : ∀ r ∈ rs, r.ok) (hn : rs.length ≤ 100000) : Tells Tryd.prog 12 [trows l, recs rs] (.tup [.fm (gatR (gather l rs).1), boolA (gather l rs).2]) := by
  refine tells_of_aw Tryd.func12 rfl rfl fun nx => ?_
  (repeat((conv=>whnf);first|apply ω0|apply ω1|apply ω2|refine τ3 rfl ?_|refine τ4 rfl ?_|refine ⟨rfl,?_⟩|apply τa|refine τb rfl ?_|refine ⟨⟨by kernel_rfl,by kernel_rfl⟩,?_⟩|refine ⟨by decide,?_⟩|apply τt|apply τf))
  refine aw_loop (fun y : Nat × List Ent × Bool × Nat => mk 52 [(0, trows l), (6, .om (0, nx)), (7, boolA y.2.2.1), (12, recs rs), (13, int rs.length), (14, int y.1)] ⟨((0, nx), .mp (entM y.2.1)) :: y.2.1.map entB, [], y.2.2.2, 1⟩)
    (fun y => y.1 ≤ rs.length ∧ (y.2.1.map gatE, y.2.2.1) = gather l (rs.take y.1) ∧ ∀ e ∈ y.2.1, e.m ≤ y.1) (fun y => rs.length - y.1) ?_ ?_
  · exact ⟨(0, [], false, nx + 1), ⟨Nat.zero_le _, rfl, fun e he => by cases he⟩, ele_tell _ _ rfl rfl (List.Sublist.refl _) (List.Sublist.refl _) (BxLe.refl _) trivial ⟨AVle.refl _, AVle.refl _, AVle.refl _, AVle.refl _, AVle.refl _, AVle.refl _, trivial⟩⟩
  · rintro ⟨i, G, x, nx1⟩ ⟨h1, h2, h3⟩
    dsimp only at h1 h2 h3
    (repeat((conv=>whnf);first|apply ω0|apply ω1|apply ω2|refine τ3 rfl ?_|refine τ4 rfl ?_|refine ⟨rfl,?_⟩|apply τa|refine τb rfl ?_|refine ⟨⟨by kernel_rfl,by kernel_rfl⟩,?_⟩|refine ⟨by decide,?_⟩|apply τt|apply τf))
    intro c g; cases c
    · have g := not_of g
      try dsimp only at g
      have hi : i = rs.length := by omega
      subst hi
      rw [List.take_length] at h2
      rw [← h2]
      dsimp only
      rw [← entR_gat]
      (repeat((conv=>whnf);first|apply ω0|apply ω2|refine τ3 rfl ?_|refine τ4 rfl ?_|refine ⟨rfl,?_⟩|apply τa|refine τb rfl ?_|refine ⟨⟨by kernel_rfl,by kernel_rfl⟩,?_⟩|refine ⟨by decide,?_⟩|apply τt|apply τf))
      refine aw_freeze (n := 52) (nx := nx1) (nn := 1) (pm := []) (bx := []) (L := [(6, .fm (entR G)), (7, boolA x)]) (df := some []) (((0, nx), .mp (entM G)) :: G.map entB) rfl rfl rfl (by rw [List.append_nil]; exact List.Perm.refl _) (List.Sublist.refl _) ⟨frz_gath G nx, Frz.refl _, trivial⟩ ?_
      (repeat((conv=>whnf);first|apply ω0|apply ω1|apply ω2|refine τ3 rfl ?_|refine τ4 rfl ?_|refine ⟨rfl,?_⟩|apply τa|refine τb rfl ?_|refine ⟨⟨by kernel_rfl,by kernel_rfl⟩,?_⟩|refine ⟨by decide,?_⟩|apply τt|apply τf))
      exact ret_tells rfl (AVle.refl _)
    · have g := yes_of g
      try dsimp only at g
      have hi : i < rs.length := by omega
      have hok : (rs.getD i rec0).ok := hr _ (by simp [List.getD, hi])
      have hof := muxof_spec l (rs.getD i rec0) hok (by omega)
      have hgn := gather_next (l := l) hi
      rw [← h2] at hgn
      unfold gatStep at hgn
      (repeat((conv=>whnf);first|apply ω0|apply ω1|apply ω2|refine τ3 rfl ?_|refine τ4 rfl ?_|refine ⟨rfl,?_⟩|apply τa|refine τb rfl ?_|refine ⟨⟨by kernel_rfl,by kernel_rfl⟩,?_⟩|refine ⟨by decide,?_⟩|apply τt|apply τf))
      refine ⟨⟨by first | omega | (dsimp only; omega), by first | omega | (dsimp only; omega)⟩, ?_⟩
      (repeat((conv=>whnf);first|apply ω0|apply ω1|apply ω2|refine τ3 rfl ?_|refine τ4 rfl ?_|refine ⟨rfl,?_⟩|apply τa|refine τb rfl ?_|refine ⟨⟨by kernel_rfl,by kernel_rfl⟩,?_⟩|refine ⟨by decide,?_⟩|apply τt|apply τf))
      refine aop_tells rfl rfl hof ⟨AVle.refl _, AVle.refl _, trivial⟩ fun nx2 => ?_
      (repeat((conv=>whnf);first|apply ω0|apply ω1|apply ω2|refine τ3 rfl ?_|refine τ4 rfl ?_|refine ⟨rfl,?_⟩|apply τa|refine τb rfl ?_|refine ⟨⟨by kernel_rfl,by kernel_rfl⟩,?_⟩|refine ⟨by decide,?_⟩|apply τt|apply τf))
      intro c hc
      have hc2 : c = decide ((ofI l (rs.getD i rec0)).name.size = 0) := hc.trans size0
      clear hc
      by_cases hz : (ofI l (rs.getD i rec0)).name.size = 0
      · have hc3 : c = true := hc2.trans (decide_eq_true hz)
        clear hc2; subst hc3
        rw [if_pos hz] at hgn
        (repeat((conv=>whnf);first|apply ω0|apply ω1|apply ω2|refine τ3 rfl ?_|refine τ4 rfl ?_|refine ⟨rfl,?_⟩|apply τa|refine τb rfl ?_|refine ⟨⟨by kernel_rfl,by kernel_rfl⟩,?_⟩|refine ⟨by decide,?_⟩|apply τt|apply τf))
        exact back (i + 1, G, x, nx2 + 1) ⟨hi, hgn.symm, fun e he => Nat.le_succ_of_le (h3 e he)⟩ (by dsimp only; omega) (ele_tell _ _ rfl rfl (.cons _ (.cons _ (List.Sublist.refl _))) (List.Sublist.refl _) (BxLe.refl _) trivial ⟨AVle.refl _, AVle.refl _, AVle.refl _, AVle.refl _, AVle.refl _, le_int (wrap_succ (by first | omega | (dsimp only; omega))), trivial⟩)
      · have hc3 : c = false := hc2.trans (decide_eq_false hz)
        clear hc2; subst hc3
        rw [if_neg hz] at hgn
        obtain ⟨ha5, hab⟩ := ofI_abi hz
        have harg := abiargs_spec (ofI l (rs.getD i rec0)).abi.toNat ha5 (rs.getD i rec0) hok
        rw [← hab] at harg
        generalize argI (ofI l (rs.getD i rec0)).abi.toNat (rs.getD i rec0) = X at hgn harg
        generalize ofI l (rs.getD i rec0) = q at hgn harg hab
        (repeat((conv=>whnf);first|apply ω0|apply ω2|refine τ3 rfl ?_|refine τ4 rfl ?_|refine ⟨rfl,?_⟩|apply τa|refine τb rfl ?_|refine ⟨⟨by kernel_rfl,by kernel_rfl⟩,?_⟩|refine ⟨by decide,?_⟩|apply τt|apply τf))
        refine aw_mid2 (fun y : (List Ent × Ent × List Ent) × Nat => mk 52 [(0, trows l), (6, .om (0, nx)), (7, boolA x), (9, .bp (1, nx1) 0), (10, .bp (2, nx2) 0), (12, recs rs), (13, int rs.length), (14, int i)] ⟨((2, nx2), .c (callC q)) :: ((1, nx1), .c (recC (rs.getD i rec0))) :: ((0, nx), .mp (entM (y.1.1 ++ y.1.2.1 :: y.1.2.2))) :: (y.1.1 ++ y.1.2.1 :: y.1.2.2).map entB, [], y.2, 3⟩)
          (fun y => y.1.2.1.name = q.name ∧ (∀ z ∈ y.1.1, kS q.name z.name = false) ∧ addG q.name X (G.map gatE) = (y.1.1 ++ noteE y.1.2.1 X :: y.1.2.2).map gatE ∧ y.1.2.1.m ≤ i ∧ (∀ z ∈ y.1.1 ++ y.1.2.2, z.m ≤ i)) ?_ ?_
        · rcases nm_cases Ent.name q.name G with hno | ⟨G1, e, G2, hG, he, hno⟩
          · have hlk := look_none (val := entP) hno
            refine aw_region ?_
            (repeat((conv=>whnf);first|apply ω0|apply ω1|apply ω2|refine τ3 rfl ?_|refine τ4 rfl ?_|refine ⟨rfl,?_⟩|apply τa|refine τb rfl ?_|refine ⟨by decide,?_⟩|apply τt|apply τf))
            refine ⟨⟨rfl, nm_fit G⟩, splitO_eq (b := .v (.pointer none)) (congrArg (fun o : Option AV => o.getD (.v (.pointer none))) hlk) ?_⟩
            (repeat((conv=>whnf);first|apply ω0|apply ω1|apply ω2|refine τ3 rfl ?_|refine τ4 rfl ?_|refine ⟨rfl,?_⟩|apply τa|refine τb rfl ?_|refine ⟨by decide,?_⟩|apply τt|apply τf))
            refine ⟨⟨rfl, nm_fit G⟩, ?_⟩
            (repeat((conv=>whnf);first|apply ω0|apply ω1|apply ω2|refine τ3 rfl ?_|refine τ4 rfl ?_|refine ⟨rfl,?_⟩|apply τa|refine τb rfl ?_|refine ⟨by decide,?_⟩|apply τt|apply τf))
            refine forceM_intro ?_
            (repeat((conv=>whnf);first|apply ω0|apply ω1|apply ω2|refine τ3 rfl ?_|refine τ4 rfl ?_|refine ⟨rfl,?_⟩|apply τa|refine τb rfl ?_|refine ⟨by decide,?_⟩|apply τt|apply τf))
            (conv => whnf)
            refine ⟨((G, ⟨q.name, 0, fun _ => 0, fun _ => false, nx2 + 1⟩, []), nx2 + 1 + 1), ⟨rfl, hno, addG_none hno, Nat.zero_le _, fun z hz => h3 z (by simpa using hz)⟩, ?_⟩
            refine ele_tellP (pm := []) (((2, nx2), .c (callC q)) :: ((1, nx1), .c (recC (rs.getD i rec0))) :: ((0, nx), .mp (aput (.string q.name) (.bp (3, nx2 + 1) 0) (entM G))) :: (G.map entB ++ [((3, nx2 + 1), .c (seenC 0 (fun _ => 0) (fun _ => false)))])) _ [] rfl rfl ?_ (List.Sublist.refl _) (List.Sublist.refl _) ⟨rfl, OwnLe.refl _, rfl, OwnLe.refl _, rfl, mpE_none hno, bxE_none⟩ trivial ⟨AVle.refl _, AVle.refl _, AVle.refl _, AVle.refl _, AVle.refl _, AVle.refl _, AVle.refl _, AVle.refl _, trivial⟩
            show List.Perm _ (((3, nx2 + 1), _) :: _)
            show List.Perm _ (((3, nx2 + 1), Own.c [int 0, _, _, _, _, _, _, _, _, _, _, _, _]) :: _)
            show List.Perm _ (((3, nx2 + 1), Own.c (seenC 0 (fun _ => 0) (fun _ => false))) :: _)
            show List.Perm _ (((3, nx2 + 1), Own.c (seenC 0 (fun _ => 0) (fun _ => false))) :: ((2, nx2), Own.c (callC q)) :: _)
            show List.Perm _ (((3, nx2 + 1), Own.c (seenC 0 (fun _ => 0) (fun _ => false))) :: ((2, nx2), Own.c (callC q)) :: ((1, nx1), .c (recC (rs.getD i rec0))) :: _)
            show List.Perm _ (((3, nx2 + 1), Own.c (seenC 0 (fun _ => 0) (fun _ => false))) :: ((2, nx2), Own.c (callC q)) :: ((1, nx1), .c (recC (rs.getD i rec0))) :: ((0, nx), .mp (aput (.string q.name) (.bp (3, nx2 + 1) 0) (entM G))) :: _)
            exact List.perm_append_singleton ((3, nx2 + 1), _) (_ :: _ :: _ :: G.map entB)
          · subst hG
            have hlk := look_at (val := entP) he (G2 := G2) hno
            refine aw_region ?_
            (repeat((conv=>whnf);first|apply ω0|apply ω1|apply ω2|refine τ3 rfl ?_|refine τ4 rfl ?_|refine ⟨rfl,?_⟩|apply τa|refine τb rfl ?_|refine ⟨by decide,?_⟩|apply τt|apply τf))
            refine ⟨⟨rfl, nm_fit _⟩, splitO_eq (b := entP e) (congrArg (fun o : Option AV => o.getD (.v (.pointer none))) hlk) ?_⟩
            (repeat((conv=>whnf);first|apply ω0|apply ω1|apply ω2|refine τ3 rfl ?_|refine τ4 rfl ?_|refine ⟨rfl,?_⟩|apply τa|refine τb rfl ?_|refine ⟨by decide,?_⟩|apply τt|apply τf))
            exact ⟨((G1, e, G2), nx2 + 1), ⟨he, hno, addG_at he hno, h3 e (by simp), fun z hz => h3 z (by rcases List.mem_append.1 hz with h | h; exact List.mem_append_left _ h; exact List.mem_append_right _ (.tail _ h))⟩, ele_tell (pm := []) _ [] rfl rfl (List.Sublist.refl _) (List.Sublist.refl _) (BxLe.refl _) trivial ⟨AVle.refl _, AVle.refl _, AVle.refl _, AVle.refl _, AVle.refl _, AVle.refl _, AVle.refl _, AVle.refl _, trivial⟩⟩
        · rintro ⟨⟨G1, e, G2⟩, nx3⟩ ⟨k1, k2, k3, k4, k5⟩
          dsimp only at k1 k2 k3 k4 k5
          have hfin : ∀ z ∈ G1 ++ noteE e X :: G2, z.m ≤ i + 1 := fun z hz => by
            rcases List.mem_append.1 hz with hz | hz
            · exact Nat.le_succ_of_le (k5 z (List.mem_append_left _ hz))
            · rcases List.mem_cons.1 hz with rfl | hz
              · rw [noteE_m]; omega
              · exact Nat.le_succ_of_le (k5 z (List.mem_append_right _ hz))
          have hgm : entM (G1 ++ e :: G2) = entM (G1 ++ noteE e X :: G2) := by
            unfold entM; rw [List.map_append, List.map_append, List.map_cons, List.map_cons, noteE_name]; unfold entP; rw [noteE_st]
          rw [k3] at hgn
          dsimp only at hgn
          clear k5 k3 h3 h2
          cases x
          (repeat((conv=>whnf);first|apply ω0|apply ω1|apply ω2|refine τ3 rfl ?_|refine τ4 rfl ?_|refine ⟨rfl,?_⟩|apply τa|refine τb rfl ?_|refine ⟨by decide,?_⟩|apply τt|apply τf))
          · have hmem : alook (.string q.name) (entM (G1 ++ e :: G2)) = some (entP e) := look_at (val := entP) k1 k2
            have hB : ∀ L : List (Vl.Id × Own), HB [((2, nx2), .c (callC q)), ((1, nx1), .c (recC (rs.getD i rec0))), ((0, nx), .mp (entM (G1 ++ e :: G2)))] (((2, nx2), .c (callC q)) :: ((1, nx1), .c (recC (rs.getD i rec0))) :: ((0, nx), .mp (entM (G1 ++ e :: G2))) :: L) := fun L => HB.cons rfl (HB.cons rfl (HB.one rfl))
            refine aw_mixN 9 _ (fun i => match i with | 8 => true | _ => false) (fun i => match i with | 3 => true | 7 => true | _ => false) [0, 1, 2, 3, 4, 5, 6, 7, 8] (by kernel_rfl) (by kernel_rfl) (hB _) ?_
            (repeat((conv=>whnf);first|apply ω0|apply ω1|apply ω2|refine τ3 rfl ?_|refine τ4 rfl ?_|refine ⟨rfl,?_⟩|apply τa|refine τb rfl ?_|refine ⟨by decide,?_⟩|apply τt|apply τf))
            refine ⟨lookR (alook (.string q.name) (entM (G1 ++ e :: G2))) (.v (.pointer none)) false, pure_apure rfl (C := some (nx = nx ∧ keysFit .string (entM (G1 ++ e :: G2)) = true)) rfl ⟨rfl, nm_fit _⟩, splitV_to (b := entP e) (congrArg (fun o : Option AV => o.getD (.v (.pointer none))) hmem) ?_⟩
            (repeat((conv=>whnf);first|apply ω0|apply ω1|apply ω2|refine τ3 rfl ?_|refine τ4 rfl ?_|refine ⟨rfl,?_⟩|apply τa|refine τb rfl ?_|refine ⟨by decide,?_⟩|apply τt|apply τf))
            refine ⟨_, pure_tells rfl rfl rfl harg ⟨AVle.refl _, AVle.refl _, trivial⟩ noid_arr, ?_⟩
            (repeat((conv=>whnf);first|apply ω0|apply ω1|apply ω2|refine τ3 rfl ?_|refine τ4 rfl ?_|refine ⟨rfl,?_⟩|apply τa|refine τb rfl ?_|refine ⟨by decide,?_⟩|apply τt|apply τf))
            refine ⟨_, eff_note 3 [((2, nx2), .c (callC q)), ((1, nx1), .c (recC (rs.getD i rec0))), ((0, nx), .mp (entM (G1 ++ e :: G2)))] G1 G2 e X (by omega) (hB _) rfl rfl rfl rfl ⟨AVle.refl _, AVle.refl _, trivial⟩, fun r h' hr => ?_⟩
            obtain ⟨r0, nx', rfl, rfl⟩ := hr
            (repeat((conv=>whnf);first|apply ω0|apply ω1|apply ω2|refine τ3 rfl ?_|refine τ4 rfl ?_|refine ⟨rfl,?_⟩|apply τa|refine τb rfl ?_|refine ⟨by decide,?_⟩|apply τt|apply τf))
            refine splitO_eq (b := int q.abi) rfl ?_
            intro c hc
            have hc2 : c = decide (q.abi = 1) := hc
            clear hc
            (repeat((conv=>whnf);first|apply ω0|apply ω1|apply ω2|refine τ3 rfl ?_|refine τ4 rfl ?_|refine ⟨rfl,?_⟩|apply τa|refine τb rfl ?_|refine ⟨by decide,?_⟩|apply τt|apply τf))
            exact back (i + 1, G1 ++ noteE e X :: G2, c, nx' + 0) ⟨hi, by rw [hgn]; simp [hc2], hfin⟩ (by dsimp only; omega) (ele_tell _ _ rfl rfl (.cons _ (.cons _ (List.Sublist.refl _))) (List.Sublist.refl _) ⟨rfl, hgm ▸ OwnLe.refl _, BxLe.refl _⟩ trivial ⟨AVle.refl _, AVle.refl _, AVle.refl _, AVle.refl _, AVle.refl _, le_int (wrap_succ (by first | omega | (dsimp only; omega))), trivial⟩)
          · have hmem : alook (.string q.name) (entM (G1 ++ e :: G2)) = some (entP e) := look_at (val := entP) k1 k2
            have hB : ∀ L : List (Vl.Id × Own), HB [((2, nx2), .c (callC q)), ((1, nx1), .c (recC (rs.getD i rec0))), ((0, nx), .mp (entM (G1 ++ e :: G2)))] (((2, nx2), .c (callC q)) :: ((1, nx1), .c (recC (rs.getD i rec0))) :: ((0, nx), .mp (entM (G1 ++ e :: G2))) :: L) := fun L => HB.cons rfl (HB.cons rfl (HB.one rfl))
            (repeat((conv=>whnf);first|apply ω0|apply ω1|apply ω2|refine τ3 rfl ?_|refine τ4 rfl ?_|refine ⟨rfl,?_⟩|apply τa|refine τb rfl ?_|refine ⟨by decide,?_⟩|apply τt|apply τf))
            refine aw_mixN 9 _ (fun i => match i with | 8 => true | _ => false) (fun i => match i with | 3 => true | 7 => true | _ => false) [0, 1, 2, 3, 4, 5, 6, 7, 8] (by kernel_rfl) (by kernel_rfl) (hB _) ?_
            (repeat((conv=>whnf);first|apply ω0|apply ω1|apply ω2|refine τ3 rfl ?_|refine τ4 rfl ?_|refine ⟨rfl,?_⟩|apply τa|refine τb rfl ?_|refine ⟨by decide,?_⟩|apply τt|apply τf))
            refine ⟨lookR (alook (.string q.name) (entM (G1 ++ e :: G2))) (.v (.pointer none)) false, pure_apure rfl (C := some (nx = nx ∧ keysFit .string (entM (G1 ++ e :: G2)) = true)) rfl ⟨rfl, nm_fit _⟩, splitV_to (b := entP e) (congrArg (fun o : Option AV => o.getD (.v (.pointer none))) hmem) ?_⟩
            (repeat((conv=>whnf);first|apply ω0|apply ω1|apply ω2|refine τ3 rfl ?_|refine τ4 rfl ?_|refine ⟨rfl,?_⟩|apply τa|refine τb rfl ?_|refine ⟨by decide,?_⟩|apply τt|apply τf))
            refine ⟨_, pure_tells rfl rfl rfl harg ⟨AVle.refl _, AVle.refl _, trivial⟩ noid_arr, ?_⟩
            (repeat((conv=>whnf);first|apply ω0|apply ω1|apply ω2|refine τ3 rfl ?_|refine τ4 rfl ?_|refine ⟨rfl,?_⟩|apply τa|refine τb rfl ?_|refine ⟨by decide,?_⟩|apply τt|apply τf))
            refine ⟨_, eff_note 3 [((2, nx2), .c (callC q)), ((1, nx1), .c (recC (rs.getD i rec0))), ((0, nx), .mp (entM (G1 ++ e :: G2)))] G1 G2 e X (by omega) (hB _) rfl rfl rfl rfl ⟨AVle.refl _, AVle.refl _, trivial⟩, fun r h' hr => ?_⟩
            obtain ⟨r0, nx', rfl, rfl⟩ := hr
            (repeat((conv=>whnf);first|apply ω0|apply ω1|apply ω2|refine τ3 rfl ?_|refine τ4 rfl ?_|refine ⟨rfl,?_⟩|apply τa|refine τb rfl ?_|refine ⟨by decide,?_⟩|apply τt|apply τf))
            exact back (i + 1, G1 ++ noteE e X :: G2, true, nx' + 0) ⟨hi, by rw [hgn]; rfl, hfin⟩ (by dsimp only; omega) (ele_tell _ _ rfl rfl (.cons _ (.cons _ (List.Sublist.refl _))) (List.Sublist.refl _) ⟨rfl, hgm ▸ OwnLe.refl _, BxLe.refl _⟩ trivial ⟨AVle.refl _, AVle.refl _, AVle.refl _, AVle.refl _, AVle.refl _, le_int (wrap_succ (by first | omega | (dsimp only; omega))), trivial⟩)
end Go.Proofs.W

namespace Go.Proofs.W
open Go.Vl
set_option maxRecDepth 100000

theorem perm_part {seen : List Nat} {n : Nat} (hnd : seen.Nodup) (hlt : ∀ j ∈ seen, j < n) : ∃ post, (seen ++ post).Perm (List.range n) := by
  refine ⟨(List.range n).filter fun j => decide (j ∉ seen), ?_⟩
  refine (List.perm_ext_iff_of_nodup ?_ List.nodup_range).2 fun j => ?_
  · rw [List.nodup_append]
    refine ⟨hnd, List.nodup_range.filter _, fun a ha b hb hab => ?_⟩
    subst hab
    simp at hb
    exact hb.2 ha
  · simp only [List.mem_append, List.mem_filter, List.mem_range, decide_eq_true_eq]
    constructor
    · rintro (h | h)
      · exact hlt j h
      · exact h.1
    · intro h
      by_cases h1 : j ∈ seen
      · exact .inl h1
      · exact .inr ⟨h, h1⟩
theorem perm_len {seen : List Nat} {n : Nat} (hnd : seen.Nodup) (hlt : ∀ j ∈ seen, j < n) : seen.length ≤ n := by
  obtain ⟨post, h⟩ := perm_part hnd hlt
  have := h.length_eq
  simp at this
  omega
def keyAt (es : List (Value × AV)) (j : Nat) : Value := (es.getD j (.int .i64 0, .any)).1
theorem keyAt_some {es : List (Value × AV)} {k : Nat} {p : Value × AV} (h : es[k]? = some p) : keyAt es k = p.1 := by simp [keyAt, List.getD, h]
theorem keyAt_all (es : List (Value × AV)) : (List.range es.length).map (keyAt es) = es.map (·.1) := by
  refine List.ext_getElem (by simp) fun j h1 h2 => ?_
  have : j < es.length := by simpa using h1
  simp [keyAt, List.getD, this]
end Go.Proofs.W

namespace Go.Proofs
open Go.Shelf
shelf_lay_g SlLaysM.n6 Slgm 6 at Tryd 27 as Tryd.laysM6
end Go.Proofs
namespace Go.Proofs.W
open Go.Vl Go.Shelf
set_option maxRecDepth 100000

theorem keys_str (es : List (Value × AV)) (hky : ∀ p ∈ es, ∃ z, p.1 = .string z) : IterSet Tryd.prog 28 [] [.rp [.fm es]] (fun v : Value => [.v v]) (fun xs => xs.Perm (es.map (·.1))) := by
  intro i σ Cb Cp I J hc s0 nx nn h0
  refine ECall.wk (ecall_of_aw Tryd.func28 rfl rfl ?_)
  (repeat((conv=>whnf);first|apply ω0|apply ω2|refine τ3 rfl ?_|refine τ4 rfl ?_|refine ⟨rfl,?_⟩|apply τa|refine τb rfl ?_|refine ⟨⟨by kernel_rfl,by kernel_rfl⟩,?_⟩|refine ⟨by decide,?_⟩|apply τt|apply τf))
  refine aw_regionY (fun n => match n with | 0 => true | _ => false) 2 ?_
  (repeat((conv=>whnf);first|apply ω0|apply ω1|apply ω2|refine τ3 rfl ?_|refine τ4 rfl ?_|refine ⟨rfl,?_⟩|apply τa|refine τb rfl ?_|refine ⟨⟨by kernel_rfl,by kernel_rfl⟩,?_⟩|refine ⟨by decide,?_⟩|apply τt|apply τf))
  refine aop_rangeM rfl Tryd.underlying60 rfl ?_
  (repeat((conv=>whnf);first|apply ω0|apply ω1|apply ω2|refine τ3 rfl ?_|refine τ4 rfl ?_|refine ⟨rfl,?_⟩|apply τa|refine τb rfl ?_|refine ⟨⟨by kernel_rfl,by kernel_rfl⟩,?_⟩|refine ⟨by decide,?_⟩|apply τt|apply τf))
  refine aw_loop (fun y : List Nat × σ × Nat => mk 14 [(0, .yl i), (5, .bp (nn, nx) 0)] ⟨((nn, nx), .it es y.1) :: Cb y.2.1, Cp y.2.1, y.2.2, nn + 1⟩) (fun y => y.1.Nodup ∧ (∀ j ∈ y.1, j < es.length) ∧ I (y.1.map (keyAt es)) y.2.1) (fun y => es.length - y.1.length) ?_ ?_
  · exact ⟨([], s0, nx + 1), ⟨List.nodup_nil, (fun j (h : j ∈ []) => by cases h), h0⟩, ele_tell _ _ rfl rfl (List.Sublist.refl _) (List.Sublist.refl _) ⟨rfl, OwnLe.refl _, BxLe.refl _⟩ (PmEq.refl _) ⟨AVle.refl _, AVle.refl _, trivial⟩⟩
  · rintro ⟨seen, s, nx1⟩ ⟨h1, h2, h3⟩
    dsimp only at h1 h2 h3
    (repeat((conv=>whnf);first|apply ω0|apply ω2|refine τ3 rfl ?_|refine τ4 rfl ?_|refine ⟨rfl,?_⟩|apply τa|refine τb rfl ?_|refine ⟨⟨by kernel_rfl,by kernel_rfl⟩,?_⟩|refine ⟨by decide,?_⟩|apply τt|apply τf))
    refine aw_regionY (fun n => match n with | 0 => true | _ => false) 1 ?_
    refine aop_nextH (i := (nn, nx)) (es := es) (seen := seen) (R := Cb s) rfl rfl rfl (fun k p hk hn => ?_) (fun hall => ?_)
    · obtain ⟨z, hz⟩ := hky p (List.mem_of_getElem? hk)
      obtain ⟨key, val⟩ := p
      dsimp only at hz
      subst hz
      have hk2 : k < es.length := (List.getElem?_eq_some_iff.1 hk).1
      have hka : keyAt es k = .string z := keyAt_some hk
      obtain ⟨post, hperm⟩ := perm_left h1 h2 hk2 hn
      have hS : (seen.map (keyAt es) ++ (.string z) :: post.map (keyAt es)).Perm (es.map (·.1)) := by
        rw [← keyAt_all, ← hka]
        simpa using hperm.map (keyAt es)
      have hlen := hperm.length_eq
      have hnd : (seen ++ [k]).Nodup := by
        rw [List.nodup_append]
        exact ⟨h1, by simp, fun a ha b hb hab => by rw [List.mem_singleton] at hb; subst hb; subst hab; exact hn ha⟩
      have hlt : ∀ j ∈ seen ++ [k], j < es.length := fun j hj => by
        rcases List.mem_append.1 hj with h | h
        · exact h2 j h
        · rw [List.mem_singleton] at h; omega
      have hmk : (seen ++ [k]).map (keyAt es) = seen.map (keyAt es) ++ [.string z] := by rw [List.map_append, ← hka]; rfl
      have hlen2 : seen.length < es.length := by simp at hlen; omega
      (repeat((conv=>whnf);first|apply ω0|apply ω2|refine τ3 rfl ?_|refine τ4 rfl ?_|refine ⟨rfl,?_⟩|apply τa|refine τb rfl ?_|refine ⟨⟨by kernel_rfl,by kernel_rfl⟩,?_⟩|refine ⟨by decide,?_⟩|apply τt|apply τf))
      refine aw_regionY (fun n => match n with | 0 => true | _ => false) 1 ?_
      refine aop_entryH (i := (nn, nx)) (seen := seen) (k := k) (R := Cb s) rfl rfl rfl hk ?_
      (repeat((conv=>whnf);first|apply ω0|apply ω2|refine τ3 rfl ?_|refine τ4 rfl ?_|refine ⟨rfl,?_⟩|apply τa|refine τb rfl ?_|refine ⟨⟨by kernel_rfl,by kernel_rfl⟩,?_⟩|refine ⟨by decide,?_⟩|apply τt|apply τf))
      refine aw_regionY (fun n => match n with | 0 => true | _ => false) 3 ?_
      (repeat((conv=>whnf);first|apply ω0|apply ω1|apply ω2|refine τ3 rfl ?_|refine τ4 rfl ?_|refine ⟨rfl,?_⟩|apply τa|refine τb rfl ?_|refine ⟨⟨by kernel_rfl,by kernel_rfl⟩,?_⟩|refine ⟨by decide,?_⟩|apply τt|apply τf))
      refine aop_hand [((nn, nx), .it es (seen ++ [k]))] [] rfl rfl rfl (hc _ hS) rfl h3 ⟨AVle.refl _, trivial⟩ (fun s' nx' hI => ?_) (fun s' nx' hJ => ?_)
      · (repeat((conv=>whnf);first|apply ω0|apply ω1|apply ω2|refine τ3 rfl ?_|refine τ4 rfl ?_|refine ⟨rfl,?_⟩|apply τa|refine τb rfl ?_|refine ⟨⟨by kernel_rfl,by kernel_rfl⟩,?_⟩|refine ⟨by decide,?_⟩|apply τt|apply τf))
        exact back (seen ++ [k], s', nx') ⟨hnd, hlt, by dsimp only; rw [hmk]; exact hI⟩ (by simp; omega) (ele_tell _ _ rfl rfl (List.Sublist.refl _) (List.Sublist.refl _) (BxLe.refl _) (PmEq.refl _) ⟨AVle.refl _, AVle.refl _, trivial⟩)
      · (repeat((conv=>whnf);first|apply ω0|apply ω1|apply ω2|refine τ3 rfl ?_|refine τ4 rfl ?_|refine ⟨rfl,?_⟩|apply τa|refine τb rfl ?_|refine ⟨⟨by kernel_rfl,by kernel_rfl⟩,?_⟩|refine ⟨by decide,?_⟩|apply τt|apply τf))
        exact ret_is rfl ⟨_, ⟨Cb s', Cp s', nx', nn⟩, AVle.refl _, hle_tell _ _ rfl (.cons _ (List.Sublist.refl _)) (List.Sublist.refl _) (BxLe.refl _) (PmEq.refl _), _, s', hS, .inr ⟨_, _, _, rfl, hJ⟩, rfl, rfl⟩
    · (repeat((conv=>whnf);first|apply ω0|apply ω1|apply ω2|refine τ3 rfl ?_|refine τ4 rfl ?_|refine ⟨rfl,?_⟩|apply τa|refine τb rfl ?_|refine ⟨⟨by kernel_rfl,by kernel_rfl⟩,?_⟩|refine ⟨by decide,?_⟩|apply τt|apply τf))
      refine ret_is rfl ⟨_, ⟨Cb s, Cp s, nx1, nn⟩, AVle.refl _, hle_tell _ _ rfl (.cons _ (List.Sublist.refl _)) (List.Sublist.refl _) (BxLe.refl _) (PmEq.refl _), _, s, ?_, .inl h3, rfl, rfl⟩
      rw [← keyAt_all]
      exact (perm_full h1 h2 hall).map _
def rowV (l : List Value) (k : Nat) : AV := .v (l.getD k (.bool false))
theorem le_rowV {l : List Value} {x : Value} {f' : Nat → AV} {i : Option Vl.Id} (h : f' 0 = .v x) : AVle (.os 1 (l.length + 1) (appF l.length (rowV l) f') i) (.os 1 (l ++ [x]).length (rowV (l ++ [x])) i) := by
  rw [List.length_append]
  refine AVle.os_fun (appF_one (fun k hk => ?_) ?_)
  · simp [rowV, List.getD, List.getElem?_append_left hk, hk]
  · rw [h]; simp [rowV, List.getD]
theorem b_str : Tryd.prog.bytesOf 9 = 16 := by kernel_rfl
theorem mapsKeys_str (es : List (Value × AV)) : Tells Tryd.prog 14 [.fm es] (.fn (.func 28) [] [.rp [.fm es]]) := by
  refine tells_of_aw Tryd.func14 rfl rfl fun nx => ?_
  (repeat ((conv=>whnf);first|refine ω0 ?_|refine ω1 ?_|refine ω2 ?_|refine ω3 ?_|refine ω4 rfl ?_|refine ω5 rfl ?_|refine ω6 ?_|refine ω7 ?_|refine ⟨rfl,?_⟩|refine ⟨trivial,?_⟩|refine ⟨⟨rfl,Nat.le_of_ble_eq_true rfl⟩,?_⟩|refine ⟨⟨by kernel_rfl,by kernel_rfl⟩,?_⟩|refine ⟨by decide,?_⟩|refine lit_true ?_|refine lit_false ?_))
  refine AW.le (ele_freeze (L := [(2, .fn (.func 28) [] [.rp [.fm es]])]) (bx := []) (pm := []) (nn := 1) [((0, nx), .c [.fm es])] rfl rfl (List.Sublist.refl _) .slnil ⟨Frz.fn trivial ⟨Frz.bp (.head _) rfl, trivial⟩, trivial⟩) ?_
  (repeat((conv=>whnf);first|apply ω0|apply ω1|apply ω2|refine τ3 rfl ?_|refine τ4 rfl ?_|refine ⟨rfl,?_⟩|apply τa|refine τb rfl ?_|refine ⟨⟨by kernel_rfl,by kernel_rfl⟩,?_⟩|refine ⟨by decide,?_⟩|apply τt|apply τf))
  exact ret_tells rfl (AVle.refl _)
set_option maxHeartbeats 1000000 in
theorem appendSeq_str {it : FuncId} {es : List (Value × AV)} {S : List Value → Prop} (hit : IterSet Tryd.prog it [] [.rp [.fm es]] (fun v : Value => [.v v]) S) (hS : ∀ xs, S xs → xs.length ≤ 1000000 ∧ ∀ v ∈ xs, ∃ z, v = .string z) (nx : Nat) :
    ECall Tryd.prog 46 [.os 0 0 (fun _ => .any) none, .fn (.func it) [] [.rp [.fm es]]] ⟨[], [], nx, 0⟩ fun r h' => ∃ xs oi nx' nn', S xs ∧ (oi = none → xs = []) ∧ r = .os 1 xs.length (rowV xs) oi ∧ h' = ⟨[], pmOf oi (xs.length * 1), nx', nn'⟩ := by
  refine ECall.wk (ecall_of_aw Tryd.func46 rfl rfl ?_)
  (repeat((conv=>whnf);first|apply ω0|apply ω1|apply ω2|refine τ3 rfl ?_|refine τ4 rfl ?_|refine ⟨rfl,?_⟩|apply τa|refine τb rfl ?_|refine ⟨⟨by kernel_rfl,by kernel_rfl⟩,?_⟩|refine ⟨by decide,?_⟩|apply τt|apply τf))
  refine AW.le (E' := mk 13 [(2, .bp (0, nx) 0), (6, .fn (.func it) [] [.rp [.fm es]])] ⟨[((0, nx), .c [.os 1 0 (rowV []) none])], [], nx + 1, 1⟩) ?_ ?_
  · exact ele_tell _ _ rfl rfl (List.Sublist.refl _) .slnil ⟨rfl, ⟨AVle.os_nil, trivial⟩, trivial⟩ trivial ⟨AVle.refl _, AVle.refl _, trivial⟩
  refine aw_forS (σ := Nat × (Nat → AV) × Option Vl.Id) (α := Value) (e := fun v => [.v v]) (S := S) (first' := []) (caps' := [.rp [.fm es]]) (fun x => [((0, nx), .c [.os 1 x.1 x.2.1 x.2.2])]) (fun x => pmOf x.2.2 (x.1 * 1)) (fun pre x => x.1 = pre.length ∧ (∀ k, k < x.1 → x.2.1 k = rowV pre k) ∧ (x.2.2 = none → pre = [])) (0, rowV [], none) rfl rfl hit (LeL.refl _) (LeL.refl _) rfl rfl ⟨rfl, fun _ _ => rfl, fun _ => rfl⟩ (fun _ => rfl) ?_ ?_
  · rintro pre x post ⟨n, f, oi⟩ nx3 nn3 hx ⟨hp, hf, ho⟩
    dsimp only at hp hf ho
    subst hp
    obtain ⟨hlen, hty⟩ := hS _ hx
    obtain ⟨z, rfl⟩ := hty x (by simp)
    simp at hlen
    (repeat((conv=>whnf);first|apply ω0|apply ω2|refine τ3 rfl ?_|refine τ4 rfl ?_|refine ⟨rfl,?_⟩|apply τa|refine τb rfl ?_|refine ⟨⟨by kernel_rfl,by kernel_rfl⟩,?_⟩|refine ⟨by decide,?_⟩|apply τt|apply τf))
    refine aw_region ?_
    (repeat((conv=>whnf);first|apply ω0|apply ω2|refine τ3 rfl ?_|refine τ4 rfl ?_|refine ⟨rfl,?_⟩|apply τa|refine τb rfl ?_|refine ⟨⟨by kernel_rfl,by kernel_rfl⟩,?_⟩|refine ⟨by decide,?_⟩|apply τt|apply τf))
    refine aw_regionY (fun n => match n with | 0 => true | _ => false) 4 ?_
    (repeat((conv=>whnf);first|apply ω0|apply ω1|apply ω2|refine τ3 rfl ?_|refine τ4 rfl ?_|refine ⟨rfl,?_⟩|apply τa|refine τb rfl ?_|refine ⟨⟨by kernel_rfl,by kernel_rfl⟩,?_⟩|refine ⟨by decide,?_⟩|apply τt|apply τf))
    refine aop_append1 (e := 9) (c := 1) (pm := []) (n := pre.length) (oi := oi) (sz := 1) (f := f) rfl rfl (.inr ⟨_, rfl⟩) (by kernel_rfl) (by kernel_rfl) (by kernel_rfl) (.inr rfl) (by kernel_rfl) (List.append_nil _).symm (oneRow_one rfl) (by rw [b_str]; omega) (by omega) ?_
    (repeat((conv=>whnf);first|apply ω0|apply ω1|apply ω2|refine τ3 rfl ?_|refine τ4 rfl ?_|refine ⟨rfl,?_⟩|apply τa|refine τb rfl ?_|refine ⟨⟨by kernel_rfl,by kernel_rfl⟩,?_⟩|refine ⟨by decide,?_⟩|apply τt|apply τf))
    refine ⟨(pre.length + 1, _, some (nn3, nx3)), .inl ⟨rfl, by simp, fun k hk => ?_, fun h => by cases h⟩, rfl, rfl⟩
    refine appF_one (fun k hk => ?_) ?_ k hk
    · rw [hf k hk]; simp [rowV, List.getD, List.getElem?_append_left hk, hk]
    · simp [rowV, List.getD]; rfl
  · rintro xs ⟨n, f, oi⟩ nx3 nn3 hx ⟨hp, hf, ho⟩
    dsimp only at hp hf ho
    subst hp
    (repeat((conv=>whnf);first|apply ω0|apply ω1|apply ω2|refine τ3 rfl ?_|refine τ4 rfl ?_|refine ⟨rfl,?_⟩|apply τa|refine τb rfl ?_|refine ⟨⟨by kernel_rfl,by kernel_rfl⟩,?_⟩|refine ⟨by decide,?_⟩|apply τt|apply τf))
    refine ret_is rfl ⟨.os 1 xs.length (rowV xs) oi, ⟨[], pmOf oi (xs.length * 1), nx3, 0⟩, AVle.os_fun hf, ?_, xs, oi, nx3, 0, hx, ho, rfl, rfl⟩
    exact hle_tell [] _ rfl (List.nil_sublist _) (List.Sublist.refl _) trivial (PmEq.refl _)
theorem collect_str (es : List (Value × AV)) (hl : es.length ≤ 1000000) (hky : ∀ p ∈ es, ∃ z, p.1 = .string z) (nx : Nat) :
    ECall Tryd.prog 26 [.fn (.func 28) [] [.rp [.fm es]]] ⟨[], [], nx, 0⟩ (thawQ (fun n f => ∃ xs : List Value, xs.Perm (es.map (·.1)) ∧ n = xs.length ∧ ∀ k, k < n → f k = rowV xs k) 1) := by
  refine ecall_thaw (by decide) (fun n f ⟨xs, _, _, hf⟩ k hk c hc => ?_) ?_
  · rw [hf k hk] at hc
    obtain rfl : c = rowV xs k := by simpa [rowV, AV.cells] using hc
    exact Flat.v _
  refine ECall.wk (ecall_of_aw Tryd.func26 rfl rfl ?_)
  (repeat((conv=>whnf);first|apply ω0|apply ω1|apply ω2|refine τ3 rfl ?_|refine τ4 rfl ?_|refine ⟨rfl,?_⟩|apply τa|refine τb rfl ?_|refine ⟨⟨by kernel_rfl,by kernel_rfl⟩,?_⟩|refine ⟨by decide,?_⟩|apply τt|apply τf))
  refine aop_call rfl rfl (ECall.args (bs := [.os 0 0 (fun _ => .any) none, .fn (.func 28) [] [.rp [.fm es]]]) ⟨AVle.refl _, AVle.refl _, trivial⟩ (appendSeq_str (keys_str es hky) (fun xs hx => ⟨by have := hx.length_eq; simp at this; omega, fun v hv => ?_⟩) nx)) fun r h' hq => ?_
  · obtain ⟨p, hp, rfl⟩ := List.mem_map.1 (hx.mem_iff.1 hv)
    exact hky p hp
  obtain ⟨xs, oi, nx', nn', hS, ho, rfl, rfl⟩ := hq
  refine Named.same ?_
  (repeat((conv=>whnf);first|apply ω0|apply ω1|apply ω2|refine τ3 rfl ?_|refine τ4 rfl ?_|refine ⟨rfl,?_⟩|apply τa|refine τb rfl ?_|refine ⟨⟨by kernel_rfl,by kernel_rfl⟩,?_⟩|refine ⟨by decide,?_⟩|apply τt|apply τf))
  exact ret_is rfl ⟨_, _, AVle.refl _, HLe.refl _, xs.length, rowV xs, oi, nx', _, ⟨xs, hS, rfl, fun _ _ => rfl⟩, (fun h => by rw [ho h]; rfl), rfl, rfl⟩
def eA_str (z : List UInt8) : AV := .v (encStr z)
def rowH_str (s : Nat) (d : Array (List UInt8)) (tl : List AV) : List (Vl.Id × Own) := [((0, s), .c (rowG eA_str d tl))]
theorem sort_str_eqK (l : List (List UInt8)) : l.mergeSort (fun x y => decide (x ≤ y)) = sortBy Go.Sort.ltStr l := by
  unfold sortBy
  congr 1
  funext x y
  simp only [Go.Sort.ltStr]
  by_cases h : x ≤ y
  · rw [decide_eq_true h, decide_eq_false (List.not_lt.2 h)]; rfl
  · rw [decide_eq_false h, decide_eq_true (List.not_le.1 h)]; rfl
theorem ltStr_tot : ∀ x y : List UInt8, Go.Sort.ltStr x y = false → Go.Sort.ltStr y x = false → x = y := fun x y h1 h2 => by
  simp only [Go.Sort.ltStr, decide_eq_false_iff_not, List.not_lt] at h1 h2
  exact List.le_antisymm h2 h1
theorem sortS_str (d0 : Array (List UInt8)) (tl : List AV) (n : Nat) (hn : d0.size = n) (hsz : n ≤ 1000000) (s cap nx : Nat) :
    ECall Tryd.prog 27 [.hs (0, s) 0 n cap] ⟨rowH_str s d0 tl, [], nx, 1⟩ (fun r h' => ∃ nx' nn', h' = ⟨rowH_str s (sortBy Go.Sort.ltStr d0.toList).toArray tl, [], nx', nn'⟩) := by
  subst hn
  have h := ecall_sort1 (P := Tryd.prog) (enc := encStr) (d := d0) (d' := (sortBy Go.Sort.ltStr d0.toList).toArray) (tl := tl) (nm := 0) (s := s) (cap := cap) (nx := nx) (nn := 1) (f := 27) ⟨_, Tryd.func27, rfl, rfl⟩ (by simp [sortBy_length]) (fun w blk hH hb => by
    have k := AnyM.slices_Sort_string Tryd.laysM6 blk 0 cap d0.toList w hH hb (by simp; omega)
    rw [sort_str_eqK] at k
    exact k)
  exact h.mono fun r h' ⟨_, h2⟩ => ⟨nx, 1, h2⟩
theorem sort0_str (F : Nat → AV) : Tells Tryd.prog 27 [.os 1 0 F none] (.tup []) :=
  ecall_sort0 (nx := 0) ⟨_, Tryd.func27, rfl, rfl⟩ fun p cap w => AnyM.slices_Sort_string_none Tryd.laysM6 p cap w
def dec_str : Value → List UInt8
  | .string z => z.data.toList
  | _ => []
theorem sorted_str (es : List (Value × AV)) (zs : List (List UInt8)) (hz : es.map (·.1) = zs.map encStr) (hl : es.length ≤ 1000000) :
    Tells Tryd.prog 13 [.fn (.func 28) [] [.rp [.fm es]]] (slOf 1 eA_str [] (sortBy Go.Sort.ltStr zs)) := by
  have hky : ∀ p ∈ es, ∃ z, p.1 = encStr z := fun p hp => by
    have : p.1 ∈ zs.map encStr := hz ▸ List.mem_map_of_mem hp
    obtain ⟨z, _, h⟩ := List.mem_map.1 this
    exact ⟨z, h.symm⟩
  refine tells_of_aw Tryd.func13 rfl rfl fun nx => ?_
  (repeat((conv=>whnf);first|apply ω0|apply ω1|apply ω2|refine τ3 rfl ?_|refine τ4 rfl ?_|refine ⟨rfl,?_⟩|apply τa|refine τb rfl ?_|refine ⟨⟨by kernel_rfl,by kernel_rfl⟩,?_⟩|refine ⟨by decide,?_⟩|apply τt|apply τf))
  refine aop_call rfl rfl (collect_str es hl (fun p hp => let ⟨z, h⟩ := hky p hp; ⟨⟨z.toArray⟩, h⟩) nx) fun r h' hq => ?_
  obtain ⟨n, f, ⟨xs, hxp, hxn, hxf⟩, hq⟩ := hq
  obtain ⟨ys, rfl⟩ : ∃ ys : List (List UInt8), xs = ys.map encStr := by
    have hall : ∀ v ∈ xs, ∃ z, v = encStr z := fun v hv => by
      have hv2 := hxp.mem_iff.1 hv
      rw [hz] at hv2
      obtain ⟨z, _, h⟩ := List.mem_map.1 hv2
      exact ⟨z, h.symm⟩
    clear hxp hxn hxf hq
    induction xs with
    | nil => exact ⟨[], rfl⟩
    | cons x xs ih =>
      obtain ⟨z, rfl⟩ := hall x (by simp)
      obtain ⟨ys, rfl⟩ := ih fun v hv => hall v (by simp [hv])
      exact ⟨z :: ys, rfl⟩
  have hperm : ys.Perm zs := by
    rw [hz] at hxp
    have h2 := hxp.map dec_str
    rwa [List.map_map, List.map_map, show (dec_str ∘ encStr) = id from rfl, List.map_id, List.map_id] at h2
  have hsz : n ≤ 1000000 := by
    have := hxp.length_eq
    simp at this
    rw [hxn]; simp; omega
  rcases hq with ⟨rfl, hb, hp, rfl⟩ | ⟨s, cap, more, nx', nn', hcap, hmore, rfl, rfl⟩
  · have hys : ys = [] := by cases ys with | nil => rfl | cons y ys => simp at hxn
    subst hys
    have hzs : zs = [] := hperm.symm.eq_nil
    subst hzs
    rw [show sortBy Go.Sort.ltStr ([] : List (List UInt8)) = [] from List.eq_nil_of_length_eq_zero sortBy_length]
    obtain ⟨bx, pm, nxx, nnn⟩ := h'
    dsimp only at hb hp
    subst hb; subst hp
    refine Named.same ?_
    (repeat((conv=>whnf);first|apply ω0|apply ω1|apply ω2|refine τ3 rfl ?_|refine τ4 rfl ?_|refine ⟨rfl,?_⟩|apply τa|refine τb rfl ?_|refine ⟨⟨by kernel_rfl,by kernel_rfl⟩,?_⟩|refine ⟨by decide,?_⟩|apply τt|apply τf))
    refine aop_tells rfl rfl (sort0_str f) ⟨AVle.refl _, trivial⟩ fun nx2 => ?_
    (repeat((conv=>whnf);first|apply ω0|apply ω1|apply ω2|refine τ3 rfl ?_|refine τ4 rfl ?_|refine ⟨rfl,?_⟩|apply τa|refine τb rfl ?_|refine ⟨⟨by kernel_rfl,by kernel_rfl⟩,?_⟩|refine ⟨by decide,?_⟩|apply τt|apply τf))
    exact ret_tells rfl AVle.os_sl0
  · refine Named.same ?_
    have hcells : rowCells n f = ys.toArray.toList.map eA_str := by
      have key : ∀ m, m ≤ n → rowCells m f = (ys.take m).map eA_str := by
        intro m
        induction m with
        | zero => intro _; rfl
        | succ m ih =>
          intro hm
          have hm' : m < ys.length := by simp at hxn; omega
          have e : rowCells (m + 1) f = rowCells m f ++ (f m).cells := by unfold rowCells; rw [List.range_succ, List.flatMap_append]; simp
          rw [e, ih (by omega), hxf m (by omega), List.take_add_one, List.map_append]
          simp [rowV, List.getD, hm', AV.cells, eA_str]
      rw [key n (Nat.le_refl _), List.take_of_length_le (by simp at hxn; omega)]
    have hnn : ys.toArray.size = n := by simp at hxn; simp [hxn]
    rw [hcells]
    (repeat((conv=>whnf);first|apply ω0|apply ω2|refine τ3 rfl ?_|refine τ4 rfl ?_|refine ⟨rfl,?_⟩|apply τa|refine τb rfl ?_|refine ⟨⟨by kernel_rfl,by kernel_rfl⟩,?_⟩|refine ⟨by decide,?_⟩|apply τt|apply τf))
    refine AW.le (E' := mk 9 [(3, .hs (0, s) 0 n cap)] ⟨rowH_str s ys.toArray (List.replicate more .any), [], nx', 1⟩) (ele_tell _ _ rfl rfl (List.Sublist.refl _) .slnil (BxLe.refl _) trivial ⟨AVle.refl _, trivial⟩) ?_
    (repeat((conv=>whnf);first|apply ω0|apply ω1|apply ω2|refine τ3 rfl ?_|refine τ4 rfl ?_|refine ⟨rfl,?_⟩|apply τa|refine τb rfl ?_|refine ⟨⟨by kernel_rfl,by kernel_rfl⟩,?_⟩|refine ⟨by decide,?_⟩|apply τt|apply τf))
    refine aop_callF (xs := [.hs (0, s) 0 n cap]) [] [] 1 rfl rfl rfl rfl ⟨AVle.refl _, trivial⟩ (sortS_str ys.toArray _ n hnn hsz s cap _) (BxLe.refl _) (PmEq.refl _) rfl fun r h' hq => ?_
    obtain ⟨nx2, nn2, rfl⟩ := hq
    have hd : (sortBy Go.Sort.ltStr ys.toArray.toList).toArray.toList = sortBy Go.Sort.ltStr zs := by
      show sortBy Go.Sort.ltStr ys = _
      exact sortBy_of_perm Go.Sort.swo_ltStr ltStr_tot hperm
    generalize (sortBy Go.Sort.ltStr ys.toArray.toList).toArray = d' at hd ⊢
    have hdn : d'.size = n := by
      rw [← Array.length_toList, hd, sortBy_length, ← hperm.length_eq]
      simpa using hnn
    have hln : (sortBy Go.Sort.ltStr zs).length = n := by rw [← hd]; simpa using hdn
    (repeat((conv=>whnf);first|apply ω0|apply ω2|refine τ3 rfl ?_|refine τ4 rfl ?_|refine ⟨rfl,?_⟩|apply τa|refine τb rfl ?_|refine ⟨⟨by kernel_rfl,by kernel_rfl⟩,?_⟩|refine ⟨by decide,?_⟩|apply τt|apply τf))
    refine AW.le (ele_freeze (L := [(3, slOf 1 eA_str [] (sortBy Go.Sort.ltStr zs))]) (bx := []) (pm := []) (nn := 1) [((0, s), .c (rowG eA_str d' (List.replicate more .any)))] rfl rfl (List.Sublist.refl _) .slnil ⟨?_, trivial⟩) ?_
    · unfold slOf
      rw [hln]
      refine Frz.hs1 (.head _) hcap (by rw [rowG_len]; omega) (fun k _ => rfl) (fun k hk => ?_)
      unfold rowG
      rw [List.getElem?_append_left (by simpa [hdn] using hk), List.getElem?_map, ← hd]
      have : k < d'.size := by omega
      simp [List.getD, this]
    · (repeat((conv=>whnf);first|apply ω0|apply ω1|apply ω2|refine τ3 rfl ?_|refine τ4 rfl ?_|refine ⟨rfl,?_⟩|apply τa|refine τb rfl ?_|refine ⟨⟨by kernel_rfl,by kernel_rfl⟩,?_⟩|refine ⟨by decide,?_⟩|apply τt|apply τf))
      exact ret_tells rfl (AVle.refl _)
end Go.Proofs.W

namespace Go.Proofs.W
open Go.Vl
set_option maxRecDepth 100000

abbrev Seen := List (Int × Int)
def numsR (r : TRow) (S : Seen) : Nat → Option Seen
  | 0 => some S
  | k + 1 => match numsR r S k with
    | none => none
    | some S => if r.num k = -1 then some S else if ((k : Int), r.num k) ∈ S then none else some (S ++ [((k : Int), r.num k)])
def muxR (r : TRow) (S : Seen) : Option Seen := if r.mux = 0 then some S else if (5 + r.mux, r.sub) ∈ S then none else some (S ++ [(5 + r.mux, r.sub)])
def leB (s t : ByteArray) : Bool := Op.bytesLess s.toList t.toList || s.toList == t.toList
def rowE (l : List TRow) (i : Nat) (S : Seen) : Except Int Seen :=
  if nameB (l.getD i trow0).name.data.toList = false then .error 13
  else if 0 < i ∧ leB (l.getD i trow0).name (l.getD (i - 1) trow0).name = true then .error 15
  else if rangedR (l.getD i trow0) = false then .error 16
  else if (l.getD i trow0).a2 = 102 ∨ (l.getD i trow0).a2 = 117 then .error 17
  else match numsR (l.getD i trow0) S 5 with
    | none => .error 15
    | some S => match muxR (l.getD i trow0) S with
      | none => .error 15
      | some S => .ok S
def rowsS (l : List TRow) : Nat → Except (Nat × Int) Seen
  | 0 => .ok []
  | k + 1 => match rowsS l k with
    | .error e => .error e
    | .ok S => match rowE l k S with
      | .error e => .error (k, e)
      | .ok S => .ok S
def tabR (l : List TRow) : Int × Int := if 400 < l.length then (0, 3) else match rowsS l l.length with
  | .error e => ((e.1 : Int), e.2)
  | .ok _ => (0, 0)
theorem rowsS_err {l : List TRow} {k : Nat} {e : Nat × Int} (h : rowsS l k = .error e) : ∀ {m : Nat}, k ≤ m → rowsS l m = .error e := by
  intro m hm
  induction m with
  | zero => obtain rfl : k = 0 := by omega
            exact h
  | succ m ih =>
    rcases Nat.lt_or_ge m k with q | q
    · rw [show m + 1 = k by omega]; exact h
    · unfold rowsS; rw [ih q]
theorem tab_err {l : List TRow} {i : Nat} {S : Seen} {e : Int} (hl : ¬ 400 < l.length) (hi : i < l.length) (h : rowsS l i = .ok S) (he : rowE l i S = .error e) : tabR l = ((i : Int), e) := by
  have h1 : rowsS l (i + 1) = .error (i, e) := by unfold rowsS; rw [h]; dsimp only; rw [he]
  unfold tabR
  rw [if_neg hl, rowsS_err h1 hi]
theorem tab_ok {l : List TRow} {S : Seen} (hl : ¬ 400 < l.length) (h : rowsS l l.length = .ok S) : tabR l = (0, 0) := by
  unfold tabR
  rw [if_neg hl, h]
theorem rows_next {l : List TRow} {i : Nat} {S S' : Seen} (h : rowsS l i = .ok S) (he : rowE l i S = .ok S') : rowsS l (i + 1) = .ok S' := by
  unfold rowsS; rw [h]; dsimp only; rw [he]
theorem nums_skip {r : TRow} {S S' : Seen} {k : Nat} (h : numsR r S k = some S') (hn : r.num k = -1) : numsR r S (k + 1) = some S' := by
  unfold numsR; rw [h]; dsimp only; rw [if_pos hn]
theorem nums_in {r : TRow} {S S' : Seen} {k : Nat} (h : numsR r S k = some S') (hn : ¬ r.num k = -1) (hm : ((k : Int), r.num k) ∈ S') : numsR r S (k + 1) = none := by
  unfold numsR; rw [h]; dsimp only; rw [if_neg hn, if_pos hm]
theorem nums_new {r : TRow} {S S' : Seen} {k : Nat} (h : numsR r S k = some S') (hn : ¬ r.num k = -1) (hm : ¬ ((k : Int), r.num k) ∈ S') : numsR r S (k + 1) = some (addA ((k : Int), r.num k) S') := by
  unfold numsR addA; rw [h]; dsimp only; rw [if_neg hn, if_neg hm, if_neg hm]
theorem nums_none {r : TRow} {S : Seen} {k : Nat} (h : numsR r S k = none) : ∀ {m : Nat}, k ≤ m → numsR r S m = none := by
  intro m hm
  induction m with
  | zero => obtain rfl : k = 0 := by omega
            exact h
  | succ m ih =>
    rcases Nat.lt_or_ge m k with q | q
    · rw [show m + 1 = k by omega]; exact h
    · unfold numsR; rw [ih q]
def ordB (l : List TRow) (i : Nat) : Bool := decide (0 < i) && leB (l.getD i trow0).name (l.getD (i - 1) trow0).name
theorem ord_iff {l : List TRow} {i : Nat} : ordB l i = true ↔ 0 < i ∧ leB (l.getD i trow0).name (l.getD (i - 1) trow0).name = true := by unfold ordB; simp
theorem rowE_13 {l : List TRow} {i : Nat} {S : Seen} (h : nameB (l.getD i trow0).name.data.toList = false) : rowE l i S = .error 13 := if_pos h
theorem rowE_15 {l : List TRow} {i : Nat} {S : Seen} (h : nameB (l.getD i trow0).name.data.toList = true) (h2 : ordB l i = true) : rowE l i S = .error 15 := by
  unfold rowE; rw [if_neg (by rw [h]; decide), if_pos (ord_iff.1 h2)]
theorem rowE_16 {l : List TRow} {i : Nat} {S : Seen} (h : nameB (l.getD i trow0).name.data.toList = true) (h2 : ordB l i = false) (h3 : rangedR (l.getD i trow0) = false) : rowE l i S = .error 16 := by
  unfold rowE; rw [if_neg (by rw [h]; decide), if_neg (by rw [← ord_iff, h2]; decide), if_pos h3]
theorem rowE_17 {l : List TRow} {i : Nat} {S : Seen} (h : nameB (l.getD i trow0).name.data.toList = true) (h2 : ordB l i = false) (h3 : rangedR (l.getD i trow0) = true) (h4 : (l.getD i trow0).a2 = 102 ∨ (l.getD i trow0).a2 = 117) : rowE l i S = .error 17 := by
  unfold rowE; rw [if_neg (by rw [h]; decide), if_neg (by rw [← ord_iff, h2]; decide), if_neg (by rw [h3]; decide), if_pos h4]
theorem rowE_rest {l : List TRow} {i : Nat} {S : Seen} (h : nameB (l.getD i trow0).name.data.toList = true) (h2 : ordB l i = false) (h3 : rangedR (l.getD i trow0) = true) (h4 : ¬ ((l.getD i trow0).a2 = 102 ∨ (l.getD i trow0).a2 = 117)) : rowE l i S = match numsR (l.getD i trow0) S 5 with
    | none => .error 15
    | some S => match muxR (l.getD i trow0) S with
      | none => .error 15
      | some S => .ok S := by
  unfold rowE; rw [if_neg (by rw [h]; decide), if_neg (by rw [← ord_iff, h2]; decide), if_neg (by rw [h3]; decide), if_neg h4]
theorem ranged_mux {r : TRow} (h : rangedR r = true) (h0 : ¬ r.mux = 0) : r.mux = 1 ∨ r.mux = 2 := by
  unfold rangedR at h
  rw [if_neg h0] at h
  simp only [Bool.and_eq_true, Bool.or_eq_true, decide_eq_true_eq] at h
  exact h.2.1.1
set_option maxHeartbeats 4000000 in
theorem tabright_spec (l : List TRow) (hl : l.length ≤ 1000000) (hn : ∀ r ∈ l, r.name.size ≤ maxLen) : Tells Tryd.prog 10 [trows l] (.tup [int (tabR l).1, int (tabR l).2]) := by
  refine tells_of_aw Tryd.func10 rfl rfl fun nx => ?_
  (repeat((conv=>whnf);first|apply ω0|apply ω1|apply ω2|refine τ3 rfl ?_|refine τ4 rfl ?_|refine ⟨rfl,?_⟩|apply τa|refine τb rfl ?_|refine ⟨⟨by kernel_rfl,by kernel_rfl⟩,?_⟩|refine ⟨by decide,?_⟩|apply τt|apply τf))
  intro c g4; cases c
  rotate_left
  · have g4 : 400 < l.length := by have := yes_of g4; omega
    have e : tabR l = (0, 3) := by unfold tabR; rw [if_pos g4]
    rw [e]
    (repeat((conv=>whnf);first|apply ω0|apply ω1|apply ω2|refine τ3 rfl ?_|refine τ4 rfl ?_|refine ⟨rfl,?_⟩|apply τa|refine τb rfl ?_|refine ⟨⟨by kernel_rfl,by kernel_rfl⟩,?_⟩|refine ⟨by decide,?_⟩|apply τt|apply τf))
    exact ret_tells rfl (AVle.refl _)
  have g4 : ¬ 400 < l.length := by have := not_of g4; omega
  (repeat((conv=>whnf);first|apply ω0|apply ω1|apply ω2|refine τ3 rfl ?_|refine τ4 rfl ?_|refine ⟨rfl,?_⟩|apply τa|refine τb rfl ?_|refine ⟨⟨by kernel_rfl,by kernel_rfl⟩,?_⟩|refine ⟨by decide,?_⟩|apply τt|apply τf))
  refine aw_loop (fun y : Nat × Seen × Nat => mk 88 [(0, trows l), (2, int 0), (3, int 0), (4, .om (0, nx)), (14, trows l), (15, int l.length), (16, int y.1)] ⟨[((0, nx), .mp (y.2.1.map entA))], [], y.2.2, 1⟩) (fun y => y.1 ≤ l.length ∧ rowsS l y.1 = .ok y.2.1) (fun y => l.length - y.1) ?_ ?_
  · exact ⟨(0, [], nx + 1), ⟨Nat.zero_le _, rfl⟩, ele_tell _ _ rfl rfl (List.Sublist.refl _) (List.Sublist.refl _) (BxLe.refl _) trivial ⟨AVle.refl _, AVle.refl _, AVle.refl _, AVle.refl _, AVle.refl _, AVle.refl _, AVle.refl _, trivial⟩⟩
  · rintro ⟨i, S, nx1⟩ ⟨h1, h2⟩
    dsimp only at h1 h2
    (repeat((conv=>whnf);first|apply ω0|apply ω1|apply ω2|refine τ3 rfl ?_|refine τ4 rfl ?_|refine ⟨rfl,?_⟩|apply τa|refine τb rfl ?_|refine ⟨⟨by kernel_rfl,by kernel_rfl⟩,?_⟩|refine ⟨by decide,?_⟩|apply τt|apply τf))
    intro c g; cases c
    · have g := not_of g
      try dsimp only at g
      have hi : i = l.length := by omega
      subst hi
      rw [tab_ok g4 h2]
      (repeat((conv=>whnf);first|apply ω0|apply ω1|apply ω2|refine τ3 rfl ?_|refine τ4 rfl ?_|refine ⟨rfl,?_⟩|apply τa|refine τb rfl ?_|refine ⟨⟨by kernel_rfl,by kernel_rfl⟩,?_⟩|refine ⟨by decide,?_⟩|apply τt|apply τf))
      exact ret_tells rfl (AVle.refl _)
    · have g := yes_of g
      try dsimp only at g
      have hi : i < l.length := by omega
      have hmem : l.getD i trow0 ∈ l := by simp [List.getD, hi]
      have hnm := named_spec (l.getD i trow0).name (Nat.le_trans (hn _ hmem) (by decide))
      have hrg := ranged_spec (l.getD i trow0)
      have herr := fun e => tab_err (e := e) g4 hi h2
      have hnext := fun S' => rows_next (S' := S') h2
      (repeat((conv=>whnf);first|apply ω0|apply ω1|apply ω2|refine τ3 rfl ?_|refine τ4 rfl ?_|refine ⟨rfl,?_⟩|apply τa|refine τb rfl ?_|refine ⟨⟨by kernel_rfl,by kernel_rfl⟩,?_⟩|refine ⟨by decide,?_⟩|apply τt|apply τf))
      refine ⟨⟨by first | omega | (dsimp only; omega), by first | omega | (dsimp only; omega)⟩, ?_⟩
      (repeat((conv=>whnf);first|apply ω0|apply ω1|apply ω2|refine τ3 rfl ?_|refine τ4 rfl ?_|refine ⟨rfl,?_⟩|apply τa|refine τb rfl ?_|refine ⟨⟨by kernel_rfl,by kernel_rfl⟩,?_⟩|refine ⟨by decide,?_⟩|apply τt|apply τf))
      cases hb : nameB (l.getD i trow0).name.data.toList with
      | false =>
        rw [hb] at hnm
        refine aop_tells rfl rfl hnm ⟨AVle.refl _, trivial⟩ fun nx2 => ?_
        (repeat((conv=>whnf);first|apply ω0|apply ω1|apply ω2|refine τ3 rfl ?_|refine τ4 rfl ?_|refine ⟨rfl,?_⟩|apply τa|refine τb rfl ?_|refine ⟨⟨by kernel_rfl,by kernel_rfl⟩,?_⟩|refine ⟨by decide,?_⟩|apply τt|apply τf))
        rw [herr 13 (rowE_13 hb)]
        exact ret_tells rfl (AVle.refl _)
      | true =>
        rw [hb] at hnm
        refine aop_tells rfl rfl hnm ⟨AVle.refl _, trivial⟩ fun nx2 => ?_
        (repeat((conv=>whnf);first|apply ω0|apply ω1|apply ω2|refine τ3 rfl ?_|refine τ4 rfl ?_|refine ⟨rfl,?_⟩|apply τa|refine τb rfl ?_|refine ⟨⟨by kernel_rfl,by kernel_rfl⟩,?_⟩|refine ⟨by decide,?_⟩|apply τt|apply τf))
        refine aw_mid (fun y : Nat => mk 88 [(0, trows l), (2, int 0), (3, int 0), (4, .om (0, nx)), (5, int i), (6, .bp (1, nx1) 0), (7, int (l.getD i trow0).a2), (14, trows l), (15, int l.length), (16, int i), (30, boolA (ordB l i))] ⟨[((1, nx1), .c (trowC (l.getD i trow0))), ((0, nx), .mp (S.map entA))], [], y, 2⟩) (fun _ => True) ?_ ?_
        · by_cases h0 : 0 < i
          · have hd : decide ((i : Int) > 0) = true := decide_eq_true (by omega)
            have hi1 : IntKind.i64.wrap ((i : Int) - 1) = ((i - 1 : Nat) : Int) := by rw [wrap_id (by omega) (by omega)]; omega
            (refine aw_draw 13 ?_ ?_ ?_ ?_; (· kernel_rfl); (· kernel_rfl); (· kernel_rfl))
            (repeat((conv=>whnf);first|apply ω0|apply ω1|apply ω2|refine τ3 rfl ?_|refine τ4 rfl ?_|refine ⟨rfl,?_⟩|apply τa|refine τb rfl ?_|refine ⟨⟨by kernel_rfl,by kernel_rfl⟩,?_⟩|refine ⟨by decide,?_⟩|apply τt|apply τf))
            (conv => whnf)
            refine lit_eq hd ?_
            (repeat((conv=>whnf);first|apply ω0|apply ω1|apply ω2|refine τ3 rfl ?_|refine τ4 rfl ?_|refine ⟨rfl,?_⟩|apply τa|refine τb rfl ?_|refine ⟨⟨by kernel_rfl,by kernel_rfl⟩,?_⟩|refine ⟨by decide,?_⟩|apply τt|apply τf))
            refine ⟨⟨ixge (i := i - 1) hi1, ixlt (i := i - 1) hi1 (by omega)⟩, splitO_eq (b := .rp (trowC (l.getD (i - 1) trow0))) (congrArg (fun z : Int => AV.rp (trowC (l.getD z.toNat trow0))) hi1) ?_⟩
            (repeat((conv=>whnf);first|apply ω0|apply ω1|apply ω2|refine τ3 rfl ?_|refine τ4 rfl ?_|refine ⟨rfl,?_⟩|apply τa|refine τb rfl ?_|refine ⟨⟨by kernel_rfl,by kernel_rfl⟩,?_⟩|refine ⟨by decide,?_⟩|apply τt|apply τf))
            intro c hc
            have hc2 : c = ordB l i := hc.trans (by unfold ordB; rw [decide_eq_true h0, Bool.true_and]; rfl)
            clear hc
            rw [← hc2]
            clear hc2
            cases c
            all_goals
              (repeat((conv=>whnf);first|apply ω0|apply ω1|apply ω2|refine τ3 rfl ?_|refine τ4 rfl ?_|refine ⟨rfl,?_⟩|apply τa|refine τb rfl ?_|refine ⟨⟨by kernel_rfl,by kernel_rfl⟩,?_⟩|refine ⟨by decide,?_⟩|apply τt|apply τf))
              exact ⟨nx2, trivial, ele_tell _ _ rfl rfl (List.Sublist.refl _) (List.Sublist.refl _) (BxLe.refl _) trivial ⟨AVle.refl _, AVle.refl _, AVle.refl _, AVle.refl _, AVle.refl _, AVle.refl _, AVle.refl _, AVle.refl _, AVle.refl _, AVle.refl _, AVle.refl _, trivial⟩⟩
          · have hd : decide ((i : Int) > 0) = false := decide_eq_false (by omega)
            have hq : ordB l i = false := by unfold ordB; rw [decide_eq_false h0]; rfl
            rw [hq]
            (refine aw_draw 13 ?_ ?_ ?_ ?_; (· kernel_rfl); (· kernel_rfl); (· kernel_rfl))
            (repeat((conv=>whnf);first|apply ω0|apply ω1|apply ω2|refine τ3 rfl ?_|refine τ4 rfl ?_|refine ⟨rfl,?_⟩|apply τa|refine τb rfl ?_|refine ⟨⟨by kernel_rfl,by kernel_rfl⟩,?_⟩|refine ⟨by decide,?_⟩|apply τt|apply τf))
            (conv => whnf)
            refine lit_eq hd ?_
            (repeat((conv=>whnf);first|apply ω0|apply ω1|apply ω2|refine τ3 rfl ?_|refine τ4 rfl ?_|refine ⟨rfl,?_⟩|apply τa|refine τb rfl ?_|refine ⟨⟨by kernel_rfl,by kernel_rfl⟩,?_⟩|refine ⟨by decide,?_⟩|apply τt|apply τf))
            exact ⟨nx2, trivial, ele_tell _ _ rfl rfl (List.Sublist.refl _) (List.Sublist.refl _) (BxLe.refl _) trivial ⟨AVle.refl _, AVle.refl _, AVle.refl _, AVle.refl _, AVle.refl _, AVle.refl _, AVle.refl _, AVle.refl _, AVle.refl _, AVle.refl _, AVle.refl _, trivial⟩⟩
        · rintro nx3 -
          cases hq : ordB l i with
          | true =>
            (repeat((conv=>whnf);first|apply ω0|apply ω1|apply ω2|refine τ3 rfl ?_|refine τ4 rfl ?_|refine ⟨rfl,?_⟩|apply τa|refine τb rfl ?_|refine ⟨⟨by kernel_rfl,by kernel_rfl⟩,?_⟩|refine ⟨by decide,?_⟩|apply τt|apply τf))
            rw [herr 15 (rowE_15 hb hq)]
            exact ret_tells rfl (AVle.refl _)
          | false =>
            (repeat((conv=>whnf);first|apply ω0|apply ω1|apply ω2|refine τ3 rfl ?_|refine τ4 rfl ?_|refine ⟨rfl,?_⟩|apply τa|refine τb rfl ?_|refine ⟨⟨by kernel_rfl,by kernel_rfl⟩,?_⟩|refine ⟨by decide,?_⟩|apply τt|apply τf))
            refine splitO_eq (b := trowA (l.getD i trow0)) rfl ?_
            (repeat((conv=>whnf);first|apply ω0|apply ω1|apply ω2|refine τ3 rfl ?_|refine τ4 rfl ?_|refine ⟨rfl,?_⟩|apply τa|refine τb rfl ?_|refine ⟨⟨by kernel_rfl,by kernel_rfl⟩,?_⟩|refine ⟨by decide,?_⟩|apply τt|apply τf))
            cases hr : rangedR (l.getD i trow0) with
            | false =>
              rw [hr] at hrg
              refine aop_tells rfl rfl hrg ⟨AVle.refl _, trivial⟩ fun nx4 => ?_
              (repeat((conv=>whnf);first|apply ω0|apply ω1|apply ω2|refine τ3 rfl ?_|refine τ4 rfl ?_|refine ⟨rfl,?_⟩|apply τa|refine τb rfl ?_|refine ⟨⟨by kernel_rfl,by kernel_rfl⟩,?_⟩|refine ⟨by decide,?_⟩|apply τt|apply τf))
              rw [herr 16 (rowE_16 hb hq hr)]
              exact ret_tells rfl (AVle.refl _)
            | true =>
              rw [hr] at hrg
              refine aop_tells rfl rfl hrg ⟨AVle.refl _, trivial⟩ fun nx4 => ?_
              (repeat((conv=>whnf);first|apply ω0|apply ω1|apply ω2|refine τ3 rfl ?_|refine τ4 rfl ?_|refine ⟨rfl,?_⟩|apply τa|refine τb rfl ?_|refine ⟨⟨by kernel_rfl,by kernel_rfl⟩,?_⟩|refine ⟨by decide,?_⟩|apply τt|apply τf))
              intro c t1; cases c
              rotate_left
              · have t1 : (l.getD i trow0).a2 = 102 := by simpa using t1.symm
                (repeat((conv=>whnf);first|apply ω0|apply ω1|apply ω2|refine τ3 rfl ?_|refine τ4 rfl ?_|refine ⟨rfl,?_⟩|apply τa|refine τb rfl ?_|refine ⟨⟨by kernel_rfl,by kernel_rfl⟩,?_⟩|refine ⟨by decide,?_⟩|apply τt|apply τf))
                rw [herr 17 (rowE_17 hb hq hr (.inl t1))]
                exact ret_tells rfl (AVle.refl _)
              have t1 : ¬ (l.getD i trow0).a2 = 102 := by simpa using t1.symm
              (repeat((conv=>whnf);first|apply ω0|apply ω1|apply ω2|refine τ3 rfl ?_|refine τ4 rfl ?_|refine ⟨rfl,?_⟩|apply τa|refine τb rfl ?_|refine ⟨⟨by kernel_rfl,by kernel_rfl⟩,?_⟩|refine ⟨by decide,?_⟩|apply τt|apply τf))
              intro c t2; cases c
              rotate_left
              · have t2 : (l.getD i trow0).a2 = 117 := by simpa using t2.symm
                (repeat((conv=>whnf);first|apply ω0|apply ω1|apply ω2|refine τ3 rfl ?_|refine τ4 rfl ?_|refine ⟨rfl,?_⟩|apply τa|refine τb rfl ?_|refine ⟨⟨by kernel_rfl,by kernel_rfl⟩,?_⟩|refine ⟨by decide,?_⟩|apply τt|apply τf))
                rw [herr 17 (rowE_17 hb hq hr (.inr t2))]
                exact ret_tells rfl (AVle.refl _)
              have t2 : ¬ (l.getD i trow0).a2 = 117 := by simpa using t2.symm
              have hrest := rowE_rest (S := S) hb hq hr (fun h => h.elim t1 t2)
              (repeat((conv=>whnf);first|apply ω0|apply ω1|apply ω2|refine τ3 rfl ?_|refine τ4 rfl ?_|refine ⟨rfl,?_⟩|apply τa|refine τb rfl ?_|refine ⟨⟨by kernel_rfl,by kernel_rfl⟩,?_⟩|refine ⟨by decide,?_⟩|apply τt|apply τf))
              refine aw_midB (fun y : Seen × Nat => mk 88 [(0, trows l), (2, int 0), (3, int 0), (4, .om (0, nx)), (5, int i), (6, .bp (1, nx1) 0), (14, trows l), (15, int l.length), (16, int i)] ⟨[((1, nx1), .c (trowC (l.getD i trow0))), ((0, nx), .mp (y.1.map entA))], [], y.2, 2⟩) (fun y => numsR (l.getD i trow0) S 5 = some y.1) ?_ ?_
              · refine aw_loop (fun y : Nat × Seen × Nat => mk 88 [(0, trows l), (2, int 0), (3, int 0), (4, .om (0, nx)), (5, int i), (6, .bp (1, nx1) 0), (14, trows l), (15, int l.length), (16, int i), (59, arr5 (l.getD i trow0)), (60, int y.1)] ⟨[((1, nx1), .c (trowC (l.getD i trow0))), ((0, nx), .mp (y.2.1.map entA))], [], y.2.2, 2⟩) (fun y => y.1 ≤ 5 ∧ numsR (l.getD i trow0) S y.1 = some y.2.1) (fun y => 5 - y.1) ?_ ?_
                · exact ⟨(0, S, nx4), ⟨Nat.zero_le _, rfl⟩, ele_tell _ _ rfl rfl (List.Sublist.refl _) (List.Sublist.refl _) (BxLe.refl _) trivial ⟨AVle.refl _, AVle.refl _, AVle.refl _, AVle.refl _, AVle.refl _, AVle.refl _, AVle.refl _, AVle.refl _, AVle.refl _, AVle.refl _, AVle.refl _, trivial⟩⟩
                · rintro ⟨k, S', nx5⟩ ⟨hk, hS⟩
                  dsimp only at hk hS
                  rcases k with _ | _ | _ | _ | _ | _ | k
                  · (repeat((conv=>whnf);first|apply ω0|apply ω1|apply ω2|refine τ3 rfl ?_|refine τ4 rfl ?_|refine ⟨rfl,?_⟩|apply τa|refine τb rfl ?_|refine ⟨⟨by kernel_rfl,by kernel_rfl⟩,?_⟩|refine ⟨by decide,?_⟩|apply τt|apply τf))
                    intro c t; cases c
                    · have t : (l.getD i trow0).num 0 = -1 := by show (l.getD i trow0).a0 = -1; simpa using t.symm
                      (repeat((conv=>whnf);first|apply ω0|apply ω1|apply ω2|refine τ3 rfl ?_|refine τ4 rfl ?_|refine ⟨rfl,?_⟩|apply τa|refine τb rfl ?_|refine ⟨⟨by kernel_rfl,by kernel_rfl⟩,?_⟩|refine ⟨by decide,?_⟩|apply τt|apply τf))
                      exact back (0 + 1, S', nx5) ⟨by dsimp only; omega, nums_skip hS t⟩ (by dsimp only; omega) (ele_tell _ _ rfl rfl (List.Sublist.refl _) (List.Sublist.refl _) (BxLe.refl _) trivial ⟨AVle.refl _, AVle.refl _, AVle.refl _, AVle.refl _, AVle.refl _, AVle.refl _, AVle.refl _, AVle.refl _, AVle.refl _, AVle.refl _, AVle.refl _, trivial⟩)
                    · have t : ¬ (l.getD i trow0).num 0 = -1 := by show ¬ (l.getD i trow0).a0 = -1; simpa using t.symm
                      (repeat((conv=>whnf);first|apply ω0|apply ω1|apply ω2|refine τ3 rfl ?_|refine τ4 rfl ?_|refine ⟨rfl,?_⟩|apply τa|refine τb rfl ?_|refine ⟨⟨by kernel_rfl,by kernel_rfl⟩,?_⟩|refine ⟨by decide,?_⟩|apply τt|apply τf))
                      refine aop_callF (xs := [.om (0, nx), int ((0 : Nat) : Int), int ((l.getD i trow0).num 0)]) [((1, nx1), .c (trowC (l.getD i trow0)))] [] 2 rfl rfl rfl rfl ⟨AVle.refl _, AVle.refl _, AVle.refl _, trivial⟩ (met_spec nx nx5 0 S' ((0 : Nat) : Int) ((l.getD i trow0).num 0)) (BxLe.refl _) (PmEq.refl _) rfl fun r h' hq2 => ?_
                      obtain ⟨nx6, nn6, rfl, rfl⟩ := hq2
                      by_cases hm : (((0 : Nat) : Int), (l.getD i trow0).num 0) ∈ S'
                      · have hnone := nums_none (nums_in hS t hm) (show 0 + 1 ≤ 5 by decide)
                        rw [hnone] at hrest
                        rw [decide_eq_true hm]
                        (repeat((conv=>whnf);first|apply ω0|apply ω1|apply ω2|refine τ3 rfl ?_|refine τ4 rfl ?_|refine ⟨rfl,?_⟩|apply τa|refine τb rfl ?_|refine ⟨⟨by kernel_rfl,by kernel_rfl⟩,?_⟩|refine ⟨by decide,?_⟩|apply τt|apply τf))
                        rw [herr 15 hrest]
                        exact ret_tells rfl (AVle.refl _)
                      · have hnew := nums_new hS t hm
                        rw [decide_eq_false hm]
                        (repeat((conv=>whnf);first|apply ω0|apply ω1|apply ω2|refine τ3 rfl ?_|refine τ4 rfl ?_|refine ⟨rfl,?_⟩|apply τa|refine τb rfl ?_|refine ⟨⟨by kernel_rfl,by kernel_rfl⟩,?_⟩|refine ⟨by decide,?_⟩|apply τt|apply τf))
                        exact back (0 + 1, addA (((0 : Nat) : Int), (l.getD i trow0).num 0) S', nx6) ⟨by dsimp only; omega, hnew⟩ (by dsimp only; omega) (ele_tell _ _ rfl rfl (List.Sublist.refl _) (List.Sublist.refl _) (BxLe.refl _) trivial ⟨AVle.refl _, AVle.refl _, AVle.refl _, AVle.refl _, AVle.refl _, AVle.refl _, AVle.refl _, AVle.refl _, AVle.refl _, AVle.refl _, AVle.refl _, trivial⟩)
                  · (repeat((conv=>whnf);first|apply ω0|apply ω1|apply ω2|refine τ3 rfl ?_|refine τ4 rfl ?_|refine ⟨rfl,?_⟩|apply τa|refine τb rfl ?_|refine ⟨⟨by kernel_rfl,by kernel_rfl⟩,?_⟩|refine ⟨by decide,?_⟩|apply τt|apply τf))
                    intro c t; cases c
                    · have t : (l.getD i trow0).num 1 = -1 := by show (l.getD i trow0).a1 = -1; simpa using t.symm
                      (repeat((conv=>whnf);first|apply ω0|apply ω1|apply ω2|refine τ3 rfl ?_|refine τ4 rfl ?_|refine ⟨rfl,?_⟩|apply τa|refine τb rfl ?_|refine ⟨⟨by kernel_rfl,by kernel_rfl⟩,?_⟩|refine ⟨by decide,?_⟩|apply τt|apply τf))
                      exact back (1 + 1, S', nx5) ⟨by dsimp only; omega, nums_skip hS t⟩ (by dsimp only; omega) (ele_tell _ _ rfl rfl (List.Sublist.refl _) (List.Sublist.refl _) (BxLe.refl _) trivial ⟨AVle.refl _, AVle.refl _, AVle.refl _, AVle.refl _, AVle.refl _, AVle.refl _, AVle.refl _, AVle.refl _, AVle.refl _, AVle.refl _, AVle.refl _, trivial⟩)
                    · have t : ¬ (l.getD i trow0).num 1 = -1 := by show ¬ (l.getD i trow0).a1 = -1; simpa using t.symm
                      (repeat((conv=>whnf);first|apply ω0|apply ω1|apply ω2|refine τ3 rfl ?_|refine τ4 rfl ?_|refine ⟨rfl,?_⟩|apply τa|refine τb rfl ?_|refine ⟨⟨by kernel_rfl,by kernel_rfl⟩,?_⟩|refine ⟨by decide,?_⟩|apply τt|apply τf))
                      refine aop_callF (xs := [.om (0, nx), int ((1 : Nat) : Int), int ((l.getD i trow0).num 1)]) [((1, nx1), .c (trowC (l.getD i trow0)))] [] 2 rfl rfl rfl rfl ⟨AVle.refl _, AVle.refl _, AVle.refl _, trivial⟩ (met_spec nx nx5 0 S' ((1 : Nat) : Int) ((l.getD i trow0).num 1)) (BxLe.refl _) (PmEq.refl _) rfl fun r h' hq2 => ?_
                      obtain ⟨nx6, nn6, rfl, rfl⟩ := hq2
                      by_cases hm : (((1 : Nat) : Int), (l.getD i trow0).num 1) ∈ S'
                      · have hnone := nums_none (nums_in hS t hm) (show 1 + 1 ≤ 5 by decide)
                        rw [hnone] at hrest
                        rw [decide_eq_true hm]
                        (repeat((conv=>whnf);first|apply ω0|apply ω1|apply ω2|refine τ3 rfl ?_|refine τ4 rfl ?_|refine ⟨rfl,?_⟩|apply τa|refine τb rfl ?_|refine ⟨⟨by kernel_rfl,by kernel_rfl⟩,?_⟩|refine ⟨by decide,?_⟩|apply τt|apply τf))
                        rw [herr 15 hrest]
                        exact ret_tells rfl (AVle.refl _)
                      · have hnew := nums_new hS t hm
                        rw [decide_eq_false hm]
                        (repeat((conv=>whnf);first|apply ω0|apply ω1|apply ω2|refine τ3 rfl ?_|refine τ4 rfl ?_|refine ⟨rfl,?_⟩|apply τa|refine τb rfl ?_|refine ⟨⟨by kernel_rfl,by kernel_rfl⟩,?_⟩|refine ⟨by decide,?_⟩|apply τt|apply τf))
                        exact back (1 + 1, addA (((1 : Nat) : Int), (l.getD i trow0).num 1) S', nx6) ⟨by dsimp only; omega, hnew⟩ (by dsimp only; omega) (ele_tell _ _ rfl rfl (List.Sublist.refl _) (List.Sublist.refl _) (BxLe.refl _) trivial ⟨AVle.refl _, AVle.refl _, AVle.refl _, AVle.refl _, AVle.refl _, AVle.refl _, AVle.refl _, AVle.refl _, AVle.refl _, AVle.refl _, AVle.refl _, trivial⟩)
                  · (repeat((conv=>whnf);first|apply ω0|apply ω1|apply ω2|refine τ3 rfl ?_|refine τ4 rfl ?_|refine ⟨rfl,?_⟩|apply τa|refine τb rfl ?_|refine ⟨⟨by kernel_rfl,by kernel_rfl⟩,?_⟩|refine ⟨by decide,?_⟩|apply τt|apply τf))
                    intro c t; cases c
                    · have t : (l.getD i trow0).num 2 = -1 := by show (l.getD i trow0).a2 = -1; simpa using t.symm
                      (repeat((conv=>whnf);first|apply ω0|apply ω1|apply ω2|refine τ3 rfl ?_|refine τ4 rfl ?_|refine ⟨rfl,?_⟩|apply τa|refine τb rfl ?_|refine ⟨⟨by kernel_rfl,by kernel_rfl⟩,?_⟩|refine ⟨by decide,?_⟩|apply τt|apply τf))
                      exact back (2 + 1, S', nx5) ⟨by dsimp only; omega, nums_skip hS t⟩ (by dsimp only; omega) (ele_tell _ _ rfl rfl (List.Sublist.refl _) (List.Sublist.refl _) (BxLe.refl _) trivial ⟨AVle.refl _, AVle.refl _, AVle.refl _, AVle.refl _, AVle.refl _, AVle.refl _, AVle.refl _, AVle.refl _, AVle.refl _, AVle.refl _, AVle.refl _, trivial⟩)
                    · have t : ¬ (l.getD i trow0).num 2 = -1 := by show ¬ (l.getD i trow0).a2 = -1; simpa using t.symm
                      (repeat((conv=>whnf);first|apply ω0|apply ω1|apply ω2|refine τ3 rfl ?_|refine τ4 rfl ?_|refine ⟨rfl,?_⟩|apply τa|refine τb rfl ?_|refine ⟨⟨by kernel_rfl,by kernel_rfl⟩,?_⟩|refine ⟨by decide,?_⟩|apply τt|apply τf))
                      refine aop_callF (xs := [.om (0, nx), int ((2 : Nat) : Int), int ((l.getD i trow0).num 2)]) [((1, nx1), .c (trowC (l.getD i trow0)))] [] 2 rfl rfl rfl rfl ⟨AVle.refl _, AVle.refl _, AVle.refl _, trivial⟩ (met_spec nx nx5 0 S' ((2 : Nat) : Int) ((l.getD i trow0).num 2)) (BxLe.refl _) (PmEq.refl _) rfl fun r h' hq2 => ?_
                      obtain ⟨nx6, nn6, rfl, rfl⟩ := hq2
                      by_cases hm : (((2 : Nat) : Int), (l.getD i trow0).num 2) ∈ S'
                      · have hnone := nums_none (nums_in hS t hm) (show 2 + 1 ≤ 5 by decide)
                        rw [hnone] at hrest
                        rw [decide_eq_true hm]
                        (repeat((conv=>whnf);first|apply ω0|apply ω1|apply ω2|refine τ3 rfl ?_|refine τ4 rfl ?_|refine ⟨rfl,?_⟩|apply τa|refine τb rfl ?_|refine ⟨⟨by kernel_rfl,by kernel_rfl⟩,?_⟩|refine ⟨by decide,?_⟩|apply τt|apply τf))
                        rw [herr 15 hrest]
                        exact ret_tells rfl (AVle.refl _)
                      · have hnew := nums_new hS t hm
                        rw [decide_eq_false hm]
                        (repeat((conv=>whnf);first|apply ω0|apply ω1|apply ω2|refine τ3 rfl ?_|refine τ4 rfl ?_|refine ⟨rfl,?_⟩|apply τa|refine τb rfl ?_|refine ⟨⟨by kernel_rfl,by kernel_rfl⟩,?_⟩|refine ⟨by decide,?_⟩|apply τt|apply τf))
                        exact back (2 + 1, addA (((2 : Nat) : Int), (l.getD i trow0).num 2) S', nx6) ⟨by dsimp only; omega, hnew⟩ (by dsimp only; omega) (ele_tell _ _ rfl rfl (List.Sublist.refl _) (List.Sublist.refl _) (BxLe.refl _) trivial ⟨AVle.refl _, AVle.refl _, AVle.refl _, AVle.refl _, AVle.refl _, AVle.refl _, AVle.refl _, AVle.refl _, AVle.refl _, AVle.refl _, AVle.refl _, trivial⟩)
                  · (repeat((conv=>whnf);first|apply ω0|apply ω1|apply ω2|refine τ3 rfl ?_|refine τ4 rfl ?_|refine ⟨rfl,?_⟩|apply τa|refine τb rfl ?_|refine ⟨⟨by kernel_rfl,by kernel_rfl⟩,?_⟩|refine ⟨by decide,?_⟩|apply τt|apply τf))
                    intro c t; cases c
                    · have t : (l.getD i trow0).num 3 = -1 := by show (l.getD i trow0).a3 = -1; simpa using t.symm
                      (repeat((conv=>whnf);first|apply ω0|apply ω1|apply ω2|refine τ3 rfl ?_|refine τ4 rfl ?_|refine ⟨rfl,?_⟩|apply τa|refine τb rfl ?_|refine ⟨⟨by kernel_rfl,by kernel_rfl⟩,?_⟩|refine ⟨by decide,?_⟩|apply τt|apply τf))
                      exact back (3 + 1, S', nx5) ⟨by dsimp only; omega, nums_skip hS t⟩ (by dsimp only; omega) (ele_tell _ _ rfl rfl (List.Sublist.refl _) (List.Sublist.refl _) (BxLe.refl _) trivial ⟨AVle.refl _, AVle.refl _, AVle.refl _, AVle.refl _, AVle.refl _, AVle.refl _, AVle.refl _, AVle.refl _, AVle.refl _, AVle.refl _, AVle.refl _, trivial⟩)
                    · have t : ¬ (l.getD i trow0).num 3 = -1 := by show ¬ (l.getD i trow0).a3 = -1; simpa using t.symm
                      (repeat((conv=>whnf);first|apply ω0|apply ω1|apply ω2|refine τ3 rfl ?_|refine τ4 rfl ?_|refine ⟨rfl,?_⟩|apply τa|refine τb rfl ?_|refine ⟨⟨by kernel_rfl,by kernel_rfl⟩,?_⟩|refine ⟨by decide,?_⟩|apply τt|apply τf))
                      refine aop_callF (xs := [.om (0, nx), int ((3 : Nat) : Int), int ((l.getD i trow0).num 3)]) [((1, nx1), .c (trowC (l.getD i trow0)))] [] 2 rfl rfl rfl rfl ⟨AVle.refl _, AVle.refl _, AVle.refl _, trivial⟩ (met_spec nx nx5 0 S' ((3 : Nat) : Int) ((l.getD i trow0).num 3)) (BxLe.refl _) (PmEq.refl _) rfl fun r h' hq2 => ?_
                      obtain ⟨nx6, nn6, rfl, rfl⟩ := hq2
                      by_cases hm : (((3 : Nat) : Int), (l.getD i trow0).num 3) ∈ S'
                      · have hnone := nums_none (nums_in hS t hm) (show 3 + 1 ≤ 5 by decide)
                        rw [hnone] at hrest
                        rw [decide_eq_true hm]
                        (repeat((conv=>whnf);first|apply ω0|apply ω1|apply ω2|refine τ3 rfl ?_|refine τ4 rfl ?_|refine ⟨rfl,?_⟩|apply τa|refine τb rfl ?_|refine ⟨⟨by kernel_rfl,by kernel_rfl⟩,?_⟩|refine ⟨by decide,?_⟩|apply τt|apply τf))
                        rw [herr 15 hrest]
                        exact ret_tells rfl (AVle.refl _)
                      · have hnew := nums_new hS t hm
                        rw [decide_eq_false hm]
                        (repeat((conv=>whnf);first|apply ω0|apply ω1|apply ω2|refine τ3 rfl ?_|refine τ4 rfl ?_|refine ⟨rfl,?_⟩|apply τa|refine τb rfl ?_|refine ⟨⟨by kernel_rfl,by kernel_rfl⟩,?_⟩|refine ⟨by decide,?_⟩|apply τt|apply τf))
                        exact back (3 + 1, addA (((3 : Nat) : Int), (l.getD i trow0).num 3) S', nx6) ⟨by dsimp only; omega, hnew⟩ (by dsimp only; omega) (ele_tell _ _ rfl rfl (List.Sublist.refl _) (List.Sublist.refl _) (BxLe.refl _) trivial ⟨AVle.refl _, AVle.refl _, AVle.refl _, AVle.refl _, AVle.refl _, AVle.refl _, AVle.refl _, AVle.refl _, AVle.refl _, AVle.refl _, AVle.refl _, trivial⟩)
                  · (repeat((conv=>whnf);first|apply ω0|apply ω1|apply ω2|refine τ3 rfl ?_|refine τ4 rfl ?_|refine ⟨rfl,?_⟩|apply τa|refine τb rfl ?_|refine ⟨⟨by kernel_rfl,by kernel_rfl⟩,?_⟩|refine ⟨by decide,?_⟩|apply τt|apply τf))
                    intro c t; cases c
                    · have t : (l.getD i trow0).num 4 = -1 := by show (l.getD i trow0).a4 = -1; simpa using t.symm
                      (repeat((conv=>whnf);first|apply ω0|apply ω1|apply ω2|refine τ3 rfl ?_|refine τ4 rfl ?_|refine ⟨rfl,?_⟩|apply τa|refine τb rfl ?_|refine ⟨⟨by kernel_rfl,by kernel_rfl⟩,?_⟩|refine ⟨by decide,?_⟩|apply τt|apply τf))
                      exact back (4 + 1, S', nx5) ⟨by dsimp only; omega, nums_skip hS t⟩ (by dsimp only; omega) (ele_tell _ _ rfl rfl (List.Sublist.refl _) (List.Sublist.refl _) (BxLe.refl _) trivial ⟨AVle.refl _, AVle.refl _, AVle.refl _, AVle.refl _, AVle.refl _, AVle.refl _, AVle.refl _, AVle.refl _, AVle.refl _, AVle.refl _, AVle.refl _, trivial⟩)
                    · have t : ¬ (l.getD i trow0).num 4 = -1 := by show ¬ (l.getD i trow0).a4 = -1; simpa using t.symm
                      (repeat((conv=>whnf);first|apply ω0|apply ω1|apply ω2|refine τ3 rfl ?_|refine τ4 rfl ?_|refine ⟨rfl,?_⟩|apply τa|refine τb rfl ?_|refine ⟨⟨by kernel_rfl,by kernel_rfl⟩,?_⟩|refine ⟨by decide,?_⟩|apply τt|apply τf))
                      refine aop_callF (xs := [.om (0, nx), int ((4 : Nat) : Int), int ((l.getD i trow0).num 4)]) [((1, nx1), .c (trowC (l.getD i trow0)))] [] 2 rfl rfl rfl rfl ⟨AVle.refl _, AVle.refl _, AVle.refl _, trivial⟩ (met_spec nx nx5 0 S' ((4 : Nat) : Int) ((l.getD i trow0).num 4)) (BxLe.refl _) (PmEq.refl _) rfl fun r h' hq2 => ?_
                      obtain ⟨nx6, nn6, rfl, rfl⟩ := hq2
                      by_cases hm : (((4 : Nat) : Int), (l.getD i trow0).num 4) ∈ S'
                      · have hnone := nums_none (nums_in hS t hm) (show 4 + 1 ≤ 5 by decide)
                        rw [hnone] at hrest
                        rw [decide_eq_true hm]
                        (repeat((conv=>whnf);first|apply ω0|apply ω1|apply ω2|refine τ3 rfl ?_|refine τ4 rfl ?_|refine ⟨rfl,?_⟩|apply τa|refine τb rfl ?_|refine ⟨⟨by kernel_rfl,by kernel_rfl⟩,?_⟩|refine ⟨by decide,?_⟩|apply τt|apply τf))
                        rw [herr 15 hrest]
                        exact ret_tells rfl (AVle.refl _)
                      · have hnew := nums_new hS t hm
                        rw [decide_eq_false hm]
                        (repeat((conv=>whnf);first|apply ω0|apply ω1|apply ω2|refine τ3 rfl ?_|refine τ4 rfl ?_|refine ⟨rfl,?_⟩|apply τa|refine τb rfl ?_|refine ⟨⟨by kernel_rfl,by kernel_rfl⟩,?_⟩|refine ⟨by decide,?_⟩|apply τt|apply τf))
                        exact back (4 + 1, addA (((4 : Nat) : Int), (l.getD i trow0).num 4) S', nx6) ⟨by dsimp only; omega, hnew⟩ (by dsimp only; omega) (ele_tell _ _ rfl rfl (List.Sublist.refl _) (List.Sublist.refl _) (BxLe.refl _) trivial ⟨AVle.refl _, AVle.refl _, AVle.refl _, AVle.refl _, AVle.refl _, AVle.refl _, AVle.refl _, AVle.refl _, AVle.refl _, AVle.refl _, AVle.refl _, trivial⟩)
                  · (repeat((conv=>whnf);first|apply ω0|apply ω1|apply ω2|refine τ3 rfl ?_|refine τ4 rfl ?_|refine ⟨rfl,?_⟩|apply τa|refine τb rfl ?_|refine ⟨⟨by kernel_rfl,by kernel_rfl⟩,?_⟩|refine ⟨by decide,?_⟩|apply τt|apply τf))
                    exact ⟨(S', nx5), hS, ele_tell _ _ rfl rfl (List.Sublist.refl _) (List.Sublist.refl _) (BxLe.refl _) trivial ⟨AVle.refl _, AVle.refl _, AVle.refl _, AVle.refl _, AVle.refl _, AVle.refl _, AVle.refl _, AVle.refl _, AVle.refl _, trivial⟩⟩
                  · omega
              · rintro ⟨S5, nx5⟩ hS
                dsimp only at hS
                (repeat((conv=>whnf);first|apply ω0|apply ω1|apply ω2|refine τ3 rfl ?_|refine τ4 rfl ?_|refine ⟨rfl,?_⟩|apply τa|refine τb rfl ?_|refine ⟨⟨by kernel_rfl,by kernel_rfl⟩,?_⟩|refine ⟨by decide,?_⟩|apply τt|apply τf))
                intro c t; cases c
                · have t : (l.getD i trow0).mux = 0 := by simpa using t.symm
                  have hmx : muxR (l.getD i trow0) S5 = some S5 := if_pos t
                  rw [hS] at hrest
                  dsimp only at hrest
                  rw [hmx] at hrest
                  have h3 := hnext S5 hrest
                  (repeat((conv=>whnf);first|apply ω0|apply ω1|apply ω2|refine τ3 rfl ?_|refine τ4 rfl ?_|refine ⟨rfl,?_⟩|apply τa|refine τb rfl ?_|refine ⟨⟨by kernel_rfl,by kernel_rfl⟩,?_⟩|refine ⟨by decide,?_⟩|apply τt|apply τf))
                  exact back (i + 1, S5, nx5) ⟨hi, h3⟩ (by dsimp only; omega) (ele_tell _ _ rfl rfl (.cons _ (List.Sublist.refl _)) (List.Sublist.refl _) (BxLe.refl _) trivial ⟨AVle.refl _, AVle.refl _, AVle.refl _, AVle.refl _, AVle.refl _, AVle.refl _, le_int (wrap_succ (by first | omega | (dsimp only; omega))), trivial⟩)
                · have t : ¬ (l.getD i trow0).mux = 0 := by simpa using t.symm
                  have h12 := ranged_mux hr t
                  have hw : IntKind.i64.wrap (5 + (l.getD i trow0).mux) = 5 + (l.getD i trow0).mux := wrap_id (by omega) (by omega)
                  (repeat((conv=>whnf);first|apply ω0|apply ω1|apply ω2|refine τ3 rfl ?_|refine τ4 rfl ?_|refine ⟨rfl,?_⟩|apply τa|refine τb rfl ?_|refine ⟨⟨by kernel_rfl,by kernel_rfl⟩,?_⟩|refine ⟨by decide,?_⟩|apply τt|apply τf))
                  refine aop_callF (xs := [.om (0, nx), int (5 + (l.getD i trow0).mux), int (l.getD i trow0).sub]) [((1, nx1), .c (trowC (l.getD i trow0)))] [] 2 rfl rfl rfl rfl ⟨AVle.refl _, le_int hw, AVle.refl _, trivial⟩ (met_spec nx nx5 0 S5 (5 + (l.getD i trow0).mux) (l.getD i trow0).sub) (BxLe.refl _) (PmEq.refl _) rfl fun r h' hq2 => ?_
                  obtain ⟨nx6, nn6, rfl, rfl⟩ := hq2
                  rw [hS] at hrest
                  dsimp only at hrest
                  by_cases hm : (5 + (l.getD i trow0).mux, (l.getD i trow0).sub) ∈ S5
                  · have hmx : muxR (l.getD i trow0) S5 = none := by unfold muxR; rw [if_neg t, if_pos hm]
                    rw [hmx] at hrest
                    rw [decide_eq_true hm]
                    (repeat((conv=>whnf);first|apply ω0|apply ω1|apply ω2|refine τ3 rfl ?_|refine τ4 rfl ?_|refine ⟨rfl,?_⟩|apply τa|refine τb rfl ?_|refine ⟨⟨by kernel_rfl,by kernel_rfl⟩,?_⟩|refine ⟨by decide,?_⟩|apply τt|apply τf))
                    rw [herr 15 hrest]
                    exact ret_tells rfl (AVle.refl _)
                  · have hmx : muxR (l.getD i trow0) S5 = some (addA (5 + (l.getD i trow0).mux, (l.getD i trow0).sub) S5) := by unfold muxR addA; rw [if_neg t, if_neg hm, if_neg hm]
                    rw [hmx] at hrest
                    have h3 := hnext _ hrest
                    rw [decide_eq_false hm]
                    (repeat((conv=>whnf);first|apply ω0|apply ω1|apply ω2|refine τ3 rfl ?_|refine τ4 rfl ?_|refine ⟨rfl,?_⟩|apply τa|refine τb rfl ?_|refine ⟨⟨by kernel_rfl,by kernel_rfl⟩,?_⟩|refine ⟨by decide,?_⟩|apply τt|apply τf))
                    exact back (i + 1, addA (5 + (l.getD i trow0).mux, (l.getD i trow0).sub) S5, nx6) ⟨hi, h3⟩ (by dsimp only; omega) (ele_tell _ _ rfl rfl (.cons _ (List.Sublist.refl _)) (List.Sublist.refl _) (BxLe.refl _) trivial ⟨AVle.refl _, AVle.refl _, AVle.refl _, AVle.refl _, AVle.refl _, AVle.refl _, le_int (wrap_succ (by first | omega | (dsimp only; omega))), trivial⟩)
end Go.Proofs.W

namespace Go.Proofs
open Go.Shelf
shelf_lay Lays.n106 Nm 106 at Tryd as Tryd.lays106
end Go.Proofs
namespace Go.Proofs.W
open Go.Vl Go.Shelf
set_option maxRecDepth 100000

def cmpS (s t : ByteArray) : Int := Lib.compareBytes s.data.toList t.data.toList
theorem compare_spec (s t : ByteArray) : Tells Tryd.prog 51 [.v (.string s), .v (.string t)] (.v (.int .i64 (cmpS s t))) :=
  tells_of_calls (vs := [.string s, .string t]) ⟨_, Tryd.func51, rfl, rfl⟩ fun w => (Any.strings_Compare Tryd.lays106 s t w).mono fun e w' ⟨h1, h2⟩ => ⟨h1, by subst h2; exact ⟨rfl, rfl, rfl, Nat.le_refl _, fun _ _ => rfl⟩⟩
theorem find1_spec (r : TRow) (s : ByteArray) : Tells Tryd.prog 50 [trowA r, strA s] (int (cmpS r.name s)) := by
  refine tells_of_aw Tryd.func50 rfl rfl fun nx => ?_
  (repeat((conv=>whnf);first|apply ω0|apply ω1|apply ω2|refine τ3 rfl ?_|refine τ4 rfl ?_|refine ⟨rfl,?_⟩|apply τa|refine τb rfl ?_|refine ⟨⟨by kernel_rfl,by kernel_rfl⟩,?_⟩|refine ⟨by decide,?_⟩|apply τt|apply τf))
  refine aop_tells rfl rfl (compare_spec r.name s) ⟨AVle.refl _, AVle.refl _, trivial⟩ fun nx2 => ?_
  (repeat((conv=>whnf);first|apply ω0|apply ω1|apply ω2|refine τ3 rfl ?_|refine τ4 rfl ?_|refine ⟨rfl,?_⟩|apply τa|refine τb rfl ?_|refine ⟨⟨by kernel_rfl,by kernel_rfl⟩,?_⟩|refine ⟨by decide,?_⟩|apply τt|apply τf))
  exact ret_tells rfl (AVle.refl _)
def lowB (l : List TRow) (s : ByteArray) : Nat := (l.takeWhile fun r => decide (cmpS r.name s < 0)).length
theorem lowB_le (l : List TRow) (s : ByteArray) : lowB l s ≤ l.length := by
  unfold lowB
  have := congrArg List.length (List.takeWhile_append_dropWhile (p := fun r : TRow => decide (cmpS r.name s < 0)) (l := l))
  rw [List.length_append] at this
  omega
theorem lowB_lt {s : ByteArray} : ∀ {l : List TRow} {j : Nat}, j < lowB l s → cmpS (l.getD j trow0).name s < 0
  | [], j, h => by simp [lowB] at h
  | r :: l, j, h => by
    unfold lowB at h
    rw [List.takeWhile_cons] at h
    by_cases hc : cmpS r.name s < 0
    · rw [if_pos (by simpa using hc)] at h
      cases j with
      | zero => exact hc
      | succ j => exact lowB_lt (l := l) (j := j) (by unfold lowB; simp at h; omega)
    · rw [if_neg (by simpa using hc)] at h; simp at h
theorem lowB_at {s : ByteArray} : ∀ {l : List TRow}, lowB l s < l.length → ¬ cmpS (l.getD (lowB l s) trow0).name s < 0
  | [], h => by simp at h
  | r :: l, h => by
    by_cases hc : cmpS r.name s < 0
    · have e : lowB (r :: l) s = lowB l s + 1 := by unfold lowB; rw [List.takeWhile_cons, if_pos (by simpa using hc)]; rfl
      rw [e] at h ⊢
      exact lowB_at (l := l) (by simpa using h)
    · have e : lowB (r :: l) s = 0 := by unfold lowB; rw [List.takeWhile_cons, if_neg (by simpa using hc)]; rfl
      rw [e]; exact hc
def MonoT (l : List TRow) (s : ByteArray) : Prop := ∀ i j, i < j → j < l.length → cmpS (l.getD j trow0).name s < 0 → cmpS (l.getD i trow0).name s < 0
theorem lowB_ge {l : List TRow} {s : ByteArray} (hs : MonoT l s) {j : Nat} (h1 : lowB l s ≤ j) (h2 : j < l.length) : ¬ cmpS (l.getD j trow0).name s < 0 := fun h => by
  rcases Nat.lt_or_ge (lowB l s) j with q | q
  · exact lowB_at (by omega) (hs _ j q h2 h)
  · have e : lowB l s = j := by omega
    exact lowB_at (l := l) (s := s) (by omega) (by rw [e]; exact h)
def foundB (l : List TRow) (s : ByteArray) : Bool := decide (lowB l s < l.length) && decide (cmpS (l.getD (lowB l s) trow0).name s = 0)
theorem half_eq {a b : Nat} (h : a + b ≤ 4000000) : IntKind.i64.wrap ((IntKind.u64.wrap (IntKind.i64.wrap ((a : Int) + (b : Int)))).fdiv (2 ^ min (Int.toNat 1) IntKind.u64.bits)) = (((a + b) / 2 : Nat) : Int) := by
  rw [wrap_id (n := (a : Int) + (b : Int)) (by omega) (by omega)]
  have hu : IntKind.u64.wrap ((a : Int) + (b : Int)) = (a : Int) + (b : Int) := by
    show ((a : Int) + (b : Int)) % 18446744073709551616 = _
    omega
  rw [hu]
  have h2 : (2 : Int) ^ min (Int.toNat 1) IntKind.u64.bits = 2 := by decide
  rw [h2, Int.fdiv_eq_ediv_of_nonneg _ (by decide)]
  rw [wrap_id (by omega) (by omega)]
  omega
set_option maxHeartbeats 2000000 in
theorem bsearch_spec (l : List TRow) (s : ByteArray) (hl : l.length ≤ 1000000) (hs : MonoT l s) :
    Tells Tryd.prog 49 [trows l, strA s, fn0 50] (.tup [int (lowB l s), boolA (foundB l s)]) := by
  have hk := lowB_le l s
  have hlt := fun j => lowB_lt (l := l) (s := s) (j := j)
  have hge := fun j => lowB_ge (j := j) hs
  unfold foundB
  generalize lowB l s = k at hk hlt hge ⊢
  refine tells_of_aw Tryd.func49 rfl rfl fun nx => ?_
  (repeat((conv=>whnf);first|apply ω0|apply ω1|apply ω2|refine τ3 rfl ?_|refine τ4 rfl ?_|refine ⟨rfl,?_⟩|apply τa|refine τb rfl ?_|refine ⟨⟨by kernel_rfl,by kernel_rfl⟩,?_⟩|refine ⟨by decide,?_⟩|apply τt|apply τf))
  refine aw_loop (fun y : Nat × Nat × Nat => mk 49 [(0, trows l), (1, strA s), (2, fn0 50), (8, int l.length), (9, int y.1), (10, int y.2.1)] ⟨[], [], y.2.2, 0⟩) (fun y => y.1 ≤ k ∧ k ≤ y.2.1 ∧ y.2.1 ≤ l.length) (fun y => y.2.1 - y.1) ?_ ?_
  · exact ⟨(0, l.length, nx), ⟨Nat.zero_le _, hk, Nat.le_refl _⟩, ele_mk rfl rfl ⟨AVle.refl _, AVle.refl _, AVle.refl _, AVle.refl _, AVle.refl _, AVle.refl _, trivial⟩⟩
  · rintro ⟨lo, hi, nx1⟩ ⟨h1, h2, h3⟩
    dsimp only at h1 h2 h3
    (repeat((conv=>whnf);first|apply ω0|apply ω1|apply ω2|refine τ3 rfl ?_|refine τ4 rfl ?_|refine ⟨rfl,?_⟩|apply τa|refine τb rfl ?_|refine ⟨⟨by kernel_rfl,by kernel_rfl⟩,?_⟩|refine ⟨by decide,?_⟩|apply τt|apply τf))
    intro c g; cases c
    · have g := not_of g
      try dsimp only at g
      have e : lo = k := by omega
      subst e
      by_cases hkl : lo < l.length
      · have hf1 := find1_spec (l.getD lo trow0) s
        have hd : decide ((lo : Int) < (l.length : Int)) = true := decide_eq_true (by omega)
        (repeat((conv=>whnf);first|apply ω0|apply ω1|apply ω2|refine τ3 rfl ?_|refine τ4 rfl ?_|refine ⟨rfl,?_⟩|apply τa|refine τb rfl ?_|refine ⟨⟨by kernel_rfl,by kernel_rfl⟩,?_⟩|refine ⟨by decide,?_⟩|apply τt|apply τf))
        (conv => whnf)
        refine lit_eq hd ?_
        (repeat((conv=>whnf);first|apply ω0|apply ω1|apply ω2|refine τ3 rfl ?_|refine τ4 rfl ?_|refine ⟨rfl,?_⟩|apply τa|refine τb rfl ?_|refine ⟨⟨by kernel_rfl,by kernel_rfl⟩,?_⟩|refine ⟨by decide,?_⟩|apply τt|apply τf))
        refine ⟨⟨by first | omega | (dsimp only; omega), by first | omega | (dsimp only; omega)⟩, ?_⟩
        (repeat((conv=>whnf);first|apply ω0|apply ω1|apply ω2|refine τ3 rfl ?_|refine τ4 rfl ?_|refine ⟨rfl,?_⟩|apply τa|refine τb rfl ?_|refine ⟨⟨by kernel_rfl,by kernel_rfl⟩,?_⟩|refine ⟨by decide,?_⟩|apply τt|apply τf))
        refine aop_tells rfl rfl hf1 ⟨AVle.refl _, AVle.refl _, trivial⟩ fun nx2 => ?_
        intro c t; cases c
        all_goals
          (repeat((conv=>whnf);first|apply ω0|apply ω1|apply ω2|refine τ3 rfl ?_|refine τ4 rfl ?_|refine ⟨rfl,?_⟩|apply τa|refine τb rfl ?_|refine ⟨⟨by kernel_rfl,by kernel_rfl⟩,?_⟩|refine ⟨by decide,?_⟩|apply τt|apply τf))
          exact ret_tells rfl (AVle.tups (cs := [_, _]) ⟨AVle.refl _, le_bool (t.trans (by rw [decide_eq_true hkl, Bool.true_and, Bool.eq_iff_iff]; simp)), trivial⟩)
      · have hd : decide ((lo : Int) < (l.length : Int)) = false := decide_eq_false (by omega)
        rw [decide_eq_false hkl, Bool.false_and]
        (repeat((conv=>whnf);first|apply ω0|apply ω1|apply ω2|refine τ3 rfl ?_|refine τ4 rfl ?_|refine ⟨rfl,?_⟩|apply τa|refine τb rfl ?_|refine ⟨⟨by kernel_rfl,by kernel_rfl⟩,?_⟩|refine ⟨by decide,?_⟩|apply τt|apply τf))
        (conv => whnf)
        refine lit_eq hd ?_
        (repeat((conv=>whnf);first|apply ω0|apply ω1|apply ω2|refine τ3 rfl ?_|refine τ4 rfl ?_|refine ⟨rfl,?_⟩|apply τa|refine τb rfl ?_|refine ⟨⟨by kernel_rfl,by kernel_rfl⟩,?_⟩|refine ⟨by decide,?_⟩|apply τt|apply τf))
        exact ret_tells rfl (AVle.refl _)
    · have g := yes_of g
      try dsimp only at g
      have hm := half_eq (a := lo) (b := hi) (by omega)
      have hml : (lo + hi) / 2 < l.length := by omega
      have hf1 := find1_spec (l.getD ((lo + hi) / 2) trow0) s
      (repeat((conv=>whnf);first|apply ω0|apply ω1|apply ω2|refine τ3 rfl ?_|refine τ4 rfl ?_|refine ⟨rfl,?_⟩|apply τa|refine τb rfl ?_|refine ⟨⟨by kernel_rfl,by kernel_rfl⟩,?_⟩|refine ⟨by decide,?_⟩|apply τt|apply τf))
      refine ⟨⟨ixge (i := (lo + hi) / 2) hm, ixlt (i := (lo + hi) / 2) hm hml⟩, splitO_eq (b := .rp (trowC (l.getD ((lo + hi) / 2) trow0))) (congrArg (fun z : Int => AV.rp (trowC (l.getD z.toNat trow0))) hm) ?_⟩
      (repeat((conv=>whnf);first|apply ω0|apply ω1|apply ω2|refine τ3 rfl ?_|refine τ4 rfl ?_|refine ⟨rfl,?_⟩|apply τa|refine τb rfl ?_|refine ⟨⟨by kernel_rfl,by kernel_rfl⟩,?_⟩|refine ⟨by decide,?_⟩|apply τt|apply τf))
      refine aop_tells rfl rfl hf1 ⟨AVle.refl _, AVle.refl _, trivial⟩ fun nx2 => ?_
      (repeat((conv=>whnf);first|apply ω0|apply ω1|apply ω2|refine τ3 rfl ?_|refine τ4 rfl ?_|refine ⟨rfl,?_⟩|apply τa|refine τb rfl ?_|refine ⟨⟨by kernel_rfl,by kernel_rfl⟩,?_⟩|refine ⟨by decide,?_⟩|apply τt|apply τf))
      intro c gg; cases c
      · have gg : ¬ cmpS (l.getD ((lo + hi) / 2) trow0).name s < 0 := not_of gg
        have hkm : k ≤ (lo + hi) / 2 := by
          rcases Nat.lt_or_ge ((lo + hi) / 2) k with q | q
          · exact absurd (hlt _ q) gg
          · exact q
        (repeat((conv=>whnf);first|apply ω0|apply ω1|apply ω2|refine τ3 rfl ?_|refine τ4 rfl ?_|refine ⟨rfl,?_⟩|apply τa|refine τb rfl ?_|refine ⟨⟨by kernel_rfl,by kernel_rfl⟩,?_⟩|refine ⟨by decide,?_⟩|apply τt|apply τf))
        exact back (lo, (lo + hi) / 2, nx2) ⟨h1, hkm, by dsimp only; omega⟩ (by dsimp only; omega) (ele_mk rfl rfl ⟨AVle.refl _, AVle.refl _, AVle.refl _, AVle.refl _, AVle.refl _, le_int hm, trivial⟩)
      · have gg : cmpS (l.getD ((lo + hi) / 2) trow0).name s < 0 := yes_of gg
        have hkm : (lo + hi) / 2 + 1 ≤ k := by
          rcases Nat.lt_or_ge ((lo + hi) / 2) k with q | q
          · exact q
          · exact absurd gg (hge _ q hml)
        (repeat((conv=>whnf);first|apply ω0|apply ω1|apply ω2|refine τ3 rfl ?_|refine τ4 rfl ?_|refine ⟨rfl,?_⟩|apply τa|refine τb rfl ?_|refine ⟨⟨by kernel_rfl,by kernel_rfl⟩,?_⟩|refine ⟨by decide,?_⟩|apply τt|apply τf))
        exact back ((lo + hi) / 2 + 1, hi, nx2) ⟨hkm, h2, h3⟩ (by dsimp only; omega) (ele_mk rfl rfl ⟨AVle.refl _, AVle.refl _, AVle.refl _, AVle.refl _, le_int (by rw [hm]; exact wrap_succ (by omega)), AVle.refl _, trivial⟩)
def findA (l : List TRow) (s : ByteArray) : AV := if foundB l s then .tup [trowA (l.getD (lowB l s) trow0), int (lowB l s), boolA true] else .tup [trowA trow0, int 0, boolA false]
theorem tabfind_spec (l : List TRow) (s : ByteArray) (hl : l.length ≤ 1000000) (hs : MonoT l s) : Tells Tryd.prog 29 [trows l, strA s] (findA l s) := by
  have hb := bsearch_spec l s hl hs
  have hk : foundB l s = true → lowB l s < l.length := fun h => by unfold foundB at h; simp only [Bool.and_eq_true, decide_eq_true_eq] at h; exact h.1
  unfold findA
  generalize lowB l s = k at hb hk ⊢
  refine tells_of_aw Tryd.func29 rfl rfl fun nx => ?_
  cases hf : foundB l s with
  | true =>
    rw [hf] at hb hk
    have hk := hk rfl
    rw [if_pos rfl]
    (repeat((conv=>whnf);first|apply ω0|apply ω1|apply ω2|refine τ3 rfl ?_|refine τ4 rfl ?_|refine ⟨rfl,?_⟩|apply τa|refine τb rfl ?_|refine ⟨⟨by kernel_rfl,by kernel_rfl⟩,?_⟩|refine ⟨by decide,?_⟩|apply τt|apply τf))
    refine aop_tells rfl rfl hb ⟨AVle.refl _, AVle.refl _, AVle.refl _, trivial⟩ fun nx2 => ?_
    (repeat((conv=>whnf);first|apply ω0|apply ω1|apply ω2|refine τ3 rfl ?_|refine τ4 rfl ?_|refine ⟨rfl,?_⟩|apply τa|refine τb rfl ?_|refine ⟨⟨by kernel_rfl,by kernel_rfl⟩,?_⟩|refine ⟨by decide,?_⟩|apply τt|apply τf))
    refine ⟨⟨by first | omega | (dsimp only; omega), by first | omega | (dsimp only; omega)⟩, ?_⟩
    (repeat((conv=>whnf);first|apply ω0|apply ω1|apply ω2|refine τ3 rfl ?_|refine τ4 rfl ?_|refine ⟨rfl,?_⟩|apply τa|refine τb rfl ?_|refine ⟨⟨by kernel_rfl,by kernel_rfl⟩,?_⟩|refine ⟨by decide,?_⟩|apply τt|apply τf))
    exact ret_tells_all rfl ⟨rfl, trivial⟩ (AVle.refl _)
  | false =>
    rw [hf] at hb
    rw [if_neg (by decide)]
    (repeat((conv=>whnf);first|apply ω0|apply ω1|apply ω2|refine τ3 rfl ?_|refine τ4 rfl ?_|refine ⟨rfl,?_⟩|apply τa|refine τb rfl ?_|refine ⟨⟨by kernel_rfl,by kernel_rfl⟩,?_⟩|refine ⟨by decide,?_⟩|apply τt|apply τf))
    refine aop_tells rfl rfl hb ⟨AVle.refl _, AVle.refl _, AVle.refl _, trivial⟩ fun nx2 => ?_
    (repeat((conv=>whnf);first|apply ω0|apply ω1|apply ω2|refine τ3 rfl ?_|refine τ4 rfl ?_|refine ⟨rfl,?_⟩|apply τa|refine τb rfl ?_|refine ⟨⟨by kernel_rfl,by kernel_rfl⟩,?_⟩|refine ⟨by decide,?_⟩|apply τt|apply τf))
    exact ret_tells_all rfl ⟨rfl, trivial⟩ (AVle.refl _)
theorem cmpL_lt : ∀ {a b : List UInt8}, Lib.compareBytes a b < 0 ↔ a < b
  | [], [] => by simp [Lib.compareBytes]
  | [], b :: l => by simp [Lib.compareBytes]
  | a :: l, [] => by simp [Lib.compareBytes]
  | a :: l, b :: m => by
    have ih := cmpL_lt (a := l) (b := m)
    unfold Lib.compareBytes
    rw [List.cons_lt_cons_iff]
    split
    · rename_i h; simp [h]
    · rename_i h
      split
      · rename_i h2
        constructor
        · intro h3; exact absurd h3 (by decide)
        · rintro (h3 | ⟨h3, _⟩)
          · exact absurd h3 h
          · subst h3; exact absurd h2 h
      · rename_i h2
        rw [ih]
        constructor
        · intro h3; exact .inr ⟨UInt8.le_antisymm (UInt8.not_lt.1 h2) (UInt8.not_lt.1 h), h3⟩
        · rintro (h3 | ⟨_, h3⟩)
          · exact absurd h3 h
          · exact h3
theorem cmpL_eq0 : ∀ {a b : List UInt8}, Lib.compareBytes a b = 0 ↔ a = b
  | [], [] => by simp [Lib.compareBytes]
  | [], b :: l => by simp [Lib.compareBytes]
  | a :: l, [] => by simp [Lib.compareBytes]
  | a :: l, b :: m => by
    have ih := cmpL_eq0 (a := l) (b := m)
    unfold Lib.compareBytes
    split
    · rename_i h
      constructor
      · intro h3; exact absurd h3 (by decide)
      · intro h3; cases h3; exact absurd h (UInt8.lt_irrefl _)
    · rename_i h
      split
      · rename_i h2
        constructor
        · intro h3; exact absurd h3 (by decide)
        · intro h3; cases h3; exact absurd h2 (UInt8.lt_irrefl _)
      · rename_i h2
        rw [ih, List.cons.injEq]
        exact ⟨fun h3 => ⟨UInt8.le_antisymm (UInt8.not_lt.1 h2) (UInt8.not_lt.1 h), h3⟩, fun h3 => h3.2⟩
theorem data_inj' {s t : ByteArray} (h : s.data.toList = t.data.toList) : s = t := by
  obtain ⟨⟨l⟩⟩ := s; obtain ⟨⟨l'⟩⟩ := t
  exact congrArg (fun l => (⟨⟨l⟩⟩ : ByteArray)) h
theorem ltStr_tot' : ∀ x y : List UInt8, Go.Sort.ltStr x y = false → Go.Sort.ltStr y x = false → x = y := fun x y h1 h2 => by
  simp only [Go.Sort.ltStr, decide_eq_false_iff_not, List.not_lt] at h1 h2
  exact List.le_antisymm h2 h1
theorem cmpS_lt {s t : ByteArray} : cmpS s t < 0 ↔ Go.Sort.ltStr s.data.toList t.data.toList = true := by
  unfold cmpS Go.Sort.ltStr; rw [cmpL_lt, decide_eq_true_iff]
theorem cmpS_eq {s t : ByteArray} : cmpS s t = 0 ↔ s = t := by
  unfold cmpS; rw [cmpL_eq0]
  exact ⟨data_inj', fun h => by rw [h]⟩
theorem leB_no {s t : ByteArray} (h : leB s t = false) : Go.Sort.ltStr t.data.toList s.data.toList = true := by
  unfold leB at h
  rw [Bool.or_eq_false_iff, Go.Proofs.bytesLess_eq, Lib.toList_data, Lib.toList_data] at h
  cases hl : Go.Sort.ltStr t.data.toList s.data.toList with
  | true => rfl
  | false =>
    have e := ltStr_tot' _ _ hl h.1
    rw [e] at h; simp at h
def sortedT (l : List TRow) : Prop := ∀ i j, i < j → j < l.length → Go.Sort.ltStr (l.getD i trow0).name.data.toList (l.getD j trow0).name.data.toList = true
theorem sorted_mono {l : List TRow} (h : sortedT l) (s : ByteArray) : MonoT l s := fun i j hij hj hc => by
  rw [cmpS_lt] at hc ⊢
  exact Go.Sort.swo_ltStr.trans _ _ _ (h i j hij hj) hc
end Go.Proofs.W

namespace Go.Proofs.W
open Go.Vl
set_option maxRecDepth 100000

theorem PmEq_refl3 : ∀ l : List (Vl.Id × Nat), PmEq l l
  | [] => trivial
  | p :: l => ⟨rfl, rfl, PmEq_refl3 l⟩
/-- The conditions of what was seen: those arguments that were alike. -/
def condK (a : Nat → Nat) (k : Nat) : Cnd := ⟨k, 1, 0, a k⟩
def condsL (a : Nat → Nat) (b : Nat → Bool) (n : Nat) : List Cnd := ((List.range n).filter b).map (condK a)
theorem condsL_succ {a : Nat → Nat} {b : Nat → Bool} {n : Nat} : condsL a b (n + 1) = if b n then condsL a b n ++ [condK a n] else condsL a b n := by
  unfold condsL
  rw [List.range_succ, List.filter_append]
  cases h : b n <;> simp [h]
theorem condsL_le {a : Nat → Nat} {b : Nat → Bool} {n : Nat} : (condsL a b n).length ≤ n := by
  unfold condsL
  rw [List.length_map]
  exact Nat.le_trans (List.length_filter_le _ _) (by simp)
theorem csnoc_get {l : List Cnd} {x : Cnd} {k : Nat} (h : k < l.length) : (l ++ [x]).getD k cnd0 = l.getD k cnd0 := by
  simp [List.getD, List.getElem?_append_left h]
theorem csnoc_last {l : List Cnd} {x : Cnd} : (l ++ [x]).getD l.length cnd0 = x := by simp [List.getD]
set_option maxHeartbeats 4000000 in
theorem sconds_spec (m : Nat) (a : Nat → Nat) (b : Nat → Bool) : Tells Tryd.prog 16 [.rp (seenC m a b)] (cnds (condsL a b 6)) := by
  refine tells_of_aw Tryd.func16 rfl rfl fun nx => ?_
  (repeat((conv=>whnf);first|apply ω0|apply ω1|apply ω2|refine τ3 rfl ?_|refine τ4 rfl ?_|refine ⟨rfl,?_⟩|apply τa|refine τb rfl ?_|refine ⟨⟨by kernel_rfl,by kernel_rfl⟩,?_⟩|refine ⟨by decide,?_⟩|apply τt|apply τf))
  refine aw_loop (fun y : Nat × Option Nat × Nat => mk 28 [(0, .rp (seenC m a b)), (3, .os 4 (condsL a b y.1).length (fun j => cndA ((condsL a b y.1).getD j cnd0)) (nmd y.2.1)), (9, .ag [boolA (b 0), boolA (b 1), boolA (b 2), boolA (b 3), boolA (b 4), boolA (b 5)]), (10, int y.1)] ⟨[], pmOf (nmd y.2.1) ((condsL a b y.1).length * 4), y.2.2, 1⟩) (fun y => y.1 ≤ 6 ∧ (y.2.1 = none → (condsL a b y.1).length = 0)) (fun y => 6 - y.1) ?_ ?_
  · exact ⟨(0, none, nx), ⟨Nat.zero_le _, fun _ => rfl⟩, ele_tell (pm := []) _ [] rfl rfl (List.Sublist.refl _) (List.Sublist.refl _) trivial trivial ⟨AVle.refl _, AVle.os_nil, AVle.refl _, AVle.refl _, trivial⟩⟩
  · rintro ⟨k, oi, nx1⟩ ⟨hk, h4⟩
    dsimp only at hk h4
    have hle := condsL_le (a := a) (b := b) (n := k)
    have hsucc := condsL_succ (a := a) (b := b) (n := k)
    obtain rfl | rfl | rfl | rfl | rfl | rfl | rfl : k = 0 ∨ k = 1 ∨ k = 2 ∨ k = 3 ∨ k = 4 ∨ k = 5 ∨ k = 6 := by omega
    · (repeat((conv=>whnf);first|apply ω0|apply ω1|apply ω2|refine τ3 rfl ?_|refine τ4 rfl ?_|refine ⟨rfl,?_⟩|apply τa|refine τb rfl ?_|refine ⟨⟨by kernel_rfl,by kernel_rfl⟩,?_⟩|refine ⟨by decide,?_⟩|apply τt|apply τf))
      intro c hc
      have hc2 : c = b 0 := hc
      clear hc
      cases c
      · rw [if_neg (by rw [← hc2]; decide)] at hsucc
        (repeat((conv=>whnf);first|apply ω0|apply ω1|apply ω2|refine τ3 rfl ?_|refine τ4 rfl ?_|refine ⟨rfl,?_⟩|apply τa|refine τb rfl ?_|refine ⟨⟨by kernel_rfl,by kernel_rfl⟩,?_⟩|refine ⟨by decide,?_⟩|apply τt|apply τf))
        exact back (0 + 1, oi, nx1) ⟨by dsimp only; omega, fun h => by dsimp only; rw [hsucc]; exact h4 h⟩ (by dsimp only; omega) (ele_tell (pm := pmOf (nmd oi) ((condsL a b (0 + 1)).length * 4)) _ _ rfl rfl (List.Sublist.refl _) (List.Sublist.refl _) trivial (by rw [hsucc]; exact PmEq_refl3 _) ⟨AVle.refl _, by rw [hsucc]; exact AVle.refl _, AVle.refl _, AVle.refl _, trivial⟩)
      · rw [if_pos hc2.symm] at hsucc
        have hlen : (condsL a b (0 + 1)).length = (condsL a b 0).length + 1 := by rw [hsucc]; simp
        have hget : ∀ j, j < (condsL a b 0).length → cndA ((condsL a b 0).getD j cnd0) = cndA ((condsL a b (0 + 1)).getD j cnd0) := fun j hj => by rw [hsucc, csnoc_get hj]
        have hlast : cndA (condK a 0) = cndA ((condsL a b (0 + 1)).getD (condsL a b 0).length cnd0) := by rw [hsucc, csnoc_last]
        (repeat((conv=>whnf);first|apply ω0|apply ω1|apply ω2|refine τ3 rfl ?_|refine τ4 rfl ?_|refine ⟨rfl,?_⟩|apply τa|refine τb rfl ?_|refine ⟨⟨by kernel_rfl,by kernel_rfl⟩,?_⟩|refine ⟨by decide,?_⟩|apply τt|apply τf))
        refine ⟨⟨Int.natCast_nonneg _, show ((0 : Nat) : Int) < 6 by decide, by rw [c_u64]; show 0 * 1 ≤ 12; omega⟩, splitO_eq (b := .rp [u64 (a 0 : Nat), u64 (a 1 : Nat), u64 (a 2 : Nat), u64 (a 3 : Nat), u64 (a 4 : Nat), u64 (a 5 : Nat), boolA (b 0), boolA (b 1), boolA (b 2), boolA (b 3), boolA (b 4), boolA (b 5)]) (congrArg AV.rp (by rw [c_u64]; rfl)) ?_⟩
        (repeat((conv=>whnf);first|apply ω0|apply ω1|apply ω2|refine τ3 rfl ?_|refine τ4 rfl ?_|refine ⟨rfl,?_⟩|apply τa|refine τb rfl ?_|refine ⟨⟨by kernel_rfl,by kernel_rfl⟩,?_⟩|refine ⟨by decide,?_⟩|apply τt|apply τf))
        cases oi with
        | none =>
          (repeat((conv=>whnf);first|apply ω0|apply ω1|apply ω2|refine τ3 rfl ?_|refine τ4 rfl ?_|refine ⟨rfl,?_⟩|apply τa|refine τb rfl ?_|refine ⟨⟨by kernel_rfl,by kernel_rfl⟩,?_⟩|refine ⟨by decide,?_⟩|apply τt|apply τf))
          refine ⟨oneRow_one rfl, by show ((condsL a b 0).length + 1) * 32 ≤ _; omega, by dsimp only; omega, ?_⟩
          (repeat((conv=>whnf);first|apply ω0|apply ω1|apply ω2|refine τ3 rfl ?_|refine τ4 rfl ?_|refine ⟨rfl,?_⟩|apply τa|refine τb rfl ?_|refine ⟨⟨by kernel_rfl,by kernel_rfl⟩,?_⟩|refine ⟨by decide,?_⟩|apply τt|apply τf))
          refine back (0 + 1, some nx1, nx1 + 1) ⟨by dsimp only; omega, fun h => by cases h⟩ (by dsimp only; omega) (ele_tell (pm := [((0, nx1), (condsL a b (0 + 1)).length * 4)]) _ _ rfl rfl (List.Sublist.refl _) (List.Sublist.refl _) trivial (by rw [hlen]; exact ⟨rfl, rfl, trivial⟩) ⟨AVle.refl _, by dsimp only; rw [hlen]; exact (AVle.os_fun (appF_one hget hlast)).trans (AVle.os_nm rfl), AVle.refl _, AVle.refl _, trivial⟩)
        | some o1 =>
          (repeat((conv=>whnf);first|apply ω0|apply ω1|apply ω2|refine τ3 rfl ?_|refine τ4 rfl ?_|refine ⟨rfl,?_⟩|apply τa|refine τb rfl ?_|refine ⟨⟨by kernel_rfl,by kernel_rfl⟩,?_⟩|refine ⟨by decide,?_⟩|apply τt|apply τf))
          refine ⟨oneRow_one rfl, by show ((condsL a b 0).length + 1) * 32 ≤ _; omega, by dsimp only; omega, ?_⟩
          (repeat((conv=>whnf);first|apply ω0|apply ω1|apply ω2|refine τ3 rfl ?_|refine τ4 rfl ?_|refine ⟨rfl,?_⟩|apply τa|refine τb rfl ?_|refine ⟨⟨by kernel_rfl,by kernel_rfl⟩,?_⟩|refine ⟨by decide,?_⟩|apply τt|apply τf))
          refine back (0 + 1, some nx1, nx1 + 1) ⟨by dsimp only; omega, fun h => by cases h⟩ (by dsimp only; omega) (ele_tell (pm := [((0, nx1), (condsL a b (0 + 1)).length * 4)]) _ _ rfl rfl (List.Sublist.refl _) (List.Sublist.refl _) trivial (by rw [hlen]; exact ⟨rfl, rfl, trivial⟩) ⟨AVle.refl _, by dsimp only; rw [hlen]; exact (AVle.os_fun (appF_one hget hlast)).trans (AVle.os_nm rfl), AVle.refl _, AVle.refl _, trivial⟩)
    · (repeat((conv=>whnf);first|apply ω0|apply ω1|apply ω2|refine τ3 rfl ?_|refine τ4 rfl ?_|refine ⟨rfl,?_⟩|apply τa|refine τb rfl ?_|refine ⟨⟨by kernel_rfl,by kernel_rfl⟩,?_⟩|refine ⟨by decide,?_⟩|apply τt|apply τf))
      intro c hc
      have hc2 : c = b 1 := hc
      clear hc
      cases c
      · rw [if_neg (by rw [← hc2]; decide)] at hsucc
        (repeat((conv=>whnf);first|apply ω0|apply ω1|apply ω2|refine τ3 rfl ?_|refine τ4 rfl ?_|refine ⟨rfl,?_⟩|apply τa|refine τb rfl ?_|refine ⟨⟨by kernel_rfl,by kernel_rfl⟩,?_⟩|refine ⟨by decide,?_⟩|apply τt|apply τf))
        exact back (1 + 1, oi, nx1) ⟨by dsimp only; omega, fun h => by dsimp only; rw [hsucc]; exact h4 h⟩ (by dsimp only; omega) (ele_tell (pm := pmOf (nmd oi) ((condsL a b (1 + 1)).length * 4)) _ _ rfl rfl (List.Sublist.refl _) (List.Sublist.refl _) trivial (by rw [hsucc]; exact PmEq_refl3 _) ⟨AVle.refl _, by rw [hsucc]; exact AVle.refl _, AVle.refl _, AVle.refl _, trivial⟩)
      · rw [if_pos hc2.symm] at hsucc
        have hlen : (condsL a b (1 + 1)).length = (condsL a b 1).length + 1 := by rw [hsucc]; simp
        have hget : ∀ j, j < (condsL a b 1).length → cndA ((condsL a b 1).getD j cnd0) = cndA ((condsL a b (1 + 1)).getD j cnd0) := fun j hj => by rw [hsucc, csnoc_get hj]
        have hlast : cndA (condK a 1) = cndA ((condsL a b (1 + 1)).getD (condsL a b 1).length cnd0) := by rw [hsucc, csnoc_last]
        (repeat((conv=>whnf);first|apply ω0|apply ω1|apply ω2|refine τ3 rfl ?_|refine τ4 rfl ?_|refine ⟨rfl,?_⟩|apply τa|refine τb rfl ?_|refine ⟨⟨by kernel_rfl,by kernel_rfl⟩,?_⟩|refine ⟨by decide,?_⟩|apply τt|apply τf))
        refine ⟨⟨Int.natCast_nonneg _, show ((1 : Nat) : Int) < 6 by decide, by rw [c_u64]; show 1 * 1 ≤ 12; omega⟩, splitO_eq (b := .rp [u64 (a 1 : Nat), u64 (a 2 : Nat), u64 (a 3 : Nat), u64 (a 4 : Nat), u64 (a 5 : Nat), boolA (b 0), boolA (b 1), boolA (b 2), boolA (b 3), boolA (b 4), boolA (b 5)]) (congrArg AV.rp (by rw [c_u64]; rfl)) ?_⟩
        (repeat((conv=>whnf);first|apply ω0|apply ω1|apply ω2|refine τ3 rfl ?_|refine τ4 rfl ?_|refine ⟨rfl,?_⟩|apply τa|refine τb rfl ?_|refine ⟨⟨by kernel_rfl,by kernel_rfl⟩,?_⟩|refine ⟨by decide,?_⟩|apply τt|apply τf))
        cases oi with
        | none =>
          (repeat((conv=>whnf);first|apply ω0|apply ω1|apply ω2|refine τ3 rfl ?_|refine τ4 rfl ?_|refine ⟨rfl,?_⟩|apply τa|refine τb rfl ?_|refine ⟨⟨by kernel_rfl,by kernel_rfl⟩,?_⟩|refine ⟨by decide,?_⟩|apply τt|apply τf))
          refine ⟨oneRow_one rfl, by show ((condsL a b 1).length + 1) * 32 ≤ _; omega, by dsimp only; omega, ?_⟩
          (repeat((conv=>whnf);first|apply ω0|apply ω1|apply ω2|refine τ3 rfl ?_|refine τ4 rfl ?_|refine ⟨rfl,?_⟩|apply τa|refine τb rfl ?_|refine ⟨⟨by kernel_rfl,by kernel_rfl⟩,?_⟩|refine ⟨by decide,?_⟩|apply τt|apply τf))
          refine back (1 + 1, some nx1, nx1 + 1) ⟨by dsimp only; omega, fun h => by cases h⟩ (by dsimp only; omega) (ele_tell (pm := [((0, nx1), (condsL a b (1 + 1)).length * 4)]) _ _ rfl rfl (List.Sublist.refl _) (List.Sublist.refl _) trivial (by rw [hlen]; exact ⟨rfl, rfl, trivial⟩) ⟨AVle.refl _, by dsimp only; rw [hlen]; exact (AVle.os_fun (appF_one hget hlast)).trans (AVle.os_nm rfl), AVle.refl _, AVle.refl _, trivial⟩)
        | some o1 =>
          (repeat((conv=>whnf);first|apply ω0|apply ω1|apply ω2|refine τ3 rfl ?_|refine τ4 rfl ?_|refine ⟨rfl,?_⟩|apply τa|refine τb rfl ?_|refine ⟨⟨by kernel_rfl,by kernel_rfl⟩,?_⟩|refine ⟨by decide,?_⟩|apply τt|apply τf))
          refine ⟨oneRow_one rfl, by show ((condsL a b 1).length + 1) * 32 ≤ _; omega, by dsimp only; omega, ?_⟩
          (repeat((conv=>whnf);first|apply ω0|apply ω1|apply ω2|refine τ3 rfl ?_|refine τ4 rfl ?_|refine ⟨rfl,?_⟩|apply τa|refine τb rfl ?_|refine ⟨⟨by kernel_rfl,by kernel_rfl⟩,?_⟩|refine ⟨by decide,?_⟩|apply τt|apply τf))
          refine back (1 + 1, some nx1, nx1 + 1) ⟨by dsimp only; omega, fun h => by cases h⟩ (by dsimp only; omega) (ele_tell (pm := [((0, nx1), (condsL a b (1 + 1)).length * 4)]) _ _ rfl rfl (List.Sublist.refl _) (List.Sublist.refl _) trivial (by rw [hlen]; exact ⟨rfl, rfl, trivial⟩) ⟨AVle.refl _, by dsimp only; rw [hlen]; exact (AVle.os_fun (appF_one hget hlast)).trans (AVle.os_nm rfl), AVle.refl _, AVle.refl _, trivial⟩)
    · (repeat((conv=>whnf);first|apply ω0|apply ω1|apply ω2|refine τ3 rfl ?_|refine τ4 rfl ?_|refine ⟨rfl,?_⟩|apply τa|refine τb rfl ?_|refine ⟨⟨by kernel_rfl,by kernel_rfl⟩,?_⟩|refine ⟨by decide,?_⟩|apply τt|apply τf))
      intro c hc
      have hc2 : c = b 2 := hc
      clear hc
      cases c
      · rw [if_neg (by rw [← hc2]; decide)] at hsucc
        (repeat((conv=>whnf);first|apply ω0|apply ω1|apply ω2|refine τ3 rfl ?_|refine τ4 rfl ?_|refine ⟨rfl,?_⟩|apply τa|refine τb rfl ?_|refine ⟨⟨by kernel_rfl,by kernel_rfl⟩,?_⟩|refine ⟨by decide,?_⟩|apply τt|apply τf))
        exact back (2 + 1, oi, nx1) ⟨by dsimp only; omega, fun h => by dsimp only; rw [hsucc]; exact h4 h⟩ (by dsimp only; omega) (ele_tell (pm := pmOf (nmd oi) ((condsL a b (2 + 1)).length * 4)) _ _ rfl rfl (List.Sublist.refl _) (List.Sublist.refl _) trivial (by rw [hsucc]; exact PmEq_refl3 _) ⟨AVle.refl _, by rw [hsucc]; exact AVle.refl _, AVle.refl _, AVle.refl _, trivial⟩)
      · rw [if_pos hc2.symm] at hsucc
        have hlen : (condsL a b (2 + 1)).length = (condsL a b 2).length + 1 := by rw [hsucc]; simp
        have hget : ∀ j, j < (condsL a b 2).length → cndA ((condsL a b 2).getD j cnd0) = cndA ((condsL a b (2 + 1)).getD j cnd0) := fun j hj => by rw [hsucc, csnoc_get hj]
        have hlast : cndA (condK a 2) = cndA ((condsL a b (2 + 1)).getD (condsL a b 2).length cnd0) := by rw [hsucc, csnoc_last]
        (repeat((conv=>whnf);first|apply ω0|apply ω1|apply ω2|refine τ3 rfl ?_|refine τ4 rfl ?_|refine ⟨rfl,?_⟩|apply τa|refine τb rfl ?_|refine ⟨⟨by kernel_rfl,by kernel_rfl⟩,?_⟩|refine ⟨by decide,?_⟩|apply τt|apply τf))
        refine ⟨⟨Int.natCast_nonneg _, show ((2 : Nat) : Int) < 6 by decide, by rw [c_u64]; show 2 * 1 ≤ 12; omega⟩, splitO_eq (b := .rp [u64 (a 2 : Nat), u64 (a 3 : Nat), u64 (a 4 : Nat), u64 (a 5 : Nat), boolA (b 0), boolA (b 1), boolA (b 2), boolA (b 3), boolA (b 4), boolA (b 5)]) (congrArg AV.rp (by rw [c_u64]; rfl)) ?_⟩
        (repeat((conv=>whnf);first|apply ω0|apply ω1|apply ω2|refine τ3 rfl ?_|refine τ4 rfl ?_|refine ⟨rfl,?_⟩|apply τa|refine τb rfl ?_|refine ⟨⟨by kernel_rfl,by kernel_rfl⟩,?_⟩|refine ⟨by decide,?_⟩|apply τt|apply τf))
        cases oi with
        | none =>
          (repeat((conv=>whnf);first|apply ω0|apply ω1|apply ω2|refine τ3 rfl ?_|refine τ4 rfl ?_|refine ⟨rfl,?_⟩|apply τa|refine τb rfl ?_|refine ⟨⟨by kernel_rfl,by kernel_rfl⟩,?_⟩|refine ⟨by decide,?_⟩|apply τt|apply τf))
          refine ⟨oneRow_one rfl, by show ((condsL a b 2).length + 1) * 32 ≤ _; omega, by dsimp only; omega, ?_⟩
          (repeat((conv=>whnf);first|apply ω0|apply ω1|apply ω2|refine τ3 rfl ?_|refine τ4 rfl ?_|refine ⟨rfl,?_⟩|apply τa|refine τb rfl ?_|refine ⟨⟨by kernel_rfl,by kernel_rfl⟩,?_⟩|refine ⟨by decide,?_⟩|apply τt|apply τf))
          refine back (2 + 1, some nx1, nx1 + 1) ⟨by dsimp only; omega, fun h => by cases h⟩ (by dsimp only; omega) (ele_tell (pm := [((0, nx1), (condsL a b (2 + 1)).length * 4)]) _ _ rfl rfl (List.Sublist.refl _) (List.Sublist.refl _) trivial (by rw [hlen]; exact ⟨rfl, rfl, trivial⟩) ⟨AVle.refl _, by dsimp only; rw [hlen]; exact (AVle.os_fun (appF_one hget hlast)).trans (AVle.os_nm rfl), AVle.refl _, AVle.refl _, trivial⟩)
        | some o1 =>
          (repeat((conv=>whnf);first|apply ω0|apply ω1|apply ω2|refine τ3 rfl ?_|refine τ4 rfl ?_|refine ⟨rfl,?_⟩|apply τa|refine τb rfl ?_|refine ⟨⟨by kernel_rfl,by kernel_rfl⟩,?_⟩|refine ⟨by decide,?_⟩|apply τt|apply τf))
          refine ⟨oneRow_one rfl, by show ((condsL a b 2).length + 1) * 32 ≤ _; omega, by dsimp only; omega, ?_⟩
          (repeat((conv=>whnf);first|apply ω0|apply ω1|apply ω2|refine τ3 rfl ?_|refine τ4 rfl ?_|refine ⟨rfl,?_⟩|apply τa|refine τb rfl ?_|refine ⟨⟨by kernel_rfl,by kernel_rfl⟩,?_⟩|refine ⟨by decide,?_⟩|apply τt|apply τf))
          refine back (2 + 1, some nx1, nx1 + 1) ⟨by dsimp only; omega, fun h => by cases h⟩ (by dsimp only; omega) (ele_tell (pm := [((0, nx1), (condsL a b (2 + 1)).length * 4)]) _ _ rfl rfl (List.Sublist.refl _) (List.Sublist.refl _) trivial (by rw [hlen]; exact ⟨rfl, rfl, trivial⟩) ⟨AVle.refl _, by dsimp only; rw [hlen]; exact (AVle.os_fun (appF_one hget hlast)).trans (AVle.os_nm rfl), AVle.refl _, AVle.refl _, trivial⟩)
    · (repeat((conv=>whnf);first|apply ω0|apply ω1|apply ω2|refine τ3 rfl ?_|refine τ4 rfl ?_|refine ⟨rfl,?_⟩|apply τa|refine τb rfl ?_|refine ⟨⟨by kernel_rfl,by kernel_rfl⟩,?_⟩|refine ⟨by decide,?_⟩|apply τt|apply τf))
      intro c hc
      have hc2 : c = b 3 := hc
      clear hc
      cases c
      · rw [if_neg (by rw [← hc2]; decide)] at hsucc
        (repeat((conv=>whnf);first|apply ω0|apply ω1|apply ω2|refine τ3 rfl ?_|refine τ4 rfl ?_|refine ⟨rfl,?_⟩|apply τa|refine τb rfl ?_|refine ⟨⟨by kernel_rfl,by kernel_rfl⟩,?_⟩|refine ⟨by decide,?_⟩|apply τt|apply τf))
        exact back (3 + 1, oi, nx1) ⟨by dsimp only; omega, fun h => by dsimp only; rw [hsucc]; exact h4 h⟩ (by dsimp only; omega) (ele_tell (pm := pmOf (nmd oi) ((condsL a b (3 + 1)).length * 4)) _ _ rfl rfl (List.Sublist.refl _) (List.Sublist.refl _) trivial (by rw [hsucc]; exact PmEq_refl3 _) ⟨AVle.refl _, by rw [hsucc]; exact AVle.refl _, AVle.refl _, AVle.refl _, trivial⟩)
      · rw [if_pos hc2.symm] at hsucc
        have hlen : (condsL a b (3 + 1)).length = (condsL a b 3).length + 1 := by rw [hsucc]; simp
        have hget : ∀ j, j < (condsL a b 3).length → cndA ((condsL a b 3).getD j cnd0) = cndA ((condsL a b (3 + 1)).getD j cnd0) := fun j hj => by rw [hsucc, csnoc_get hj]
        have hlast : cndA (condK a 3) = cndA ((condsL a b (3 + 1)).getD (condsL a b 3).length cnd0) := by rw [hsucc, csnoc_last]
        (repeat((conv=>whnf);first|apply ω0|apply ω1|apply ω2|refine τ3 rfl ?_|refine τ4 rfl ?_|refine ⟨rfl,?_⟩|apply τa|refine τb rfl ?_|refine ⟨⟨by kernel_rfl,by kernel_rfl⟩,?_⟩|refine ⟨by decide,?_⟩|apply τt|apply τf))
        refine ⟨⟨Int.natCast_nonneg _, show ((3 : Nat) : Int) < 6 by decide, by rw [c_u64]; show 3 * 1 ≤ 12; omega⟩, splitO_eq (b := .rp [u64 (a 3 : Nat), u64 (a 4 : Nat), u64 (a 5 : Nat), boolA (b 0), boolA (b 1), boolA (b 2), boolA (b 3), boolA (b 4), boolA (b 5)]) (congrArg AV.rp (by rw [c_u64]; rfl)) ?_⟩
        (repeat((conv=>whnf);first|apply ω0|apply ω1|apply ω2|refine τ3 rfl ?_|refine τ4 rfl ?_|refine ⟨rfl,?_⟩|apply τa|refine τb rfl ?_|refine ⟨⟨by kernel_rfl,by kernel_rfl⟩,?_⟩|refine ⟨by decide,?_⟩|apply τt|apply τf))
        cases oi with
        | none =>
          (repeat((conv=>whnf);first|apply ω0|apply ω1|apply ω2|refine τ3 rfl ?_|refine τ4 rfl ?_|refine ⟨rfl,?_⟩|apply τa|refine τb rfl ?_|refine ⟨⟨by kernel_rfl,by kernel_rfl⟩,?_⟩|refine ⟨by decide,?_⟩|apply τt|apply τf))
          refine ⟨oneRow_one rfl, by show ((condsL a b 3).length + 1) * 32 ≤ _; omega, by dsimp only; omega, ?_⟩
          (repeat((conv=>whnf);first|apply ω0|apply ω1|apply ω2|refine τ3 rfl ?_|refine τ4 rfl ?_|refine ⟨rfl,?_⟩|apply τa|refine τb rfl ?_|refine ⟨⟨by kernel_rfl,by kernel_rfl⟩,?_⟩|refine ⟨by decide,?_⟩|apply τt|apply τf))
          refine back (3 + 1, some nx1, nx1 + 1) ⟨by dsimp only; omega, fun h => by cases h⟩ (by dsimp only; omega) (ele_tell (pm := [((0, nx1), (condsL a b (3 + 1)).length * 4)]) _ _ rfl rfl (List.Sublist.refl _) (List.Sublist.refl _) trivial (by rw [hlen]; exact ⟨rfl, rfl, trivial⟩) ⟨AVle.refl _, by dsimp only; rw [hlen]; exact (AVle.os_fun (appF_one hget hlast)).trans (AVle.os_nm rfl), AVle.refl _, AVle.refl _, trivial⟩)
        | some o1 =>
          (repeat((conv=>whnf);first|apply ω0|apply ω1|apply ω2|refine τ3 rfl ?_|refine τ4 rfl ?_|refine ⟨rfl,?_⟩|apply τa|refine τb rfl ?_|refine ⟨⟨by kernel_rfl,by kernel_rfl⟩,?_⟩|refine ⟨by decide,?_⟩|apply τt|apply τf))
          refine ⟨oneRow_one rfl, by show ((condsL a b 3).length + 1) * 32 ≤ _; omega, by dsimp only; omega, ?_⟩
          (repeat((conv=>whnf);first|apply ω0|apply ω1|apply ω2|refine τ3 rfl ?_|refine τ4 rfl ?_|refine ⟨rfl,?_⟩|apply τa|refine τb rfl ?_|refine ⟨⟨by kernel_rfl,by kernel_rfl⟩,?_⟩|refine ⟨by decide,?_⟩|apply τt|apply τf))
          refine back (3 + 1, some nx1, nx1 + 1) ⟨by dsimp only; omega, fun h => by cases h⟩ (by dsimp only; omega) (ele_tell (pm := [((0, nx1), (condsL a b (3 + 1)).length * 4)]) _ _ rfl rfl (List.Sublist.refl _) (List.Sublist.refl _) trivial (by rw [hlen]; exact ⟨rfl, rfl, trivial⟩) ⟨AVle.refl _, by dsimp only; rw [hlen]; exact (AVle.os_fun (appF_one hget hlast)).trans (AVle.os_nm rfl), AVle.refl _, AVle.refl _, trivial⟩)
    · (repeat((conv=>whnf);first|apply ω0|apply ω1|apply ω2|refine τ3 rfl ?_|refine τ4 rfl ?_|refine ⟨rfl,?_⟩|apply τa|refine τb rfl ?_|refine ⟨⟨by kernel_rfl,by kernel_rfl⟩,?_⟩|refine ⟨by decide,?_⟩|apply τt|apply τf))
      intro c hc
      have hc2 : c = b 4 := hc
      clear hc
      cases c
      · rw [if_neg (by rw [← hc2]; decide)] at hsucc
        (repeat((conv=>whnf);first|apply ω0|apply ω1|apply ω2|refine τ3 rfl ?_|refine τ4 rfl ?_|refine ⟨rfl,?_⟩|apply τa|refine τb rfl ?_|refine ⟨⟨by kernel_rfl,by kernel_rfl⟩,?_⟩|refine ⟨by decide,?_⟩|apply τt|apply τf))
        exact back (4 + 1, oi, nx1) ⟨by dsimp only; omega, fun h => by dsimp only; rw [hsucc]; exact h4 h⟩ (by dsimp only; omega) (ele_tell (pm := pmOf (nmd oi) ((condsL a b (4 + 1)).length * 4)) _ _ rfl rfl (List.Sublist.refl _) (List.Sublist.refl _) trivial (by rw [hsucc]; exact PmEq_refl3 _) ⟨AVle.refl _, by rw [hsucc]; exact AVle.refl _, AVle.refl _, AVle.refl _, trivial⟩)
      · rw [if_pos hc2.symm] at hsucc
        have hlen : (condsL a b (4 + 1)).length = (condsL a b 4).length + 1 := by rw [hsucc]; simp
        have hget : ∀ j, j < (condsL a b 4).length → cndA ((condsL a b 4).getD j cnd0) = cndA ((condsL a b (4 + 1)).getD j cnd0) := fun j hj => by rw [hsucc, csnoc_get hj]
        have hlast : cndA (condK a 4) = cndA ((condsL a b (4 + 1)).getD (condsL a b 4).length cnd0) := by rw [hsucc, csnoc_last]
        (repeat((conv=>whnf);first|apply ω0|apply ω1|apply ω2|refine τ3 rfl ?_|refine τ4 rfl ?_|refine ⟨rfl,?_⟩|apply τa|refine τb rfl ?_|refine ⟨⟨by kernel_rfl,by kernel_rfl⟩,?_⟩|refine ⟨by decide,?_⟩|apply τt|apply τf))
        refine ⟨⟨Int.natCast_nonneg _, show ((4 : Nat) : Int) < 6 by decide, by rw [c_u64]; show 4 * 1 ≤ 12; omega⟩, splitO_eq (b := .rp [u64 (a 4 : Nat), u64 (a 5 : Nat), boolA (b 0), boolA (b 1), boolA (b 2), boolA (b 3), boolA (b 4), boolA (b 5)]) (congrArg AV.rp (by rw [c_u64]; rfl)) ?_⟩
        (repeat((conv=>whnf);first|apply ω0|apply ω1|apply ω2|refine τ3 rfl ?_|refine τ4 rfl ?_|refine ⟨rfl,?_⟩|apply τa|refine τb rfl ?_|refine ⟨⟨by kernel_rfl,by kernel_rfl⟩,?_⟩|refine ⟨by decide,?_⟩|apply τt|apply τf))
        cases oi with
        | none =>
          (repeat((conv=>whnf);first|apply ω0|apply ω1|apply ω2|refine τ3 rfl ?_|refine τ4 rfl ?_|refine ⟨rfl,?_⟩|apply τa|refine τb rfl ?_|refine ⟨⟨by kernel_rfl,by kernel_rfl⟩,?_⟩|refine ⟨by decide,?_⟩|apply τt|apply τf))
          refine ⟨oneRow_one rfl, by show ((condsL a b 4).length + 1) * 32 ≤ _; omega, by dsimp only; omega, ?_⟩
          (repeat((conv=>whnf);first|apply ω0|apply ω1|apply ω2|refine τ3 rfl ?_|refine τ4 rfl ?_|refine ⟨rfl,?_⟩|apply τa|refine τb rfl ?_|refine ⟨⟨by kernel_rfl,by kernel_rfl⟩,?_⟩|refine ⟨by decide,?_⟩|apply τt|apply τf))
          refine back (4 + 1, some nx1, nx1 + 1) ⟨by dsimp only; omega, fun h => by cases h⟩ (by dsimp only; omega) (ele_tell (pm := [((0, nx1), (condsL a b (4 + 1)).length * 4)]) _ _ rfl rfl (List.Sublist.refl _) (List.Sublist.refl _) trivial (by rw [hlen]; exact ⟨rfl, rfl, trivial⟩) ⟨AVle.refl _, by dsimp only; rw [hlen]; exact (AVle.os_fun (appF_one hget hlast)).trans (AVle.os_nm rfl), AVle.refl _, AVle.refl _, trivial⟩)
        | some o1 =>
          (repeat((conv=>whnf);first|apply ω0|apply ω1|apply ω2|refine τ3 rfl ?_|refine τ4 rfl ?_|refine ⟨rfl,?_⟩|apply τa|refine τb rfl ?_|refine ⟨⟨by kernel_rfl,by kernel_rfl⟩,?_⟩|refine ⟨by decide,?_⟩|apply τt|apply τf))
          refine ⟨oneRow_one rfl, by show ((condsL a b 4).length + 1) * 32 ≤ _; omega, by dsimp only; omega, ?_⟩
          (repeat((conv=>whnf);first|apply ω0|apply ω1|apply ω2|refine τ3 rfl ?_|refine τ4 rfl ?_|refine ⟨rfl,?_⟩|apply τa|refine τb rfl ?_|refine ⟨⟨by kernel_rfl,by kernel_rfl⟩,?_⟩|refine ⟨by decide,?_⟩|apply τt|apply τf))
          refine back (4 + 1, some nx1, nx1 + 1) ⟨by dsimp only; omega, fun h => by cases h⟩ (by dsimp only; omega) (ele_tell (pm := [((0, nx1), (condsL a b (4 + 1)).length * 4)]) _ _ rfl rfl (List.Sublist.refl _) (List.Sublist.refl _) trivial (by rw [hlen]; exact ⟨rfl, rfl, trivial⟩) ⟨AVle.refl _, by dsimp only; rw [hlen]; exact (AVle.os_fun (appF_one hget hlast)).trans (AVle.os_nm rfl), AVle.refl _, AVle.refl _, trivial⟩)
    · (repeat((conv=>whnf);first|apply ω0|apply ω1|apply ω2|refine τ3 rfl ?_|refine τ4 rfl ?_|refine ⟨rfl,?_⟩|apply τa|refine τb rfl ?_|refine ⟨⟨by kernel_rfl,by kernel_rfl⟩,?_⟩|refine ⟨by decide,?_⟩|apply τt|apply τf))
      intro c hc
      have hc2 : c = b 5 := hc
      clear hc
      cases c
      · rw [if_neg (by rw [← hc2]; decide)] at hsucc
        (repeat((conv=>whnf);first|apply ω0|apply ω1|apply ω2|refine τ3 rfl ?_|refine τ4 rfl ?_|refine ⟨rfl,?_⟩|apply τa|refine τb rfl ?_|refine ⟨⟨by kernel_rfl,by kernel_rfl⟩,?_⟩|refine ⟨by decide,?_⟩|apply τt|apply τf))
        exact back (5 + 1, oi, nx1) ⟨by dsimp only; omega, fun h => by dsimp only; rw [hsucc]; exact h4 h⟩ (by dsimp only; omega) (ele_tell (pm := pmOf (nmd oi) ((condsL a b (5 + 1)).length * 4)) _ _ rfl rfl (List.Sublist.refl _) (List.Sublist.refl _) trivial (by rw [hsucc]; exact PmEq_refl3 _) ⟨AVle.refl _, by rw [hsucc]; exact AVle.refl _, AVle.refl _, AVle.refl _, trivial⟩)
      · rw [if_pos hc2.symm] at hsucc
        have hlen : (condsL a b (5 + 1)).length = (condsL a b 5).length + 1 := by rw [hsucc]; simp
        have hget : ∀ j, j < (condsL a b 5).length → cndA ((condsL a b 5).getD j cnd0) = cndA ((condsL a b (5 + 1)).getD j cnd0) := fun j hj => by rw [hsucc, csnoc_get hj]
        have hlast : cndA (condK a 5) = cndA ((condsL a b (5 + 1)).getD (condsL a b 5).length cnd0) := by rw [hsucc, csnoc_last]
        (repeat((conv=>whnf);first|apply ω0|apply ω1|apply ω2|refine τ3 rfl ?_|refine τ4 rfl ?_|refine ⟨rfl,?_⟩|apply τa|refine τb rfl ?_|refine ⟨⟨by kernel_rfl,by kernel_rfl⟩,?_⟩|refine ⟨by decide,?_⟩|apply τt|apply τf))
        refine ⟨⟨Int.natCast_nonneg _, show ((5 : Nat) : Int) < 6 by decide, by rw [c_u64]; show 5 * 1 ≤ 12; omega⟩, splitO_eq (b := .rp [u64 (a 5 : Nat), boolA (b 0), boolA (b 1), boolA (b 2), boolA (b 3), boolA (b 4), boolA (b 5)]) (congrArg AV.rp (by rw [c_u64]; rfl)) ?_⟩
        (repeat((conv=>whnf);first|apply ω0|apply ω1|apply ω2|refine τ3 rfl ?_|refine τ4 rfl ?_|refine ⟨rfl,?_⟩|apply τa|refine τb rfl ?_|refine ⟨⟨by kernel_rfl,by kernel_rfl⟩,?_⟩|refine ⟨by decide,?_⟩|apply τt|apply τf))
        cases oi with
        | none =>
          (repeat((conv=>whnf);first|apply ω0|apply ω1|apply ω2|refine τ3 rfl ?_|refine τ4 rfl ?_|refine ⟨rfl,?_⟩|apply τa|refine τb rfl ?_|refine ⟨⟨by kernel_rfl,by kernel_rfl⟩,?_⟩|refine ⟨by decide,?_⟩|apply τt|apply τf))
          refine ⟨oneRow_one rfl, by show ((condsL a b 5).length + 1) * 32 ≤ _; omega, by dsimp only; omega, ?_⟩
          (repeat((conv=>whnf);first|apply ω0|apply ω1|apply ω2|refine τ3 rfl ?_|refine τ4 rfl ?_|refine ⟨rfl,?_⟩|apply τa|refine τb rfl ?_|refine ⟨⟨by kernel_rfl,by kernel_rfl⟩,?_⟩|refine ⟨by decide,?_⟩|apply τt|apply τf))
          refine back (5 + 1, some nx1, nx1 + 1) ⟨by dsimp only; omega, fun h => by cases h⟩ (by dsimp only; omega) (ele_tell (pm := [((0, nx1), (condsL a b (5 + 1)).length * 4)]) _ _ rfl rfl (List.Sublist.refl _) (List.Sublist.refl _) trivial (by rw [hlen]; exact ⟨rfl, rfl, trivial⟩) ⟨AVle.refl _, by dsimp only; rw [hlen]; exact (AVle.os_fun (appF_one hget hlast)).trans (AVle.os_nm rfl), AVle.refl _, AVle.refl _, trivial⟩)
        | some o1 =>
          (repeat((conv=>whnf);first|apply ω0|apply ω1|apply ω2|refine τ3 rfl ?_|refine τ4 rfl ?_|refine ⟨rfl,?_⟩|apply τa|refine τb rfl ?_|refine ⟨⟨by kernel_rfl,by kernel_rfl⟩,?_⟩|refine ⟨by decide,?_⟩|apply τt|apply τf))
          refine ⟨oneRow_one rfl, by show ((condsL a b 5).length + 1) * 32 ≤ _; omega, by dsimp only; omega, ?_⟩
          (repeat((conv=>whnf);first|apply ω0|apply ω1|apply ω2|refine τ3 rfl ?_|refine τ4 rfl ?_|refine ⟨rfl,?_⟩|apply τa|refine τb rfl ?_|refine ⟨⟨by kernel_rfl,by kernel_rfl⟩,?_⟩|refine ⟨by decide,?_⟩|apply τt|apply τf))
          refine back (5 + 1, some nx1, nx1 + 1) ⟨by dsimp only; omega, fun h => by cases h⟩ (by dsimp only; omega) (ele_tell (pm := [((0, nx1), (condsL a b (5 + 1)).length * 4)]) _ _ rfl rfl (List.Sublist.refl _) (List.Sublist.refl _) trivial (by rw [hlen]; exact ⟨rfl, rfl, trivial⟩) ⟨AVle.refl _, by dsimp only; rw [hlen]; exact (AVle.os_fun (appF_one hget hlast)).trans (AVle.os_nm rfl), AVle.refl _, AVle.refl _, trivial⟩)
    · (repeat((conv=>whnf);first|apply ω0|apply ω1|apply ω2|refine τ3 rfl ?_|refine τ4 rfl ?_|refine ⟨rfl,?_⟩|apply τa|refine τb rfl ?_|refine ⟨⟨by kernel_rfl,by kernel_rfl⟩,?_⟩|refine ⟨by decide,?_⟩|apply τt|apply τf))
      cases oi with
      | none =>
        (repeat((conv=>whnf);first|apply ω0|apply ω1|apply ω2|refine τ3 rfl ?_|refine τ4 rfl ?_|refine ⟨rfl,?_⟩|apply τa|refine τb rfl ?_|refine ⟨⟨by kernel_rfl,by kernel_rfl⟩,?_⟩|refine ⟨by decide,?_⟩|apply τt|apply τf))
        exact ret_tells rfl AVle.os_sl
      | some o1 =>
        (repeat((conv=>whnf);first|apply ω0|apply ω1|apply ω2|refine τ3 rfl ?_|refine τ4 rfl ?_|refine ⟨rfl,?_⟩|apply τa|refine τb rfl ?_|refine ⟨⟨by kernel_rfl,by kernel_rfl⟩,?_⟩|refine ⟨by decide,?_⟩|apply τt|apply τf))
        exact ret_tells rfl AVle.os_sl
end Go.Proofs.W

namespace Go.Proofs.W
open Go.Vl
set_option maxRecDepth 100000

def rowOf (l : List TRow) (s : ByteArray) : TRow := if foundB l s then l.getD (lowB l s) trow0 else trow0
set_option maxHeartbeats 2000000 in
theorem ways_spec (l : List TRow) (s : ByteArray) (hl : l.length ≤ 1000000) (hs : MonoT l s) : Tells Tryd.prog 15 [trows l, strA s] (.tup [boolA (foundB l s && decide ((rowOf l s).a2 ≥ 0)), boolA (decide ((rowOf l s).mux > 0))]) := by
  have hf := tabfind_spec l s hl hs
  unfold findA at hf
  unfold rowOf
  cases hb : foundB l s with
  | true =>
    rw [hb, if_pos rfl] at hf
    rw [if_pos rfl]
    generalize l.getD (lowB l s) trow0 = r at hf ⊢
    cases hd : decide (r.a2 ≥ 0) with
    | true =>
      refine tells_of_aw Tryd.func15 rfl rfl fun nx => ?_
      (repeat((conv=>whnf);first|apply ω0|apply ω1|apply ω2|refine τ3 rfl ?_|refine τ4 rfl ?_|refine ⟨rfl,?_⟩|apply τa|refine τb rfl ?_|refine ⟨⟨by kernel_rfl,by kernel_rfl⟩,?_⟩|refine ⟨by decide,?_⟩|apply τt|apply τf))
      refine aop_tells rfl rfl hf ⟨AVle.refl _, AVle.refl _, trivial⟩ fun nx2 => ?_
      (repeat((conv=>whnf);first|apply ω0|apply ω1|apply ω2|refine τ3 rfl ?_|refine τ4 rfl ?_|refine ⟨rfl,?_⟩|apply τa|refine τb rfl ?_|refine ⟨⟨by kernel_rfl,by kernel_rfl⟩,?_⟩|refine ⟨by decide,?_⟩|apply τt|apply τf))
      refine aw_mixN 11 _ (fun _ => false) (fun _ => false) [0, 1, 2, 3, 4, 5, 6, 7, 8, 9, 10] (by kernel_rfl) (by kernel_rfl) (HB.refl _) ?_
      (repeat((conv=>whnf);first|apply ω0|apply ω1|apply ω2|refine τ3 rfl ?_|refine τ4 rfl ?_|refine ⟨rfl,?_⟩|apply τa|refine τb rfl ?_|refine ⟨⟨by kernel_rfl,by kernel_rfl⟩,?_⟩|refine ⟨by decide,?_⟩|apply τt|apply τf))
      refine ⟨_, pure_yes rfl rfl rfl rfl trivial, ?_⟩
      (repeat((conv=>whnf);first|apply ω0|apply ω1|apply ω2|refine τ3 rfl ?_|refine τ4 rfl ?_|refine ⟨rfl,?_⟩|apply τa|refine τb rfl ?_|refine ⟨⟨by kernel_rfl,by kernel_rfl⟩,?_⟩|refine ⟨by decide,?_⟩|apply τt|apply τf))
      refine ⟨_, pure_yes rfl rfl rfl rfl (by first | trivial | exact ⟨rfl, Nat.le_of_ble_eq_true rfl⟩ | exact ⟨by decide, by decide⟩), ?_⟩
      (repeat((conv=>whnf);first|apply ω0|apply ω1|apply ω2|refine τ3 rfl ?_|refine τ4 rfl ?_|refine ⟨rfl,?_⟩|apply τa|refine τb rfl ?_|refine ⟨⟨by kernel_rfl,by kernel_rfl⟩,?_⟩|refine ⟨by decide,?_⟩|apply τt|apply τf))
      refine ⟨_, pure_yes rfl rfl rfl rfl (by first | trivial | exact ⟨rfl, Nat.le_of_ble_eq_true rfl⟩), ?_⟩
      (repeat((conv=>whnf);first|apply ω0|apply ω1|apply ω2|refine τ3 rfl ?_|refine τ4 rfl ?_|refine ⟨rfl,?_⟩|apply τa|refine τb rfl ?_|refine ⟨⟨by kernel_rfl,by kernel_rfl⟩,?_⟩|refine ⟨by decide,?_⟩|apply τt|apply τf))
      refine ⟨.v (.bool true), pure_yesB rfl rfl rfl rfl trivial hd, ?_⟩
      (repeat((conv=>whnf);first|apply ω0|apply ω1|apply ω2|refine τ3 rfl ?_|refine τ4 rfl ?_|refine ⟨rfl,?_⟩|apply τa|refine τb rfl ?_|refine ⟨⟨by kernel_rfl,by kernel_rfl⟩,?_⟩|refine ⟨by decide,?_⟩|apply τt|apply τf))
      exact ret_tells_all rfl trivial (AVle.refl _)
    | false =>
      refine tells_of_aw Tryd.func15 rfl rfl fun nx => ?_
      (repeat((conv=>whnf);first|apply ω0|apply ω1|apply ω2|refine τ3 rfl ?_|refine τ4 rfl ?_|refine ⟨rfl,?_⟩|apply τa|refine τb rfl ?_|refine ⟨⟨by kernel_rfl,by kernel_rfl⟩,?_⟩|refine ⟨by decide,?_⟩|apply τt|apply τf))
      refine aop_tells rfl rfl hf ⟨AVle.refl _, AVle.refl _, trivial⟩ fun nx2 => ?_
      (repeat((conv=>whnf);first|apply ω0|apply ω1|apply ω2|refine τ3 rfl ?_|refine τ4 rfl ?_|refine ⟨rfl,?_⟩|apply τa|refine τb rfl ?_|refine ⟨⟨by kernel_rfl,by kernel_rfl⟩,?_⟩|refine ⟨by decide,?_⟩|apply τt|apply τf))
      refine aw_mixN 11 _ (fun _ => false) (fun _ => false) [0, 1, 2, 3, 4, 5, 6, 7, 8, 9, 10] (by kernel_rfl) (by kernel_rfl) (HB.refl _) ?_
      (repeat((conv=>whnf);first|apply ω0|apply ω1|apply ω2|refine τ3 rfl ?_|refine τ4 rfl ?_|refine ⟨rfl,?_⟩|apply τa|refine τb rfl ?_|refine ⟨⟨by kernel_rfl,by kernel_rfl⟩,?_⟩|refine ⟨by decide,?_⟩|apply τt|apply τf))
      refine ⟨_, pure_yes rfl rfl rfl rfl trivial, ?_⟩
      (repeat((conv=>whnf);first|apply ω0|apply ω1|apply ω2|refine τ3 rfl ?_|refine τ4 rfl ?_|refine ⟨rfl,?_⟩|apply τa|refine τb rfl ?_|refine ⟨⟨by kernel_rfl,by kernel_rfl⟩,?_⟩|refine ⟨by decide,?_⟩|apply τt|apply τf))
      refine ⟨_, pure_yes rfl rfl rfl rfl (by first | trivial | exact ⟨rfl, Nat.le_of_ble_eq_true rfl⟩ | exact ⟨by decide, by decide⟩), ?_⟩
      (repeat((conv=>whnf);first|apply ω0|apply ω1|apply ω2|refine τ3 rfl ?_|refine τ4 rfl ?_|refine ⟨rfl,?_⟩|apply τa|refine τb rfl ?_|refine ⟨⟨by kernel_rfl,by kernel_rfl⟩,?_⟩|refine ⟨by decide,?_⟩|apply τt|apply τf))
      refine ⟨_, pure_yes rfl rfl rfl rfl (by first | trivial | exact ⟨rfl, Nat.le_of_ble_eq_true rfl⟩), ?_⟩
      (repeat((conv=>whnf);first|apply ω0|apply ω1|apply ω2|refine τ3 rfl ?_|refine τ4 rfl ?_|refine ⟨rfl,?_⟩|apply τa|refine τb rfl ?_|refine ⟨⟨by kernel_rfl,by kernel_rfl⟩,?_⟩|refine ⟨by decide,?_⟩|apply τt|apply τf))
      refine ⟨.v (.bool false), pure_yesB rfl rfl rfl rfl trivial hd, ?_⟩
      (repeat((conv=>whnf);first|apply ω0|apply ω1|apply ω2|refine τ3 rfl ?_|refine τ4 rfl ?_|refine ⟨rfl,?_⟩|apply τa|refine τb rfl ?_|refine ⟨⟨by kernel_rfl,by kernel_rfl⟩,?_⟩|refine ⟨by decide,?_⟩|apply τt|apply τf))
      exact ret_tells_all rfl trivial (AVle.refl _)
  | false =>
    rw [hb, if_neg (by decide)] at hf
    rw [if_neg (by decide)]
    refine tells_of_aw Tryd.func15 rfl rfl fun nx => ?_
    (repeat((conv=>whnf);first|apply ω0|apply ω1|apply ω2|refine τ3 rfl ?_|refine τ4 rfl ?_|refine ⟨rfl,?_⟩|apply τa|refine τb rfl ?_|refine ⟨⟨by kernel_rfl,by kernel_rfl⟩,?_⟩|refine ⟨by decide,?_⟩|apply τt|apply τf))
    refine aop_tells rfl rfl hf ⟨AVle.refl _, AVle.refl _, trivial⟩ fun nx2 => ?_
    (repeat((conv=>whnf);first|apply ω0|apply ω1|apply ω2|refine τ3 rfl ?_|refine τ4 rfl ?_|refine ⟨rfl,?_⟩|apply τa|refine τb rfl ?_|refine ⟨⟨by kernel_rfl,by kernel_rfl⟩,?_⟩|refine ⟨by decide,?_⟩|apply τt|apply τf))
    refine aw_mixN 11 _ (fun _ => false) (fun _ => false) [0, 1, 2, 3, 4, 5, 6, 7, 8, 9, 10] (by kernel_rfl) (by kernel_rfl) (HB.refl _) ?_
    (repeat((conv=>whnf);first|apply ω0|apply ω1|apply ω2|refine τ3 rfl ?_|refine τ4 rfl ?_|refine ⟨rfl,?_⟩|apply τa|refine τb rfl ?_|refine ⟨⟨by kernel_rfl,by kernel_rfl⟩,?_⟩|refine ⟨by decide,?_⟩|apply τt|apply τf))
    refine ⟨_, pure_no rfl rfl rfl, ?_⟩
    (repeat((conv=>whnf);first|apply ω0|apply ω1|apply ω2|refine τ3 rfl ?_|refine τ4 rfl ?_|refine ⟨rfl,?_⟩|apply τa|refine τb rfl ?_|refine ⟨⟨by kernel_rfl,by kernel_rfl⟩,?_⟩|refine ⟨by decide,?_⟩|apply τt|apply τf))
    refine ⟨_, pure_no rfl rfl rfl, ?_⟩
    (repeat((conv=>whnf);first|apply ω0|apply ω1|apply ω2|refine τ3 rfl ?_|refine τ4 rfl ?_|refine ⟨rfl,?_⟩|apply τa|refine τb rfl ?_|refine ⟨⟨by kernel_rfl,by kernel_rfl⟩,?_⟩|refine ⟨by decide,?_⟩|apply τt|apply τf))
    refine ⟨_, pure_no rfl rfl rfl, ?_⟩
    (repeat((conv=>whnf);first|apply ω0|apply ω1|apply ω2|refine τ3 rfl ?_|refine τ4 rfl ?_|refine ⟨rfl,?_⟩|apply τa|refine τb rfl ?_|refine ⟨⟨by kernel_rfl,by kernel_rfl⟩,?_⟩|refine ⟨by decide,?_⟩|apply τt|apply τf))
    refine ⟨_, pure_no rfl rfl rfl, ?_⟩
    (repeat((conv=>whnf);first|apply ω0|apply ω1|apply ω2|refine τ3 rfl ?_|refine τ4 rfl ?_|refine ⟨rfl,?_⟩|apply τa|refine τb rfl ?_|refine ⟨⟨by kernel_rfl,by kernel_rfl⟩,?_⟩|refine ⟨by decide,?_⟩|apply τt|apply τf))
    exact ret_tells_all rfl trivial (AVle.refl _)
end Go.Proofs.W
