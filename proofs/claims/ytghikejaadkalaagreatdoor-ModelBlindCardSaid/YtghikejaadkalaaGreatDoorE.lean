import Derived.Test.YtghikejaadkalaaGreatDoorD
import Derived.Test.YtghikejaadkalaaGreatDoorC
import Derived.Sort.AssemblyPlain
import Derived.KernelRfl
import Derived.Test.YtghikejaadkalaaGreatDoorProg
import Derived.Shelf.SortM.Plain
import Derived.Shelf.SortM.SortNone
import Derived.Shelf.SlGeneric
import Derived.Ground.SlgmProg
import Derived.Sort.Walk0
import Derived.Shelf.Strings.Search1
import Derived.Shelf.Strings.FieldsFuncGrows
set_option linter.unusedVariables false
set_option linter.unusedSimpArgs false
namespace Go.Proofs.W
open Go.Vl
set_option maxRecDepth 100000

/-- A way of calling. -/
structure Inf where
  name : ByteArray
  token : Nat
  bit : Bool
  bits : Int
def inf0 : Inf := ⟨⟨#[]⟩, 0, false, 0⟩
def infC (i : Inf) : List AV := [strA i.name, u32 i.token, boolA i.bit, int i.bits]
def infA (i : Inf) : AV := .ag (infC i)
def infL : List Inf := [⟨⟨#[120, 56, 54, 95, 54, 52]⟩, 3221225534, false, 64⟩, ⟨⟨#[120, 51, 50]⟩, 3221225534, true, 64⟩, ⟨⟨#[105, 51, 56, 54]⟩, 1073741827, false, 32⟩, ⟨⟨#[97, 114, 109, 54, 52]⟩, 3221225655, false, 64⟩, ⟨⟨#[114, 105, 115, 99, 118, 54, 52]⟩, 3221225715, false, 64⟩]
def infN : List (Nat × Inf) := [(0, infL.getD 0 inf0), (1, infL.getD 1 inf0), (2, infL.getD 2 inf0), (3, infL.getD 3 inf0), (4, infL.getD 4 inf0)]
def infE (p : Nat × Inf) : List AV := [int p.1, infA p.2]
def infAll : AV := .ag (infL.flatMap infC)
theorem rows_iter : IterSpec Tryz.prog 157 [] [] infE infN := by
  intro i σ Cb Cp I J hc s0 nx nn h0
  refine ECall.wk (ecall_of_aw Tryz.func157 rfl rfl ?_)
  refine AW.le (E' := mk 22 [(0, .yl i)] ⟨Cb s0, Cp s0, nx, 0⟩) (ele_tell (bx := Cb s0) (pm := Cp s0) _ _ rfl rfl (List.Sublist.refl _) (List.Sublist.refl _) (BxLe.refl _) (PmEq.refl _) ⟨AVle.refl _, trivial⟩) ?_
  (repeat((conv=>whnf);first|apply ω0|apply ω1|apply ω2|refine τ3 rfl ?_|refine τ4 rfl ?_|refine ⟨rfl,?_⟩|apply τa|refine τb rfl ?_|refine ⟨⟨by kernel_rfl,by kernel_rfl⟩,?_⟩|refine ⟨by decide,?_⟩|apply τt|apply τf))
  refine AW.le (E' := mk 22 [(0, .yl i), (11, infAll), (12, int 0)] ⟨Cb s0, Cp s0, nx + 1, 0⟩) (ele_tell (bx := Cb s0) (pm := Cp s0) _ _ rfl rfl (.cons _ (List.Sublist.refl _)) (List.Sublist.refl _) (BxLe.refl _) (PmEq.refl _) ⟨AVle.refl _, AVle.refl _, AVle.refl _, trivial⟩) ?_
  refine aw_loop (fun y : Nat × σ × Nat => mk 22 [(0, .yl i), (11, infAll), (12, int y.1)] ⟨Cb y.2.1, Cp y.2.1, y.2.2, 0⟩) (fun y => y.1 ≤ 5 ∧ I (infN.take y.1) y.2.1) (fun y => 5 - y.1) ?_ ?_
  · exact ⟨(0, s0, nx + 1), ⟨Nat.zero_le _, h0⟩, ele_tell _ _ rfl rfl (List.Sublist.refl _) (List.Sublist.refl _) (BxLe.refl _) (PmEq.refl _) ⟨AVle.refl _, AVle.refl _, AVle.refl _, trivial⟩⟩
  · rintro ⟨k, s, nx1⟩ ⟨hk, hI⟩
    dsimp only at hk hI
    rcases k with _ | _ | _ | _ | _ | _ | k
    · (repeat((conv=>whnf);first|apply ω0|apply ω1|apply ω2|refine τ3 rfl ?_|refine τ4 rfl ?_|refine ⟨rfl,?_⟩|apply τa|refine τb rfl ?_|refine ⟨⟨by kernel_rfl,by kernel_rfl⟩,?_⟩|refine ⟨by decide,?_⟩|apply τt|apply τf))
      refine aop_hand [((0, nx1), .c (infC (infL.getD 0 inf0)))] [] rfl rfl rfl hc (show infN = infN.take 0 ++ (0, infL.getD 0 inf0) :: infN.drop (0 + 1) from rfl) hI ⟨AVle.refl _, AVle.refl _, trivial⟩ (fun s' nx' hI' => ?_) (fun s' nx' hJ => ?_)
      · (repeat((conv=>whnf);first|apply ω0|apply ω1|apply ω2|refine τ3 rfl ?_|refine τ4 rfl ?_|refine ⟨rfl,?_⟩|apply τa|refine τb rfl ?_|refine ⟨⟨by kernel_rfl,by kernel_rfl⟩,?_⟩|refine ⟨by decide,?_⟩|apply τt|apply τf))
        exact back (0 + 1, s', nx') ⟨by dsimp only; omega, hI'⟩ (by dsimp only; omega) (ele_tell _ _ rfl rfl (.cons _ (List.Sublist.refl _)) (List.Sublist.refl _) (BxLe.refl _) (PmEq.refl _) ⟨AVle.refl _, AVle.refl _, AVle.refl _, trivial⟩)
      · (repeat((conv=>whnf);first|apply ω0|apply ω1|apply ω2|refine τ3 rfl ?_|refine τ4 rfl ?_|refine ⟨rfl,?_⟩|apply τa|refine τb rfl ?_|refine ⟨⟨by kernel_rfl,by kernel_rfl⟩,?_⟩|refine ⟨by decide,?_⟩|apply τt|apply τf))
        exact ret_is rfl ⟨_, ⟨Cb s', Cp s', nx', 0⟩, AVle.refl _, hle_tell _ _ rfl (.cons _ (List.Sublist.refl _)) (List.Sublist.refl _) (BxLe.refl _) (PmEq.refl _), s', .inr ⟨_, _, _, rfl, hJ⟩, rfl, rfl⟩
    · (repeat((conv=>whnf);first|apply ω0|apply ω1|apply ω2|refine τ3 rfl ?_|refine τ4 rfl ?_|refine ⟨rfl,?_⟩|apply τa|refine τb rfl ?_|refine ⟨⟨by kernel_rfl,by kernel_rfl⟩,?_⟩|refine ⟨by decide,?_⟩|apply τt|apply τf))
      refine aop_hand [((0, nx1), .c (infC (infL.getD 1 inf0)))] [] rfl rfl rfl hc (show infN = infN.take 1 ++ (1, infL.getD 1 inf0) :: infN.drop (1 + 1) from rfl) hI ⟨AVle.refl _, AVle.refl _, trivial⟩ (fun s' nx' hI' => ?_) (fun s' nx' hJ => ?_)
      · (repeat((conv=>whnf);first|apply ω0|apply ω1|apply ω2|refine τ3 rfl ?_|refine τ4 rfl ?_|refine ⟨rfl,?_⟩|apply τa|refine τb rfl ?_|refine ⟨⟨by kernel_rfl,by kernel_rfl⟩,?_⟩|refine ⟨by decide,?_⟩|apply τt|apply τf))
        exact back (1 + 1, s', nx') ⟨by dsimp only; omega, hI'⟩ (by dsimp only; omega) (ele_tell _ _ rfl rfl (.cons _ (List.Sublist.refl _)) (List.Sublist.refl _) (BxLe.refl _) (PmEq.refl _) ⟨AVle.refl _, AVle.refl _, AVle.refl _, trivial⟩)
      · (repeat((conv=>whnf);first|apply ω0|apply ω1|apply ω2|refine τ3 rfl ?_|refine τ4 rfl ?_|refine ⟨rfl,?_⟩|apply τa|refine τb rfl ?_|refine ⟨⟨by kernel_rfl,by kernel_rfl⟩,?_⟩|refine ⟨by decide,?_⟩|apply τt|apply τf))
        exact ret_is rfl ⟨_, ⟨Cb s', Cp s', nx', 0⟩, AVle.refl _, hle_tell _ _ rfl (.cons _ (List.Sublist.refl _)) (List.Sublist.refl _) (BxLe.refl _) (PmEq.refl _), s', .inr ⟨_, _, _, rfl, hJ⟩, rfl, rfl⟩
    · (repeat((conv=>whnf);first|apply ω0|apply ω1|apply ω2|refine τ3 rfl ?_|refine τ4 rfl ?_|refine ⟨rfl,?_⟩|apply τa|refine τb rfl ?_|refine ⟨⟨by kernel_rfl,by kernel_rfl⟩,?_⟩|refine ⟨by decide,?_⟩|apply τt|apply τf))
      refine aop_hand [((0, nx1), .c (infC (infL.getD 2 inf0)))] [] rfl rfl rfl hc (show infN = infN.take 2 ++ (2, infL.getD 2 inf0) :: infN.drop (2 + 1) from rfl) hI ⟨AVle.refl _, AVle.refl _, trivial⟩ (fun s' nx' hI' => ?_) (fun s' nx' hJ => ?_)
      · (repeat((conv=>whnf);first|apply ω0|apply ω1|apply ω2|refine τ3 rfl ?_|refine τ4 rfl ?_|refine ⟨rfl,?_⟩|apply τa|refine τb rfl ?_|refine ⟨⟨by kernel_rfl,by kernel_rfl⟩,?_⟩|refine ⟨by decide,?_⟩|apply τt|apply τf))
        exact back (2 + 1, s', nx') ⟨by dsimp only; omega, hI'⟩ (by dsimp only; omega) (ele_tell _ _ rfl rfl (.cons _ (List.Sublist.refl _)) (List.Sublist.refl _) (BxLe.refl _) (PmEq.refl _) ⟨AVle.refl _, AVle.refl _, AVle.refl _, trivial⟩)
      · (repeat((conv=>whnf);first|apply ω0|apply ω1|apply ω2|refine τ3 rfl ?_|refine τ4 rfl ?_|refine ⟨rfl,?_⟩|apply τa|refine τb rfl ?_|refine ⟨⟨by kernel_rfl,by kernel_rfl⟩,?_⟩|refine ⟨by decide,?_⟩|apply τt|apply τf))
        exact ret_is rfl ⟨_, ⟨Cb s', Cp s', nx', 0⟩, AVle.refl _, hle_tell _ _ rfl (.cons _ (List.Sublist.refl _)) (List.Sublist.refl _) (BxLe.refl _) (PmEq.refl _), s', .inr ⟨_, _, _, rfl, hJ⟩, rfl, rfl⟩
    · (repeat((conv=>whnf);first|apply ω0|apply ω1|apply ω2|refine τ3 rfl ?_|refine τ4 rfl ?_|refine ⟨rfl,?_⟩|apply τa|refine τb rfl ?_|refine ⟨⟨by kernel_rfl,by kernel_rfl⟩,?_⟩|refine ⟨by decide,?_⟩|apply τt|apply τf))
      refine aop_hand [((0, nx1), .c (infC (infL.getD 3 inf0)))] [] rfl rfl rfl hc (show infN = infN.take 3 ++ (3, infL.getD 3 inf0) :: infN.drop (3 + 1) from rfl) hI ⟨AVle.refl _, AVle.refl _, trivial⟩ (fun s' nx' hI' => ?_) (fun s' nx' hJ => ?_)
      · (repeat((conv=>whnf);first|apply ω0|apply ω1|apply ω2|refine τ3 rfl ?_|refine τ4 rfl ?_|refine ⟨rfl,?_⟩|apply τa|refine τb rfl ?_|refine ⟨⟨by kernel_rfl,by kernel_rfl⟩,?_⟩|refine ⟨by decide,?_⟩|apply τt|apply τf))
        exact back (3 + 1, s', nx') ⟨by dsimp only; omega, hI'⟩ (by dsimp only; omega) (ele_tell _ _ rfl rfl (.cons _ (List.Sublist.refl _)) (List.Sublist.refl _) (BxLe.refl _) (PmEq.refl _) ⟨AVle.refl _, AVle.refl _, AVle.refl _, trivial⟩)
      · (repeat((conv=>whnf);first|apply ω0|apply ω1|apply ω2|refine τ3 rfl ?_|refine τ4 rfl ?_|refine ⟨rfl,?_⟩|apply τa|refine τb rfl ?_|refine ⟨⟨by kernel_rfl,by kernel_rfl⟩,?_⟩|refine ⟨by decide,?_⟩|apply τt|apply τf))
        exact ret_is rfl ⟨_, ⟨Cb s', Cp s', nx', 0⟩, AVle.refl _, hle_tell _ _ rfl (.cons _ (List.Sublist.refl _)) (List.Sublist.refl _) (BxLe.refl _) (PmEq.refl _), s', .inr ⟨_, _, _, rfl, hJ⟩, rfl, rfl⟩
    · (repeat((conv=>whnf);first|apply ω0|apply ω1|apply ω2|refine τ3 rfl ?_|refine τ4 rfl ?_|refine ⟨rfl,?_⟩|apply τa|refine τb rfl ?_|refine ⟨⟨by kernel_rfl,by kernel_rfl⟩,?_⟩|refine ⟨by decide,?_⟩|apply τt|apply τf))
      refine aop_hand [((0, nx1), .c (infC (infL.getD 4 inf0)))] [] rfl rfl rfl hc (show infN = infN.take 4 ++ (4, infL.getD 4 inf0) :: infN.drop (4 + 1) from rfl) hI ⟨AVle.refl _, AVle.refl _, trivial⟩ (fun s' nx' hI' => ?_) (fun s' nx' hJ => ?_)
      · (repeat((conv=>whnf);first|apply ω0|apply ω1|apply ω2|refine τ3 rfl ?_|refine τ4 rfl ?_|refine ⟨rfl,?_⟩|apply τa|refine τb rfl ?_|refine ⟨⟨by kernel_rfl,by kernel_rfl⟩,?_⟩|refine ⟨by decide,?_⟩|apply τt|apply τf))
        exact back (4 + 1, s', nx') ⟨by dsimp only; omega, hI'⟩ (by dsimp only; omega) (ele_tell _ _ rfl rfl (.cons _ (List.Sublist.refl _)) (List.Sublist.refl _) (BxLe.refl _) (PmEq.refl _) ⟨AVle.refl _, AVle.refl _, AVle.refl _, trivial⟩)
      · (repeat((conv=>whnf);first|apply ω0|apply ω1|apply ω2|refine τ3 rfl ?_|refine τ4 rfl ?_|refine ⟨rfl,?_⟩|apply τa|refine τb rfl ?_|refine ⟨⟨by kernel_rfl,by kernel_rfl⟩,?_⟩|refine ⟨by decide,?_⟩|apply τt|apply τf))
        exact ret_is rfl ⟨_, ⟨Cb s', Cp s', nx', 0⟩, AVle.refl _, hle_tell _ _ rfl (.cons _ (List.Sublist.refl _)) (List.Sublist.refl _) (BxLe.refl _) (PmEq.refl _), s', .inr ⟨_, _, _, rfl, hJ⟩, rfl, rfl⟩
    · (repeat((conv=>whnf);first|apply ω0|apply ω1|apply ω2|refine τ3 rfl ?_|refine τ4 rfl ?_|refine ⟨rfl,?_⟩|apply τa|refine τb rfl ?_|refine ⟨⟨by kernel_rfl,by kernel_rfl⟩,?_⟩|refine ⟨by decide,?_⟩|apply τt|apply τf))
      exact ret_is rfl ⟨_, ⟨Cb s, Cp s, nx1, 0⟩, AVle.refl _, HLe.refl _, s, .inl hI, rfl, rfl⟩
    · omega
theorem abirows_spec : Tells Tryz.prog 108 [] (.fn (.func 157) [] []) := by
  refine tells_of_aw Tryz.func108 rfl rfl fun nx => ?_
  (repeat((conv=>whnf);first|apply ω0|apply ω1|apply ω2|refine τ3 rfl ?_|refine τ4 rfl ?_|refine ⟨rfl,?_⟩|apply τa|refine τb rfl ?_|refine ⟨⟨by kernel_rfl,by kernel_rfl⟩,?_⟩|refine ⟨by decide,?_⟩|apply τt|apply τf))
  exact ret_tells rfl (AVle.refl _)
theorem inf_cases {pre post : List (Nat × Inf)} {x : Nat × Inf} (h : infN = pre ++ x :: post) : (pre = infN.take 0 ∧ x = (0, infL.getD 0 inf0)) ∨ (pre = infN.take 1 ∧ x = (1, infL.getD 1 inf0)) ∨ (pre = infN.take 2 ∧ x = (2, infL.getD 2 inf0)) ∨ (pre = infN.take 3 ∧ x = (3, infL.getD 3 inf0)) ∨ (pre = infN.take 4 ∧ x = (4, infL.getD 4 inf0)) := by
  have hl : pre.length < 5 := by have := congrArg List.length h; simp [infN] at this; omega
  have hp : pre = infN.take pre.length := by rw [h]; simp
  have hx : infN[pre.length]? = some x := by rw [h]; simp
  rcases (by omega : pre.length = 0 ∨ pre.length = 1 ∨ pre.length = 2 ∨ pre.length = 3 ∨ pre.length = 4) with e | e | e | e | e
  all_goals rw [e] at hp hx
  · exact .inl ⟨hp, (Option.some.inj hx).symm⟩
  · exact .inr (.inl ⟨hp, (Option.some.inj hx).symm⟩)
  · exact .inr (.inr (.inl ⟨hp, (Option.some.inj hx).symm⟩))
  · exact .inr (.inr (.inr (.inl ⟨hp, (Option.some.inj hx).symm⟩)))
  · exact .inr (.inr (.inr (.inr ⟨hp, (Option.some.inj hx).symm⟩)))
def withB (num : Nat) : Bool := decide (num &&& 1073741824 ≠ 0) && decide (num ≠ 4294967295)
def selB (arch : Nat) (w : Bool) (x : Nat × Inf) : Bool := decide (x.2.token = arch) && ((decide (x.1 ≠ 0) && decide (x.1 ≠ 1)) || (x.2.bit == w))
def selA (arch num : Nat) : AV := match infN.find? (selB arch (withB num)) with
  | some x => .tup [int x.1, boolA true]
  | none => .tup [int 0, boolA false]
theorem sel_none {arch num : Nat} (h : ∀ y ∈ infN, selB arch (withB num) y = false) : selA arch num = .tup [int 0, boolA false] := by
  unfold selA
  rw [List.find?_eq_none.2 (fun x hx => by rw [h x hx]; decide)]
theorem sel_some {arch num : Nat} {pre post : List (Nat × Inf)} {x : Nat × Inf} (hx : infN = pre ++ x :: post) (h : ∀ y ∈ pre, selB arch (withB num) y = false) (hs : selB arch (withB num) x = true) : selA arch num = .tup [int x.1, boolA true] := by
  unfold selA
  have : infN.find? (selB arch (withB num)) = some x := by
    rw [hx, List.find?_append, List.find?_eq_none.2 (fun y hy => by rw [h y hy]; decide), List.find?_cons, hs]; rfl
  rw [this]
theorem and32 {a b : Nat} (ha : a < 4294967296) (hb : b < 4294967296) : bitsI .and .u32 (a : Int) (b : Int) = ((a &&& b : Nat) : Int) :=
  bits_and (k := .u32) ha hb (by
    have : a &&& b ≤ a := Nat.and_le_left
    simp [IntKind.wrap, IntKind.signed, IntKind.bits] at this ⊢
    omega)
theorem sel_tok {arch : Nat} {w : Bool} {x : Nat × Inf} (h : false = ((x.2.token : Int) == (arch : Int))) : selB arch w x = false := by
  unfold selB
  rw [show decide (x.2.token = arch) = false from decide_eq_false (fun e => by rw [e] at h; simp at h)]; rfl
theorem sel_no {arch : Nat} {w : Bool} {x : Nat × Inf} (t : true = ((x.2.token : Int) == (arch : Int))) (h : ((decide (x.1 ≠ 0) && decide (x.1 ≠ 1)) || (x.2.bit == w)) = false) : selB arch w x = false := by
  unfold selB; rw [h, Bool.and_false]
theorem sel_yes {arch : Nat} {w : Bool} {x : Nat × Inf} (t : true = ((x.2.token : Int) == (arch : Int))) (h : ((decide (x.1 ≠ 0) && decide (x.1 ≠ 1)) || (x.2.bit == w)) = true) : selB arch w x = true := by
  unfold selB
  have e : x.2.token = arch := by have : (x.2.token : Int) = (arch : Int) := by simpa using t.symm
                                  omega
  rw [h, decide_eq_true e]; rfl
theorem sel_more {arch : Nat} {w : Bool} {x : Nat × Inf} {pre : List (Nat × Inf)} (h : ∀ z ∈ pre, selB arch w z = false) (hx : selB arch w x = false) : ∀ z ∈ pre ++ [x], selB arch w z = false := fun z hz => by
  rcases List.mem_append.1 hz with q | q
  · exact h z q
  · rw [List.mem_singleton.1 q]; exact hx
set_option maxHeartbeats 4000000 in
theorem select_spec (arch num : Nat) (ha : arch < 4294967296) (hn : num < 4294967296) : Tells Tryz.prog 59 [u32 arch, u32 num] (selA arch num) := by
  refine tells_of_aw Tryz.func59 rfl rfl fun nx => ?_
  ((repeat((conv=>whnf);first|apply ω0|apply ω2|refine τ3 rfl ?_|refine τ4 rfl ?_|refine ⟨rfl,?_⟩|apply τa|refine τb rfl ?_|refine ⟨⟨by kernel_rfl,by kernel_rfl⟩,?_⟩|refine ⟨by decide,?_⟩|apply τt|apply τf)); refine aw_region ?_; (repeat((conv=>whnf);first|apply ω0|apply ω2|refine τ3 rfl ?_|refine τ4 rfl ?_|refine ⟨rfl,?_⟩|apply τa|refine τb rfl ?_|refine ⟨⟨by kernel_rfl,by kernel_rfl⟩,?_⟩|refine ⟨by decide,?_⟩|apply τt|apply τf)))
  refine aw_mid (fun y : Nat => mk 38 [(2, .bp (0, nx) 0), (4, .bp (1, nx + 1) 0), (5, .bp (2, nx + 2) 0), (6, .bp (3, nx + 3) 0)] ⟨[((3, nx + 3), .c [boolA (withB num)]), ((2, nx + 2), .c [boolA false]), ((1, nx + 1), .c [int 0]), ((0, nx), .c [u32 arch])], [], y, 4⟩) (fun _ => True) ?_ ?_
  · have hw : withB num = (decide (num &&& 1073741824 ≠ 0) && decide (num ≠ 4294967295)) := rfl
    (repeat((conv=>whnf);first|apply ω0|apply ω1|apply ω2|refine τ3 rfl ?_|refine τ4 rfl ?_|refine ⟨rfl,?_⟩|apply τa|refine τb rfl ?_|refine ⟨⟨by kernel_rfl,by kernel_rfl⟩,?_⟩|refine ⟨by decide,?_⟩|apply τt|apply τf))
    intro c hc
    have hc2 : c = decide (num &&& 1073741824 ≠ 0) := by
      rw [hc]
      show (bitsI .and .u32 (num : Int) ((1073741824 : Nat) : Int) != 0) = _
      rw [and32 hn (by decide), Bool.eq_iff_iff]
      simp
    clear hc
    rw [← hc2] at hw
    clear hc2
    cases c
    · rw [hw]
      (repeat((conv=>whnf);first|apply ω0|apply ω1|apply ω2|refine τ3 rfl ?_|refine τ4 rfl ?_|refine ⟨rfl,?_⟩|apply τa|refine τb rfl ?_|refine ⟨⟨by kernel_rfl,by kernel_rfl⟩,?_⟩|refine ⟨by decide,?_⟩|apply τt|apply τf))
      exact ⟨nx + 4, trivial, ele_tell (pm := []) _ [] rfl rfl (List.Sublist.refl _) (List.Sublist.refl _) (BxLe.refl _) trivial ⟨AVle.refl _, AVle.refl _, AVle.refl _, AVle.refl _, trivial⟩⟩
    · rw [Bool.true_and] at hw
      (repeat((conv=>whnf);first|apply ω0|apply ω1|apply ω2|refine τ3 rfl ?_|refine τ4 rfl ?_|refine ⟨rfl,?_⟩|apply τa|refine τb rfl ?_|refine ⟨⟨by kernel_rfl,by kernel_rfl⟩,?_⟩|refine ⟨by decide,?_⟩|apply τt|apply τf))
      intro c hc
      have hc2 : c = withB num := by
        rw [hw, hc, Bool.eq_iff_iff]
        simp
        omega
      rw [← hc2]
      clear hc hc2 hw
      cases c
      all_goals
        (repeat((conv=>whnf);first|apply ω0|apply ω1|apply ω2|refine τ3 rfl ?_|refine τ4 rfl ?_|refine ⟨rfl,?_⟩|apply τa|refine τb rfl ?_|refine ⟨⟨by kernel_rfl,by kernel_rfl⟩,?_⟩|refine ⟨by decide,?_⟩|apply τt|apply τf))
        exact ⟨nx + 4, trivial, ele_tell (pm := []) _ [] rfl rfl (List.Sublist.refl _) (List.Sublist.refl _) (BxLe.refl _) trivial ⟨AVle.refl _, AVle.refl _, AVle.refl _, AVle.refl _, trivial⟩⟩
  · rintro nx2 -
    (repeat((conv=>whnf);first|apply ω0|apply ω1|apply ω2|refine τ3 rfl ?_|refine τ4 rfl ?_|refine ⟨rfl,?_⟩|apply τa|refine τb rfl ?_|refine ⟨⟨by kernel_rfl,by kernel_rfl⟩,?_⟩|refine ⟨by decide,?_⟩|apply τt|apply τf))
    refine aop_tells rfl rfl abirows_spec trivial fun nx3 => ?_
    (repeat((conv=>whnf);first|apply ω0|apply ω1|apply ω2|refine τ3 rfl ?_|refine τ4 rfl ?_|refine ⟨rfl,?_⟩|apply τa|refine τb rfl ?_|refine ⟨⟨by kernel_rfl,by kernel_rfl⟩,?_⟩|refine ⟨by decide,?_⟩|apply τt|apply τf))
    refine AW.le (E' := mk 38 [(2, .bp (0, nx) 0), (4, .bp (1, nx + 1) 0), (5, .bp (2, nx + 2) 0), (6, .bp (3, nx + 3) 0), (16, .fn (.func 157) [] [])] ⟨[((3, nx + 3), .c [boolA (withB num)]), ((2, nx + 2), .c [boolA false]), ((1, nx + 1), .c [int 0]), ((0, nx), .c [u32 arch])], [], nx3, 4⟩) (ele_tell _ _ rfl rfl (List.Sublist.refl _) (List.Sublist.refl _) (BxLe.refl _) (PmEq.refl _) ⟨AVle.refl _, AVle.refl _, AVle.refl _, AVle.refl _, AVle.refl _, trivial⟩) ?_
    generalize hw : withB num = w
    refine aw_forX (σ := Option Nat) (α := Nat × Inf) (e := infE) (xs := infN) (first' := []) (caps' := []) (fun y => [((3, nx + 3), .c [boolA (w)]), ((2, nx + 2), .c [boolA y.isSome]), ((1, nx + 1), .c [int (y.getD 0 : Nat)]), ((0, nx), .c [u32 arch])]) (fun _ => []) (fun pre y => y = none ∧ ∀ z ∈ pre, selB arch w z = false) (fun pre x y => y = some x.1 ∧ selB arch w x = true ∧ ∀ z ∈ pre, selB arch w z = false) none rfl rfl rows_iter trivial trivial rfl rfl ⟨rfl, fun z hz => by cases hz⟩ (fun _ => rfl) ?_ ?_ ?_
    · rintro pre x post s nx4 nn4 hx ⟨rfl, hI⟩
      rcases inf_cases hx with ⟨rfl, rfl⟩ | ⟨rfl, rfl⟩ | ⟨rfl, rfl⟩ | ⟨rfl, rfl⟩ | ⟨rfl, rfl⟩
      · refine AW.le (ele_drop (nn := 9) (List.Sublist.refl _) (List.Sublist.refl _)) ?_
        (repeat((conv=>whnf);first|apply ω0|apply ω1|apply ω2|refine τ3 rfl ?_|refine τ4 rfl ?_|refine ⟨rfl,?_⟩|apply τa|refine τb rfl ?_|refine ⟨⟨by kernel_rfl,by kernel_rfl⟩,?_⟩|refine ⟨by decide,?_⟩|apply τt|apply τf))
        intro c t1; cases c
        · (repeat((conv=>whnf);first|apply ω0|apply ω1|apply ω2|refine τ3 rfl ?_|refine τ4 rfl ?_|refine ⟨rfl,?_⟩|apply τa|refine τb rfl ?_|refine ⟨⟨by kernel_rfl,by kernel_rfl⟩,?_⟩|refine ⟨by decide,?_⟩|apply τt|apply τf))
          exact ⟨_, ⟨_, _, _, 0⟩, AVle.refl _, hle_tell _ _ rfl (.cons _ (List.Sublist.refl _)) (List.Sublist.refl _) (BxLe.refl _) (PmEq.refl _), .inl ⟨rfl, none, ⟨rfl, sel_more hI (sel_tok t1)⟩, rfl, rfl⟩⟩
        · cases w
          · (repeat((conv=>whnf);first|apply ω0|apply ω1|apply ω2|refine τ3 rfl ?_|refine τ4 rfl ?_|refine ⟨rfl,?_⟩|apply τa|refine τb rfl ?_|refine ⟨⟨by kernel_rfl,by kernel_rfl⟩,?_⟩|refine ⟨by decide,?_⟩|apply τt|apply τf))
            exact ⟨_, ⟨_, _, _, 0⟩, AVle.refl _, hle_tell _ _ rfl (.cons _ (List.Sublist.refl _)) (List.Sublist.refl _) (BxLe.refl _) (PmEq.refl _), .inr ⟨rfl, some 0, ⟨rfl, sel_yes t1 rfl, hI⟩, rfl, rfl⟩⟩
          · (repeat((conv=>whnf);first|apply ω0|apply ω1|apply ω2|refine τ3 rfl ?_|refine τ4 rfl ?_|refine ⟨rfl,?_⟩|apply τa|refine τb rfl ?_|refine ⟨⟨by kernel_rfl,by kernel_rfl⟩,?_⟩|refine ⟨by decide,?_⟩|apply τt|apply τf))
            exact ⟨_, ⟨_, _, _, 0⟩, AVle.refl _, hle_tell _ _ rfl (.cons _ (List.Sublist.refl _)) (List.Sublist.refl _) (BxLe.refl _) (PmEq.refl _), .inl ⟨rfl, none, ⟨rfl, sel_more hI (sel_no t1 rfl)⟩, rfl, rfl⟩⟩
      · refine AW.le (ele_drop (nn := 9) (List.Sublist.refl _) (List.Sublist.refl _)) ?_
        (repeat((conv=>whnf);first|apply ω0|apply ω1|apply ω2|refine τ3 rfl ?_|refine τ4 rfl ?_|refine ⟨rfl,?_⟩|apply τa|refine τb rfl ?_|refine ⟨⟨by kernel_rfl,by kernel_rfl⟩,?_⟩|refine ⟨by decide,?_⟩|apply τt|apply τf))
        intro c t1; cases c
        · (repeat((conv=>whnf);first|apply ω0|apply ω1|apply ω2|refine τ3 rfl ?_|refine τ4 rfl ?_|refine ⟨rfl,?_⟩|apply τa|refine τb rfl ?_|refine ⟨⟨by kernel_rfl,by kernel_rfl⟩,?_⟩|refine ⟨by decide,?_⟩|apply τt|apply τf))
          exact ⟨_, ⟨_, _, _, 0⟩, AVle.refl _, hle_tell _ _ rfl (.cons _ (List.Sublist.refl _)) (List.Sublist.refl _) (BxLe.refl _) (PmEq.refl _), .inl ⟨rfl, none, ⟨rfl, sel_more hI (sel_tok t1)⟩, rfl, rfl⟩⟩
        · cases w
          · (repeat((conv=>whnf);first|apply ω0|apply ω1|apply ω2|refine τ3 rfl ?_|refine τ4 rfl ?_|refine ⟨rfl,?_⟩|apply τa|refine τb rfl ?_|refine ⟨⟨by kernel_rfl,by kernel_rfl⟩,?_⟩|refine ⟨by decide,?_⟩|apply τt|apply τf))
            exact ⟨_, ⟨_, _, _, 0⟩, AVle.refl _, hle_tell _ _ rfl (.cons _ (List.Sublist.refl _)) (List.Sublist.refl _) (BxLe.refl _) (PmEq.refl _), .inl ⟨rfl, none, ⟨rfl, sel_more hI (sel_no t1 rfl)⟩, rfl, rfl⟩⟩
          · (repeat((conv=>whnf);first|apply ω0|apply ω1|apply ω2|refine τ3 rfl ?_|refine τ4 rfl ?_|refine ⟨rfl,?_⟩|apply τa|refine τb rfl ?_|refine ⟨⟨by kernel_rfl,by kernel_rfl⟩,?_⟩|refine ⟨by decide,?_⟩|apply τt|apply τf))
            exact ⟨_, ⟨_, _, _, 0⟩, AVle.refl _, hle_tell _ _ rfl (.cons _ (List.Sublist.refl _)) (List.Sublist.refl _) (BxLe.refl _) (PmEq.refl _), .inr ⟨rfl, some 1, ⟨rfl, sel_yes t1 rfl, hI⟩, rfl, rfl⟩⟩
      · refine AW.le (ele_drop (nn := 9) (List.Sublist.refl _) (List.Sublist.refl _)) ?_
        (repeat((conv=>whnf);first|apply ω0|apply ω1|apply ω2|refine τ3 rfl ?_|refine τ4 rfl ?_|refine ⟨rfl,?_⟩|apply τa|refine τb rfl ?_|refine ⟨⟨by kernel_rfl,by kernel_rfl⟩,?_⟩|refine ⟨by decide,?_⟩|apply τt|apply τf))
        intro c t1; cases c
        · (repeat((conv=>whnf);first|apply ω0|apply ω1|apply ω2|refine τ3 rfl ?_|refine τ4 rfl ?_|refine ⟨rfl,?_⟩|apply τa|refine τb rfl ?_|refine ⟨⟨by kernel_rfl,by kernel_rfl⟩,?_⟩|refine ⟨by decide,?_⟩|apply τt|apply τf))
          exact ⟨_, ⟨_, _, _, 0⟩, AVle.refl _, hle_tell _ _ rfl (.cons _ (List.Sublist.refl _)) (List.Sublist.refl _) (BxLe.refl _) (PmEq.refl _), .inl ⟨rfl, none, ⟨rfl, sel_more hI (sel_tok t1)⟩, rfl, rfl⟩⟩
        · cases w
          · (repeat((conv=>whnf);first|apply ω0|apply ω1|apply ω2|refine τ3 rfl ?_|refine τ4 rfl ?_|refine ⟨rfl,?_⟩|apply τa|refine τb rfl ?_|refine ⟨⟨by kernel_rfl,by kernel_rfl⟩,?_⟩|refine ⟨by decide,?_⟩|apply τt|apply τf))
            exact ⟨_, ⟨_, _, _, 0⟩, AVle.refl _, hle_tell _ _ rfl (.cons _ (List.Sublist.refl _)) (List.Sublist.refl _) (BxLe.refl _) (PmEq.refl _), .inr ⟨rfl, some 2, ⟨rfl, sel_yes t1 rfl, hI⟩, rfl, rfl⟩⟩
          · (repeat((conv=>whnf);first|apply ω0|apply ω1|apply ω2|refine τ3 rfl ?_|refine τ4 rfl ?_|refine ⟨rfl,?_⟩|apply τa|refine τb rfl ?_|refine ⟨⟨by kernel_rfl,by kernel_rfl⟩,?_⟩|refine ⟨by decide,?_⟩|apply τt|apply τf))
            exact ⟨_, ⟨_, _, _, 0⟩, AVle.refl _, hle_tell _ _ rfl (.cons _ (List.Sublist.refl _)) (List.Sublist.refl _) (BxLe.refl _) (PmEq.refl _), .inr ⟨rfl, some 2, ⟨rfl, sel_yes t1 rfl, hI⟩, rfl, rfl⟩⟩
      · refine AW.le (ele_drop (nn := 9) (List.Sublist.refl _) (List.Sublist.refl _)) ?_
        (repeat((conv=>whnf);first|apply ω0|apply ω1|apply ω2|refine τ3 rfl ?_|refine τ4 rfl ?_|refine ⟨rfl,?_⟩|apply τa|refine τb rfl ?_|refine ⟨⟨by kernel_rfl,by kernel_rfl⟩,?_⟩|refine ⟨by decide,?_⟩|apply τt|apply τf))
        intro c t1; cases c
        · (repeat((conv=>whnf);first|apply ω0|apply ω1|apply ω2|refine τ3 rfl ?_|refine τ4 rfl ?_|refine ⟨rfl,?_⟩|apply τa|refine τb rfl ?_|refine ⟨⟨by kernel_rfl,by kernel_rfl⟩,?_⟩|refine ⟨by decide,?_⟩|apply τt|apply τf))
          exact ⟨_, ⟨_, _, _, 0⟩, AVle.refl _, hle_tell _ _ rfl (.cons _ (List.Sublist.refl _)) (List.Sublist.refl _) (BxLe.refl _) (PmEq.refl _), .inl ⟨rfl, none, ⟨rfl, sel_more hI (sel_tok t1)⟩, rfl, rfl⟩⟩
        · cases w
          · (repeat((conv=>whnf);first|apply ω0|apply ω1|apply ω2|refine τ3 rfl ?_|refine τ4 rfl ?_|refine ⟨rfl,?_⟩|apply τa|refine τb rfl ?_|refine ⟨⟨by kernel_rfl,by kernel_rfl⟩,?_⟩|refine ⟨by decide,?_⟩|apply τt|apply τf))
            exact ⟨_, ⟨_, _, _, 0⟩, AVle.refl _, hle_tell _ _ rfl (.cons _ (List.Sublist.refl _)) (List.Sublist.refl _) (BxLe.refl _) (PmEq.refl _), .inr ⟨rfl, some 3, ⟨rfl, sel_yes t1 rfl, hI⟩, rfl, rfl⟩⟩
          · (repeat((conv=>whnf);first|apply ω0|apply ω1|apply ω2|refine τ3 rfl ?_|refine τ4 rfl ?_|refine ⟨rfl,?_⟩|apply τa|refine τb rfl ?_|refine ⟨⟨by kernel_rfl,by kernel_rfl⟩,?_⟩|refine ⟨by decide,?_⟩|apply τt|apply τf))
            exact ⟨_, ⟨_, _, _, 0⟩, AVle.refl _, hle_tell _ _ rfl (.cons _ (List.Sublist.refl _)) (List.Sublist.refl _) (BxLe.refl _) (PmEq.refl _), .inr ⟨rfl, some 3, ⟨rfl, sel_yes t1 rfl, hI⟩, rfl, rfl⟩⟩
      · refine AW.le (ele_drop (nn := 9) (List.Sublist.refl _) (List.Sublist.refl _)) ?_
        (repeat((conv=>whnf);first|apply ω0|apply ω1|apply ω2|refine τ3 rfl ?_|refine τ4 rfl ?_|refine ⟨rfl,?_⟩|apply τa|refine τb rfl ?_|refine ⟨⟨by kernel_rfl,by kernel_rfl⟩,?_⟩|refine ⟨by decide,?_⟩|apply τt|apply τf))
        intro c t1; cases c
        · (repeat((conv=>whnf);first|apply ω0|apply ω1|apply ω2|refine τ3 rfl ?_|refine τ4 rfl ?_|refine ⟨rfl,?_⟩|apply τa|refine τb rfl ?_|refine ⟨⟨by kernel_rfl,by kernel_rfl⟩,?_⟩|refine ⟨by decide,?_⟩|apply τt|apply τf))
          exact ⟨_, ⟨_, _, _, 0⟩, AVle.refl _, hle_tell _ _ rfl (.cons _ (List.Sublist.refl _)) (List.Sublist.refl _) (BxLe.refl _) (PmEq.refl _), .inl ⟨rfl, none, ⟨rfl, sel_more hI (sel_tok t1)⟩, rfl, rfl⟩⟩
        · cases w
          · (repeat((conv=>whnf);first|apply ω0|apply ω1|apply ω2|refine τ3 rfl ?_|refine τ4 rfl ?_|refine ⟨rfl,?_⟩|apply τa|refine τb rfl ?_|refine ⟨⟨by kernel_rfl,by kernel_rfl⟩,?_⟩|refine ⟨by decide,?_⟩|apply τt|apply τf))
            exact ⟨_, ⟨_, _, _, 0⟩, AVle.refl _, hle_tell _ _ rfl (.cons _ (List.Sublist.refl _)) (List.Sublist.refl _) (BxLe.refl _) (PmEq.refl _), .inr ⟨rfl, some 4, ⟨rfl, sel_yes t1 rfl, hI⟩, rfl, rfl⟩⟩
          · (repeat((conv=>whnf);first|apply ω0|apply ω1|apply ω2|refine τ3 rfl ?_|refine τ4 rfl ?_|refine ⟨rfl,?_⟩|apply τa|refine τb rfl ?_|refine ⟨⟨by kernel_rfl,by kernel_rfl⟩,?_⟩|refine ⟨by decide,?_⟩|apply τt|apply τf))
            exact ⟨_, ⟨_, _, _, 0⟩, AVle.refl _, hle_tell _ _ rfl (.cons _ (List.Sublist.refl _)) (List.Sublist.refl _) (BxLe.refl _) (PmEq.refl _), .inr ⟨rfl, some 4, ⟨rfl, sel_yes t1 rfl, hI⟩, rfl, rfl⟩⟩
    · rintro s' nx4 nn4 ⟨rfl, hI⟩
      rw [sel_none (by rw [hw]; exact hI)]
      (repeat((conv=>whnf);first|apply ω0|apply ω1|apply ω2|refine τ3 rfl ?_|refine τ4 rfl ?_|refine ⟨rfl,?_⟩|apply τa|refine τb rfl ?_|refine ⟨⟨by kernel_rfl,by kernel_rfl⟩,?_⟩|refine ⟨by decide,?_⟩|apply τt|apply τf))
      exact ret_tells_all rfl ⟨⟨rfl, Nat.le_of_ble_eq_true rfl⟩, ⟨rfl, Nat.le_of_ble_eq_true rfl⟩, trivial⟩ (AVle.refl _)
    · rintro pre x post s' nx4 nn4 hx ⟨rfl, h1, h2⟩
      rw [sel_some hx (by rw [hw]; exact h2) (by rw [hw]; exact h1)]
      (repeat((conv=>whnf);first|apply ω0|apply ω1|apply ω2|refine τ3 rfl ?_|refine τ4 rfl ?_|refine ⟨rfl,?_⟩|apply τa|refine τb rfl ?_|refine ⟨⟨by kernel_rfl,by kernel_rfl⟩,?_⟩|refine ⟨by decide,?_⟩|apply τt|apply τf))
      exact ret_tells_all rfl ⟨⟨rfl, Nat.le_of_ble_eq_true rfl⟩, ⟨rfl, Nat.le_of_ble_eq_true rfl⟩, trivial⟩ (AVle.refl _)
end Go.Proofs.W

namespace Go.Proofs.W
open Go.Vl
set_option maxRecDepth 100000

/-- A record. -/
structure Rec where
  num : Nat
  arch : Nat
  ptr : Nat
  a0 : Nat
  a1 : Nat
  a2 : Nat
  a3 : Nat
  a4 : Nat
  a5 : Nat
def Rec.ok (r : Rec) : Prop := r.num < 4294967296 ∧ r.arch < 4294967296 ∧ r.ptr < 18446744073709551616 ∧ r.a0 < 18446744073709551616 ∧ r.a1 < 18446744073709551616 ∧ r.a2 < 18446744073709551616 ∧ r.a3 < 18446744073709551616 ∧ r.a4 < 18446744073709551616 ∧ r.a5 < 18446744073709551616
def Rec.arg (r : Rec) : Nat → Nat
  | 0 => r.a0
  | 1 => r.a1
  | 2 => r.a2
  | 3 => r.a3
  | 4 => r.a4
  | _ => r.a5
def recC (r : Rec) : List AV := [u32 r.num, u32 r.arch, u64 r.ptr, u64 r.a0, u64 r.a1, u64 r.a2, u64 r.a3, u64 r.a4, u64 r.a5]
def recA (r : Rec) : AV := .ag (recC r)
theorem find_of {a : Nat} (h : a < 5) (hn : ∀ z ∈ infN, z.1 ≠ a) : False := by
  rcases (by omega : a = 0 ∨ a = 1 ∨ a = 2 ∨ a = 3 ∨ a = 4) with rfl | rfl | rfl | rfl | rfl
  · exact hn (0, infL.getD 0 inf0) (by simp [infN]) rfl
  · exact hn (1, infL.getD 1 inf0) (by simp [infN]) rfl
  · exact hn (2, infL.getD 2 inf0) (by simp [infN]) rfl
  · exact hn (3, infL.getD 3 inf0) (by simp [infN]) rfl
  · exact hn (4, infL.getD 4 inf0) (by simp [infN]) rfl
theorem of_no {k a : Nat} {pre : List (Nat × Inf)} {i : Inf} (h : ∀ z ∈ pre, z.1 ≠ a) (t : false = ((k : Int) == (a : Int))) : ∀ z ∈ pre ++ [(k, i)], z.1 ≠ a := fun z hz => by
  rcases List.mem_append.1 hz with q | q
  · exact h z q
  · rw [List.mem_singleton.1 q]
    intro e
    dsimp only at e
    subst e; simp at t
theorem of_yes {k a : Nat} (t : true = ((k : Int) == (a : Int))) : k = a := by
  have : (k : Int) = (a : Int) := by simpa using t.symm
  omega
set_option maxHeartbeats 4000000 in
theorem abiof_spec (a : Nat) (ha : a < 5) : Tells Tryz.prog 76 [int a] (.tup [infA (infL.getD a inf0), int 0]) := by
  refine tells_of_aw Tryz.func76 rfl rfl fun nx => ?_
  (repeat((conv=>whnf);first|apply ω0|apply ω1|apply ω2|refine τ3 rfl ?_|refine τ4 rfl ?_|refine ⟨rfl,?_⟩|apply τa|refine τb rfl ?_|refine ⟨⟨by kernel_rfl,by kernel_rfl⟩,?_⟩|refine ⟨by decide,?_⟩|apply τt|apply τf))
  refine aop_tells rfl rfl abirows_spec trivial fun nx3 => ?_
  (repeat((conv=>whnf);first|apply ω0|apply ω1|apply ω2|refine τ3 rfl ?_|refine τ4 rfl ?_|refine ⟨rfl,?_⟩|apply τa|refine τb rfl ?_|refine ⟨⟨by kernel_rfl,by kernel_rfl⟩,?_⟩|refine ⟨by decide,?_⟩|apply τt|apply τf))
  refine AW.le (E' := mk 14 [(1, .bp (0, nx) 0), (2, .bp (1, nx + 1) 0), (3, .bp (2, nx + 2) 0), (6, .fn (.func 157) [] [])] ⟨[((2, nx + 2), .c [int 0]), ((1, nx + 1), .c (infC inf0)), ((0, nx), .c [int a])], [], nx3, 3⟩) (ele_tell (pm := []) _ [] rfl rfl (List.Sublist.refl _) (List.Sublist.refl _) (BxLe.refl _) trivial ⟨AVle.refl _, AVle.refl _, AVle.refl _, AVle.refl _, trivial⟩) ?_
  refine aw_forX (σ := Option Nat) (α := Nat × Inf) (e := infE) (xs := infN) (first' := []) (caps' := []) (fun y => [((2, nx + 2), .c [int 0]), ((1, nx + 1), .c (infC (y.elim inf0 fun k => infL.getD k inf0))), ((0, nx), .c [int a])]) (fun _ => []) (fun pre y => y = none ∧ ∀ z ∈ pre, z.1 ≠ a) (fun pre x y => y = some a) none rfl rfl rows_iter trivial trivial rfl rfl ⟨rfl, fun z hz => by cases hz⟩ (fun _ => rfl) ?_ ?_ ?_
  · rintro pre x post s nx4 nn4 hx ⟨rfl, hI⟩
    rcases inf_cases hx with ⟨rfl, rfl⟩ | ⟨rfl, rfl⟩ | ⟨rfl, rfl⟩ | ⟨rfl, rfl⟩ | ⟨rfl, rfl⟩
    all_goals
      refine AW.le (ele_drop (nn := 9) (List.Sublist.refl _) (List.Sublist.refl _)) ?_
      (repeat((conv=>whnf);first|apply ω0|apply ω1|apply ω2|refine τ3 rfl ?_|refine τ4 rfl ?_|refine ⟨rfl,?_⟩|apply τa|refine τb rfl ?_|refine ⟨⟨by kernel_rfl,by kernel_rfl⟩,?_⟩|refine ⟨by decide,?_⟩|apply τt|apply τf))
      intro c t1; cases c
      · (repeat((conv=>whnf);first|apply ω0|apply ω1|apply ω2|refine τ3 rfl ?_|refine τ4 rfl ?_|refine ⟨rfl,?_⟩|apply τa|refine τb rfl ?_|refine ⟨⟨by kernel_rfl,by kernel_rfl⟩,?_⟩|refine ⟨by decide,?_⟩|apply τt|apply τf))
        exact ⟨_, ⟨_, _, _, 0⟩, AVle.refl _, hle_tell _ _ rfl (.cons _ (List.Sublist.refl _)) (List.Sublist.refl _) (BxLe.refl _) (PmEq.refl _), .inl ⟨rfl, none, ⟨rfl, of_no hI t1⟩, rfl, rfl⟩⟩
      · have e := of_yes t1
        clear t1
        subst e
        (repeat((conv=>whnf);first|apply ω0|apply ω1|apply ω2|refine τ3 rfl ?_|refine τ4 rfl ?_|refine ⟨rfl,?_⟩|apply τa|refine τb rfl ?_|refine ⟨⟨by kernel_rfl,by kernel_rfl⟩,?_⟩|refine ⟨by decide,?_⟩|apply τt|apply τf))
        exact ⟨_, ⟨_, _, _, 0⟩, AVle.refl _, hle_tell _ _ rfl (.cons _ (List.Sublist.refl _)) (List.Sublist.refl _) (BxLe.refl _) (PmEq.refl _), .inr ⟨rfl, some _, rfl, rfl, rfl⟩⟩
  · rintro s' nx4 nn4 ⟨rfl, hI⟩
    exact (find_of ha hI).elim
  · rintro pre x post s' nx4 nn4 hx rfl
    (repeat((conv=>whnf);first|apply ω0|apply ω1|apply ω2|refine τ3 rfl ?_|refine τ4 rfl ?_|refine ⟨rfl,?_⟩|apply τa|refine τb rfl ?_|refine ⟨⟨by kernel_rfl,by kernel_rfl⟩,?_⟩|refine ⟨by decide,?_⟩|apply τt|apply τf))
    exact ret_tells_all rfl ⟨rfl, ⟨rfl, Nat.le_of_ble_eq_true rfl⟩, trivial⟩ (AVle.refl _)
def arrA (f : Nat → Nat) : AV := .ag [u64 (f 0 : Nat), u64 (f 1 : Nat), u64 (f 2 : Nat), u64 (f 3 : Nat), u64 (f 4 : Nat), u64 (f 5 : Nat)]
/-- A record's arguments, as a way of calling sees them. -/
def argI (a : Nat) (r : Rec) (k : Nat) : Nat := if a = 2 then r.arg k % 4294967296 else r.arg k
theorem low32 {n : Nat} (h : n < 18446744073709551616) : IntKind.u64.wrap (IntKind.u32.wrap (n : Int)) = ((n % 4294967296 : Nat) : Int) := by
  simp [IntKind.wrap, IntKind.signed, IntKind.bits]; omega
theorem inf_bits {a : Nat} (h : a < 5) : ((infL.getD a inf0).bits == 32) = decide (a = 2) := by
  rcases (by omega : a = 0 ∨ a = 1 ∨ a = 2 ∨ a = 3 ∨ a = 4) with rfl | rfl | rfl | rfl | rfl <;> rfl
theorem c_u64 : Tryz.prog.cellsOf 27 = 1 := by kernel_rfl
def arrC (f : Nat → Nat) : List AV := [u64 (f 0 : Nat), u64 (f 1 : Nat), u64 (f 2 : Nat), u64 (f 3 : Nat), u64 (f 4 : Nat), u64 (f 5 : Nat)]
def lowK (k : Nat) (r : Rec) (j : Nat) : Nat := bif Nat.blt j k then r.arg j % 4294967296 else r.arg j
theorem le_arg {a : Nat} {r : Rec} (e : a = 2) (k : Nat) : AVle (u64 (r.arg k % 4294967296 : Nat)) (u64 (argI a r k : Nat)) := by
  unfold argI; rw [if_pos e]; exact AVle.refl _
set_option maxHeartbeats 4000000 in
theorem abiargs_spec (a : Nat) (ha : a < 5) (r : Rec) (hr : r.ok) : Tells Tryz.prog 66 [int a, recA r] (arrA (argI a r)) := by
  have hof := abiof_spec a ha
  have hbits := inf_bits ha
  obtain ⟨-, -, -, r0, r1, r2, r3, r4, r5⟩ := hr
  refine tells_of_aw Tryz.func66 rfl rfl fun nx => ?_
  (repeat((conv=>whnf);first|apply ω0|apply ω1|apply ω2|refine τ3 rfl ?_|refine τ4 rfl ?_|refine ⟨rfl,?_⟩|apply τa|refine τb rfl ?_|refine ⟨⟨by kernel_rfl,by kernel_rfl⟩,?_⟩|refine ⟨by decide,?_⟩|apply τt|apply τf))
  refine aop_tells rfl rfl hof ⟨AVle.refl _, trivial⟩ fun nx2 => ?_
  (repeat((conv=>whnf);first|apply ω0|apply ω1|apply ω2|refine τ3 rfl ?_|refine τ4 rfl ?_|refine ⟨rfl,?_⟩|apply τa|refine τb rfl ?_|refine ⟨⟨by kernel_rfl,by kernel_rfl⟩,?_⟩|refine ⟨by decide,?_⟩|apply τt|apply τf))
  intro c hc
  have hc2 : c = decide (a = 2) := hc.trans hbits
  clear hc
  cases c
  · have e : ¬ a = 2 := of_decide_eq_false hc2.symm
    have eA : argI a r = r.arg := by funext k; unfold argI; rw [if_neg e]
    rw [eA]
    (repeat((conv=>whnf);first|apply ω0|apply ω1|apply ω2|refine τ3 rfl ?_|refine τ4 rfl ?_|refine ⟨rfl,?_⟩|apply τa|refine τb rfl ?_|refine ⟨⟨by kernel_rfl,by kernel_rfl⟩,?_⟩|refine ⟨by decide,?_⟩|apply τt|apply τf))
    exact ret_tells_all rfl ⟨rfl, trivial⟩ (AVle.refl _)
  · have e : a = 2 := of_decide_eq_true hc2.symm
    (repeat((conv=>whnf);first|apply ω0|apply ω1|apply ω2|refine τ3 rfl ?_|refine τ4 rfl ?_|refine ⟨rfl,?_⟩|apply τa|refine τb rfl ?_|refine ⟨⟨by kernel_rfl,by kernel_rfl⟩,?_⟩|refine ⟨by decide,?_⟩|apply τt|apply τf))
    refine aw_loop (fun y : Nat × Nat => mk 35 [(3, .bp (0, nx) 0), (4, .bp (1, nx + 1) 0), (5, .bp (2, nx + 2) 0), (23, int y.1)] ⟨[((3, nx2), .c (infC (infL.getD a inf0))), ((2, nx + 2), .c (arrC (lowK y.1 r))), ((1, nx + 1), .c (arrC fun _ => 0)), ((0, nx), .c (recC r))], [], y.2, 4⟩) (fun y => y.1 ≤ 6) (fun y => 6 - y.1) ?_ ?_
    · exact ⟨(0, nx2 + 1), Nat.zero_le _, ele_tell (pm := []) _ [] rfl rfl (List.Sublist.refl _) (List.Sublist.refl _) ⟨rfl, OwnLe.refl _, rfl, ⟨AVle.refl _, AVle.refl _, AVle.refl _, AVle.refl _, AVle.refl _, AVle.refl _, trivial⟩, rfl, ⟨AVle.refl _, AVle.refl _, AVle.refl _, AVle.refl _, AVle.refl _, AVle.refl _, trivial⟩, BxLe.refl _⟩ trivial ⟨AVle.refl _, AVle.refl _, AVle.refl _, AVle.refl _, trivial⟩⟩
    · rintro ⟨k, nx3⟩ hk
      dsimp only at hk
      rcases k with _ | _ | _ | _ | _ | _ | _ | k
      · (repeat((conv=>whnf);first|apply ω0|apply ω1|apply ω2|refine τ3 rfl ?_|refine τ4 rfl ?_|refine ⟨rfl,?_⟩|apply τa|refine τb rfl ?_|refine ⟨⟨by kernel_rfl,by kernel_rfl⟩,?_⟩|refine ⟨by decide,?_⟩|apply τt|apply τf))
        refine ⟨⟨Int.natCast_nonneg _, show ((0 : Nat) : Int) < 6 by decide⟩, splitO_eq (b := .bp (2, nx + 2) 0) (congrArg (AV.bp (2, nx + 2)) (by rw [c_u64]; rfl)) ?_⟩
        (repeat((conv=>whnf);first|apply ω0|apply ω1|apply ω2|refine τ3 rfl ?_|refine τ4 rfl ?_|refine ⟨rfl,?_⟩|apply τa|refine τb rfl ?_|refine ⟨⟨by kernel_rfl,by kernel_rfl⟩,?_⟩|refine ⟨by decide,?_⟩|apply τt|apply τf))
        refine ⟨⟨Int.natCast_nonneg _, show ((0 : Nat) : Int) < 6 by decide⟩, splitO_eq (b := .bp (2, nx + 2) 0) (congrArg (AV.bp (2, nx + 2)) (by rw [c_u64]; rfl)) ?_⟩
        (repeat((conv=>whnf);first|apply ω0|apply ω1|apply ω2|refine τ3 rfl ?_|refine τ4 rfl ?_|refine ⟨rfl,?_⟩|apply τa|refine τb rfl ?_|refine ⟨⟨by kernel_rfl,by kernel_rfl⟩,?_⟩|refine ⟨by decide,?_⟩|apply τt|apply τf))
        exact back (0 + 1, nx3) (show 0 + 1 ≤ 6 by decide) (by dsimp only; omega) (ele_tell (bx := [((3, nx2), .c (infC (infL.getD a inf0))), ((2, nx + 2), .c (arrC (lowK (0 + 1) r))), ((1, nx + 1), .c (arrC fun _ => 0)), ((0, nx), .c (recC r))]) (pm := []) _ [] rfl rfl (List.Sublist.refl _) (List.Sublist.refl _) ⟨rfl, OwnLe.refl _, rfl, ⟨le_u64 (low32 r0), AVle.refl _, AVle.refl _, AVle.refl _, AVle.refl _, AVle.refl _, trivial⟩, BxLe.refl _⟩ trivial ⟨AVle.refl _, AVle.refl _, AVle.refl _, AVle.refl _, trivial⟩)
      · (repeat((conv=>whnf);first|apply ω0|apply ω1|apply ω2|refine τ3 rfl ?_|refine τ4 rfl ?_|refine ⟨rfl,?_⟩|apply τa|refine τb rfl ?_|refine ⟨⟨by kernel_rfl,by kernel_rfl⟩,?_⟩|refine ⟨by decide,?_⟩|apply τt|apply τf))
        refine ⟨⟨Int.natCast_nonneg _, show ((1 : Nat) : Int) < 6 by decide⟩, splitO_eq (b := .bp (2, nx + 2) 1) (congrArg (AV.bp (2, nx + 2)) (by rw [c_u64]; rfl)) ?_⟩
        (repeat((conv=>whnf);first|apply ω0|apply ω1|apply ω2|refine τ3 rfl ?_|refine τ4 rfl ?_|refine ⟨rfl,?_⟩|apply τa|refine τb rfl ?_|refine ⟨⟨by kernel_rfl,by kernel_rfl⟩,?_⟩|refine ⟨by decide,?_⟩|apply τt|apply τf))
        refine ⟨⟨Int.natCast_nonneg _, show ((1 : Nat) : Int) < 6 by decide⟩, splitO_eq (b := .bp (2, nx + 2) 1) (congrArg (AV.bp (2, nx + 2)) (by rw [c_u64]; rfl)) ?_⟩
        (repeat((conv=>whnf);first|apply ω0|apply ω1|apply ω2|refine τ3 rfl ?_|refine τ4 rfl ?_|refine ⟨rfl,?_⟩|apply τa|refine τb rfl ?_|refine ⟨⟨by kernel_rfl,by kernel_rfl⟩,?_⟩|refine ⟨by decide,?_⟩|apply τt|apply τf))
        exact back (1 + 1, nx3) (show 1 + 1 ≤ 6 by decide) (by dsimp only; omega) (ele_tell (bx := [((3, nx2), .c (infC (infL.getD a inf0))), ((2, nx + 2), .c (arrC (lowK (1 + 1) r))), ((1, nx + 1), .c (arrC fun _ => 0)), ((0, nx), .c (recC r))]) (pm := []) _ [] rfl rfl (List.Sublist.refl _) (List.Sublist.refl _) ⟨rfl, OwnLe.refl _, rfl, ⟨AVle.refl _, le_u64 (low32 r1), AVle.refl _, AVle.refl _, AVle.refl _, AVle.refl _, trivial⟩, BxLe.refl _⟩ trivial ⟨AVle.refl _, AVle.refl _, AVle.refl _, AVle.refl _, trivial⟩)
      · (repeat((conv=>whnf);first|apply ω0|apply ω1|apply ω2|refine τ3 rfl ?_|refine τ4 rfl ?_|refine ⟨rfl,?_⟩|apply τa|refine τb rfl ?_|refine ⟨⟨by kernel_rfl,by kernel_rfl⟩,?_⟩|refine ⟨by decide,?_⟩|apply τt|apply τf))
        refine ⟨⟨Int.natCast_nonneg _, show ((2 : Nat) : Int) < 6 by decide⟩, splitO_eq (b := .bp (2, nx + 2) 2) (congrArg (AV.bp (2, nx + 2)) (by rw [c_u64]; rfl)) ?_⟩
        (repeat((conv=>whnf);first|apply ω0|apply ω1|apply ω2|refine τ3 rfl ?_|refine τ4 rfl ?_|refine ⟨rfl,?_⟩|apply τa|refine τb rfl ?_|refine ⟨⟨by kernel_rfl,by kernel_rfl⟩,?_⟩|refine ⟨by decide,?_⟩|apply τt|apply τf))
        refine ⟨⟨Int.natCast_nonneg _, show ((2 : Nat) : Int) < 6 by decide⟩, splitO_eq (b := .bp (2, nx + 2) 2) (congrArg (AV.bp (2, nx + 2)) (by rw [c_u64]; rfl)) ?_⟩
        (repeat((conv=>whnf);first|apply ω0|apply ω1|apply ω2|refine τ3 rfl ?_|refine τ4 rfl ?_|refine ⟨rfl,?_⟩|apply τa|refine τb rfl ?_|refine ⟨⟨by kernel_rfl,by kernel_rfl⟩,?_⟩|refine ⟨by decide,?_⟩|apply τt|apply τf))
        exact back (2 + 1, nx3) (show 2 + 1 ≤ 6 by decide) (by dsimp only; omega) (ele_tell (bx := [((3, nx2), .c (infC (infL.getD a inf0))), ((2, nx + 2), .c (arrC (lowK (2 + 1) r))), ((1, nx + 1), .c (arrC fun _ => 0)), ((0, nx), .c (recC r))]) (pm := []) _ [] rfl rfl (List.Sublist.refl _) (List.Sublist.refl _) ⟨rfl, OwnLe.refl _, rfl, ⟨AVle.refl _, AVle.refl _, le_u64 (low32 r2), AVle.refl _, AVle.refl _, AVle.refl _, trivial⟩, BxLe.refl _⟩ trivial ⟨AVle.refl _, AVle.refl _, AVle.refl _, AVle.refl _, trivial⟩)
      · (repeat((conv=>whnf);first|apply ω0|apply ω1|apply ω2|refine τ3 rfl ?_|refine τ4 rfl ?_|refine ⟨rfl,?_⟩|apply τa|refine τb rfl ?_|refine ⟨⟨by kernel_rfl,by kernel_rfl⟩,?_⟩|refine ⟨by decide,?_⟩|apply τt|apply τf))
        refine ⟨⟨Int.natCast_nonneg _, show ((3 : Nat) : Int) < 6 by decide⟩, splitO_eq (b := .bp (2, nx + 2) 3) (congrArg (AV.bp (2, nx + 2)) (by rw [c_u64]; rfl)) ?_⟩
        (repeat((conv=>whnf);first|apply ω0|apply ω1|apply ω2|refine τ3 rfl ?_|refine τ4 rfl ?_|refine ⟨rfl,?_⟩|apply τa|refine τb rfl ?_|refine ⟨⟨by kernel_rfl,by kernel_rfl⟩,?_⟩|refine ⟨by decide,?_⟩|apply τt|apply τf))
        refine ⟨⟨Int.natCast_nonneg _, show ((3 : Nat) : Int) < 6 by decide⟩, splitO_eq (b := .bp (2, nx + 2) 3) (congrArg (AV.bp (2, nx + 2)) (by rw [c_u64]; rfl)) ?_⟩
        (repeat((conv=>whnf);first|apply ω0|apply ω1|apply ω2|refine τ3 rfl ?_|refine τ4 rfl ?_|refine ⟨rfl,?_⟩|apply τa|refine τb rfl ?_|refine ⟨⟨by kernel_rfl,by kernel_rfl⟩,?_⟩|refine ⟨by decide,?_⟩|apply τt|apply τf))
        exact back (3 + 1, nx3) (show 3 + 1 ≤ 6 by decide) (by dsimp only; omega) (ele_tell (bx := [((3, nx2), .c (infC (infL.getD a inf0))), ((2, nx + 2), .c (arrC (lowK (3 + 1) r))), ((1, nx + 1), .c (arrC fun _ => 0)), ((0, nx), .c (recC r))]) (pm := []) _ [] rfl rfl (List.Sublist.refl _) (List.Sublist.refl _) ⟨rfl, OwnLe.refl _, rfl, ⟨AVle.refl _, AVle.refl _, AVle.refl _, le_u64 (low32 r3), AVle.refl _, AVle.refl _, trivial⟩, BxLe.refl _⟩ trivial ⟨AVle.refl _, AVle.refl _, AVle.refl _, AVle.refl _, trivial⟩)
      · (repeat((conv=>whnf);first|apply ω0|apply ω1|apply ω2|refine τ3 rfl ?_|refine τ4 rfl ?_|refine ⟨rfl,?_⟩|apply τa|refine τb rfl ?_|refine ⟨⟨by kernel_rfl,by kernel_rfl⟩,?_⟩|refine ⟨by decide,?_⟩|apply τt|apply τf))
        refine ⟨⟨Int.natCast_nonneg _, show ((4 : Nat) : Int) < 6 by decide⟩, splitO_eq (b := .bp (2, nx + 2) 4) (congrArg (AV.bp (2, nx + 2)) (by rw [c_u64]; rfl)) ?_⟩
        (repeat((conv=>whnf);first|apply ω0|apply ω1|apply ω2|refine τ3 rfl ?_|refine τ4 rfl ?_|refine ⟨rfl,?_⟩|apply τa|refine τb rfl ?_|refine ⟨⟨by kernel_rfl,by kernel_rfl⟩,?_⟩|refine ⟨by decide,?_⟩|apply τt|apply τf))
        refine ⟨⟨Int.natCast_nonneg _, show ((4 : Nat) : Int) < 6 by decide⟩, splitO_eq (b := .bp (2, nx + 2) 4) (congrArg (AV.bp (2, nx + 2)) (by rw [c_u64]; rfl)) ?_⟩
        (repeat((conv=>whnf);first|apply ω0|apply ω1|apply ω2|refine τ3 rfl ?_|refine τ4 rfl ?_|refine ⟨rfl,?_⟩|apply τa|refine τb rfl ?_|refine ⟨⟨by kernel_rfl,by kernel_rfl⟩,?_⟩|refine ⟨by decide,?_⟩|apply τt|apply τf))
        exact back (4 + 1, nx3) (show 4 + 1 ≤ 6 by decide) (by dsimp only; omega) (ele_tell (bx := [((3, nx2), .c (infC (infL.getD a inf0))), ((2, nx + 2), .c (arrC (lowK (4 + 1) r))), ((1, nx + 1), .c (arrC fun _ => 0)), ((0, nx), .c (recC r))]) (pm := []) _ [] rfl rfl (List.Sublist.refl _) (List.Sublist.refl _) ⟨rfl, OwnLe.refl _, rfl, ⟨AVle.refl _, AVle.refl _, AVle.refl _, AVle.refl _, le_u64 (low32 r4), AVle.refl _, trivial⟩, BxLe.refl _⟩ trivial ⟨AVle.refl _, AVle.refl _, AVle.refl _, AVle.refl _, trivial⟩)
      · (repeat((conv=>whnf);first|apply ω0|apply ω1|apply ω2|refine τ3 rfl ?_|refine τ4 rfl ?_|refine ⟨rfl,?_⟩|apply τa|refine τb rfl ?_|refine ⟨⟨by kernel_rfl,by kernel_rfl⟩,?_⟩|refine ⟨by decide,?_⟩|apply τt|apply τf))
        refine ⟨⟨Int.natCast_nonneg _, show ((5 : Nat) : Int) < 6 by decide⟩, splitO_eq (b := .bp (2, nx + 2) 5) (congrArg (AV.bp (2, nx + 2)) (by rw [c_u64]; rfl)) ?_⟩
        (repeat((conv=>whnf);first|apply ω0|apply ω1|apply ω2|refine τ3 rfl ?_|refine τ4 rfl ?_|refine ⟨rfl,?_⟩|apply τa|refine τb rfl ?_|refine ⟨⟨by kernel_rfl,by kernel_rfl⟩,?_⟩|refine ⟨by decide,?_⟩|apply τt|apply τf))
        refine ⟨⟨Int.natCast_nonneg _, show ((5 : Nat) : Int) < 6 by decide⟩, splitO_eq (b := .bp (2, nx + 2) 5) (congrArg (AV.bp (2, nx + 2)) (by rw [c_u64]; rfl)) ?_⟩
        (repeat((conv=>whnf);first|apply ω0|apply ω1|apply ω2|refine τ3 rfl ?_|refine τ4 rfl ?_|refine ⟨rfl,?_⟩|apply τa|refine τb rfl ?_|refine ⟨⟨by kernel_rfl,by kernel_rfl⟩,?_⟩|refine ⟨by decide,?_⟩|apply τt|apply τf))
        exact back (5 + 1, nx3) (show 5 + 1 ≤ 6 by decide) (by dsimp only; omega) (ele_tell (bx := [((3, nx2), .c (infC (infL.getD a inf0))), ((2, nx + 2), .c (arrC (lowK (5 + 1) r))), ((1, nx + 1), .c (arrC fun _ => 0)), ((0, nx), .c (recC r))]) (pm := []) _ [] rfl rfl (List.Sublist.refl _) (List.Sublist.refl _) ⟨rfl, OwnLe.refl _, rfl, ⟨AVle.refl _, AVle.refl _, AVle.refl _, AVle.refl _, AVle.refl _, le_u64 (low32 r5), trivial⟩, BxLe.refl _⟩ trivial ⟨AVle.refl _, AVle.refl _, AVle.refl _, AVle.refl _, trivial⟩)
      · (repeat((conv=>whnf);first|apply ω0|apply ω1|apply ω2|refine τ3 rfl ?_|refine τ4 rfl ?_|refine ⟨rfl,?_⟩|apply τa|refine τb rfl ?_|refine ⟨⟨by kernel_rfl,by kernel_rfl⟩,?_⟩|refine ⟨by decide,?_⟩|apply τt|apply τf))
        refine ret_tells_all rfl ⟨rfl, trivial⟩ (AVle.ags ⟨le_arg e 0, le_arg e 1, le_arg e 2, le_arg e 3, le_arg e 4, le_arg e 5, trivial⟩)
      · omega
end Go.Proofs.W

namespace Go.Proofs.W
open Go.Vl
section
variable {α : Type} [Inhabited α] {lt : α → α → Bool}
theorem lit_eq {K : Bool → Prop} {b b' : Bool} (h : b = b') (hk : ∀ c, c = b' → K c) : ∀ c, c = b → K c := by subst h; exact hk
end
end Go.Proofs.W

namespace Go.Proofs.W
open Go.Vl
set_option maxRecDepth 100000

theorem idxf_trow (l : List TRow) (p : TRow → Bool) (f : Nat) (x y : List AV) (hl : l.length ≤ 1000000000) (hp : ∀ i, i < l.length → Tells Tryz.prog f [trowA (l.getD i trow0), .rp x, .rp y] (boolA (p (l.getD i trow0)))) :
    Tells Tryz.prog 109 [slOf 8 trowA trow0 l, (.fn (.func f) [] [.rp x, .rp y])] (int (optI (l.findIdx? p))) := by
  refine tells_of_aw Tryz.func109 rfl rfl fun nx => ?_
  (repeat((conv=>whnf);first|apply ω0|apply ω1|apply ω2|refine τ3 rfl ?_|refine τ4 rfl ?_|refine ⟨rfl,?_⟩|apply τa|refine τb rfl ?_|refine ⟨⟨by kernel_rfl,by kernel_rfl⟩,?_⟩|refine ⟨by decide,?_⟩|apply τt|apply τf))
  refine aw_loop (fun s : Nat × Nat => mk 19 [(0, slOf 8 trowA trow0 l), (1, (.fn (.func f) [] [.rp x, .rp y])), (7, int l.length), (8, int s.1)] ⟨[], [], s.2, 0⟩) (fun s => s.1 ≤ l.length ∧ ∀ j, j < s.1 → p (l.getD j trow0) = false) (fun s => l.length - s.1) ?_ ?_
  · exact ⟨(0, nx), ⟨by simp, by intro j hj; simp at hj⟩, ele_mk rfl rfl ⟨AVle.refl _, AVle.refl _, AVle.refl _, AVle.refl _, trivial⟩⟩
  · rintro ⟨i, nx⟩ ⟨h1, h2⟩
    dsimp only at h1 h2
    (repeat((conv=>whnf);first|apply ω0|apply ω1|apply ω2|refine τ3 rfl ?_|refine τ4 rfl ?_|refine ⟨rfl,?_⟩|apply τa|refine τb rfl ?_|refine ⟨⟨by kernel_rfl,by kernel_rfl⟩,?_⟩|refine ⟨by decide,?_⟩|apply τt|apply τf))
    intro c h3; cases c
    · have h3 := not_of h3
      dsimp only at h3
      (repeat((conv=>whnf);first|apply ω0|apply ω1|apply ω2|refine τ3 rfl ?_|refine τ4 rfl ?_|refine ⟨rfl,?_⟩|apply τa|refine τb rfl ?_|refine ⟨⟨by kernel_rfl,by kernel_rfl⟩,?_⟩|refine ⟨by decide,?_⟩|apply τt|apply τf))
      refine ret_tells rfl (le_int ?_)
      rw [idx_none trow0 (fun j hj => h2 j (by omega))]; rfl
    · have h3 := yes_of h3
      dsimp only at h3
      have hi : i < l.length := by omega
      (repeat((conv=>whnf);first|apply ω0|apply ω1|apply ω2|refine τ3 rfl ?_|refine τ4 rfl ?_|refine ⟨rfl,?_⟩|apply τa|refine τb rfl ?_|refine ⟨⟨by kernel_rfl,by kernel_rfl⟩,?_⟩|refine ⟨by decide,?_⟩|apply τt|apply τf))
      refine ⟨⟨by dsimp only; omega, by dsimp only; omega⟩, ?_⟩
      (repeat((conv=>whnf);first|apply ω0|apply ω1|apply ω2|refine τ3 rfl ?_|refine τ4 rfl ?_|refine ⟨rfl,?_⟩|apply τa|refine τb rfl ?_|refine ⟨⟨by kernel_rfl,by kernel_rfl⟩,?_⟩|refine ⟨by decide,?_⟩|apply τt|apply τf))
      refine aop_tells rfl rfl (hp i hi) ⟨AVle.refl _, AVle.refl _, AVle.refl _, trivial⟩ fun nx' => ?_
      intro c h4; cases c
      · (repeat((conv=>whnf);first|apply ω0|apply ω1|apply ω2|refine τ3 rfl ?_|refine τ4 rfl ?_|refine ⟨rfl,?_⟩|apply τa|refine τb rfl ?_|refine ⟨⟨by kernel_rfl,by kernel_rfl⟩,?_⟩|refine ⟨by decide,?_⟩|apply τt|apply τf))
        refine back (i + 1, nx') ⟨by dsimp only; omega, fun j hj => ?_⟩ (by dsimp only; omega) (ele_mk rfl rfl ⟨AVle.refl _, AVle.refl _, AVle.refl _, le_int (wrap_succ (by dsimp only; omega)), trivial⟩)
        dsimp only at hj
        rcases Nat.lt_or_ge j i with h | h
        · exact h2 j h
        · obtain rfl : j = i := by omega
          exact h4.symm
      · (repeat((conv=>whnf);first|apply ω0|apply ω1|apply ω2|refine τ3 rfl ?_|refine τ4 rfl ?_|refine ⟨rfl,?_⟩|apply τa|refine τb rfl ?_|refine ⟨⟨by kernel_rfl,by kernel_rfl⟩,?_⟩|refine ⟨by decide,?_⟩|apply τt|apply τf))
        refine ret_tells rfl (le_int ?_)
        rw [idx_at trow0 hi h2 h4.symm]; rfl
def subB (mux sub : Int) (r : TRow) : Bool := decide (r.mux = mux) && (decide (r.sub = sub) && decide (mux ≠ 0))
theorem sub1_spec (r : TRow) (mux sub : Int) : Tells Tryz.prog 110 [trowA r, .rp [int mux], .rp [int sub]] (boolA (subB mux sub r)) := by
  refine tells_of_aw Tryz.func110 rfl rfl fun nx => ?_
  (repeat((conv=>whnf);first|apply ω0|apply ω1|apply ω2|refine τ3 rfl ?_|refine τ4 rfl ?_|refine ⟨rfl,?_⟩|apply τa|refine τb rfl ?_|refine ⟨⟨by kernel_rfl,by kernel_rfl⟩,?_⟩|refine ⟨by decide,?_⟩|apply τt|apply τf))
  intro c t1; cases c
  · have e : subB mux sub r = false := by unfold subB; rw [decide_eq_false (by simpa using t1.symm)]; rfl
    rw [e]
    (repeat((conv=>whnf);first|apply ω0|apply ω1|apply ω2|refine τ3 rfl ?_|refine τ4 rfl ?_|refine ⟨rfl,?_⟩|apply τa|refine τb rfl ?_|refine ⟨⟨by kernel_rfl,by kernel_rfl⟩,?_⟩|refine ⟨by decide,?_⟩|apply τt|apply τf))
    exact ret_tells rfl (AVle.refl _)
  · have t1 : r.mux = mux := by simpa using t1.symm
    have e : subB mux sub r = (decide (r.sub = sub) && decide (mux ≠ 0)) := by unfold subB; rw [decide_eq_true t1]; rfl
    rw [e]
    (repeat((conv=>whnf);first|apply ω0|apply ω1|apply ω2|refine τ3 rfl ?_|refine τ4 rfl ?_|refine ⟨rfl,?_⟩|apply τa|refine τb rfl ?_|refine ⟨⟨by kernel_rfl,by kernel_rfl⟩,?_⟩|refine ⟨by decide,?_⟩|apply τt|apply τf))
    intro c t2; cases c
    · rw [decide_eq_false (show ¬ r.sub = sub by simpa using t2.symm)]
      (repeat((conv=>whnf);first|apply ω0|apply ω1|apply ω2|refine τ3 rfl ?_|refine τ4 rfl ?_|refine ⟨rfl,?_⟩|apply τa|refine τb rfl ?_|refine ⟨⟨by kernel_rfl,by kernel_rfl⟩,?_⟩|refine ⟨by decide,?_⟩|apply τt|apply τf))
      exact ret_tells rfl (AVle.refl _)
    · rw [decide_eq_true (show r.sub = sub by simpa using t2.symm)]
      (repeat((conv=>whnf);first|apply ω0|apply ω1|apply ω2|refine τ3 rfl ?_|refine τ4 rfl ?_|refine ⟨rfl,?_⟩|apply τa|refine τb rfl ?_|refine ⟨⟨by kernel_rfl,by kernel_rfl⟩,?_⟩|refine ⟨by decide,?_⟩|apply τt|apply τf))
      intro c t3; cases c
      all_goals
        (repeat((conv=>whnf);first|apply ω0|apply ω1|apply ω2|refine τ3 rfl ?_|refine τ4 rfl ?_|refine ⟨rfl,?_⟩|apply τa|refine τb rfl ?_|refine ⟨⟨by kernel_rfl,by kernel_rfl⟩,?_⟩|refine ⟨by decide,?_⟩|apply τt|apply τf))
        exact ret_tells rfl (le_bool (t3.trans (by rw [Bool.true_and, Bool.eq_iff_iff]; simp)))
def subRes (l : List TRow) : Option Nat → AV
  | some i => .tup [strA (l.getD i trow0).name, boolA true]
  | none => .tup [strA ⟨#[]⟩, boolA false]
theorem idx_lt {l : List TRow} {p : TRow → Bool} {i : Nat} (h : l.findIdx? p = some i) : i < l.length := (List.findIdx?_eq_some_iff_getElem.1 h).1
theorem tabsub_spec (l : List TRow) (mux sub : Int) (hl : l.length ≤ 1000000000) : Tells Tryz.prog 62 [trows l, int mux, int sub] (subRes l (l.findIdx? (subB mux sub))) := by
  have hi := idxf_trow l (subB mux sub) 110 [int mux] [int sub] hl (fun i _ => sub1_spec _ mux sub)
  have hlt := fun i => idx_lt (l := l) (p := subB mux sub) (i := i)
  generalize l.findIdx? (subB mux sub) = o at hi hlt ⊢
  refine tells_of_aw Tryz.func62 rfl rfl fun nx => ?_
  ((repeat((conv=>whnf);first|apply ω0|apply ω2|refine τ3 rfl ?_|refine τ4 rfl ?_|refine ⟨rfl,?_⟩|apply τa|refine τb rfl ?_|refine ⟨⟨by kernel_rfl,by kernel_rfl⟩,?_⟩|refine ⟨by decide,?_⟩|apply τt|apply τf)); refine aw_region ?_; (repeat((conv=>whnf);first|apply ω0|apply ω2|refine τ3 rfl ?_|refine τ4 rfl ?_|refine ⟨rfl,?_⟩|apply τa|refine τb rfl ?_|refine ⟨⟨by kernel_rfl,by kernel_rfl⟩,?_⟩|refine ⟨by decide,?_⟩|apply τt|apply τf)))
  refine aw_freeze (n := 19) (nx := nx + 2) (nn := 2) (pm := []) (bx := []) (L := [(0, trows l), (4, .rp [int mux]), (5, .rp [int sub])]) (df := some []) [((1, nx + 1), .c [int sub]), ((0, nx), .c [int mux])] rfl rfl rfl (List.Perm.refl _) (List.Sublist.refl _) ⟨Frz.refl _, Frz.bp (.tail _ (.head _)) rfl, Frz.bp (.head _) rfl, trivial⟩ ?_
  (repeat((conv=>whnf);first|apply ω0|apply ω1|apply ω2|refine τ3 rfl ?_|refine τ4 rfl ?_|refine ⟨rfl,?_⟩|apply τa|refine τb rfl ?_|refine ⟨⟨by kernel_rfl,by kernel_rfl⟩,?_⟩|refine ⟨by decide,?_⟩|apply τt|apply τf))
  refine aop_tells rfl rfl hi ⟨AVle.refl _, AVle.refl _, trivial⟩ fun nx2 => ?_
  rcases o with _ | i
  · (repeat((conv=>whnf);first|apply ω0|apply ω1|apply ω2|refine τ3 rfl ?_|refine τ4 rfl ?_|refine ⟨rfl,?_⟩|apply τa|refine τb rfl ?_|refine ⟨⟨by kernel_rfl,by kernel_rfl⟩,?_⟩|refine ⟨by decide,?_⟩|apply τt|apply τf))
    exact ret_tells rfl (AVle.refl _)
  · have hi := hlt i rfl
    (repeat((conv=>whnf);first|apply ω0|apply ω1|apply ω2|refine τ3 rfl ?_|refine τ4 rfl ?_|refine ⟨rfl,?_⟩|apply τa|refine τb rfl ?_|refine ⟨⟨by kernel_rfl,by kernel_rfl⟩,?_⟩|refine ⟨by decide,?_⟩|apply τt|apply τf))
    refine ⟨⟨Int.natCast_nonneg i, show (i : Int) < (l.length : Int) by omega⟩, ?_⟩
    (repeat((conv=>whnf);first|apply ω0|apply ω1|apply ω2|refine τ3 rfl ?_|refine τ4 rfl ?_|refine ⟨rfl,?_⟩|apply τa|refine τb rfl ?_|refine ⟨⟨by kernel_rfl,by kernel_rfl⟩,?_⟩|refine ⟨by decide,?_⟩|apply τt|apply τf))
    exact ret_tells rfl (AVle.refl _)
def nameB5 (a : Nat) (n : Int) (r : TRow) : Bool := decide (r.num a = n)
theorem name1_spec (r : TRow) (a : Nat) (ha : a < 5) (n : Int) (hn : 0 ≤ n) : Tells Tryz.prog 111 [trowA r, .rp [int a], .rp [int n]] (boolA (nameB5 a n r)) := by
  have hne : decide (n ≠ -1) = true := decide_eq_true (by omega)
  have hne2 : (n != -1) = true := by simp; omega
  unfold nameB5
  refine tells_of_aw Tryz.func111 rfl rfl fun nx => ?_
  rcases (by omega : a = 0 ∨ a = 1 ∨ a = 2 ∨ a = 3 ∨ a = 4) with rfl | rfl | rfl | rfl | rfl
  all_goals
    (repeat((conv=>whnf);first|apply ω0|apply ω1|apply ω2|refine τ3 rfl ?_|refine τ4 rfl ?_|refine ⟨rfl,?_⟩|apply τa|refine τb rfl ?_|refine ⟨⟨by kernel_rfl,by kernel_rfl⟩,?_⟩|refine ⟨by decide,?_⟩|apply τt|apply τf))
    (refine aw_draw 11 ?_ ?_ ?_ ?_; (· kernel_rfl); (· kernel_rfl); (· kernel_rfl))
    (repeat((conv=>whnf);first|apply ω0|apply ω1|apply ω2|refine τ3 rfl ?_|refine τ4 rfl ?_|refine ⟨rfl,?_⟩|apply τa|refine τb rfl ?_|refine ⟨⟨by kernel_rfl,by kernel_rfl⟩,?_⟩|refine ⟨by decide,?_⟩|apply τt|apply τf))
    intro c t1; cases c
    · (repeat((conv=>whnf);first|apply ω0|apply ω1|apply ω2|refine τ3 rfl ?_|refine τ4 rfl ?_|refine ⟨rfl,?_⟩|apply τa|refine τb rfl ?_|refine ⟨⟨by kernel_rfl,by kernel_rfl⟩,?_⟩|refine ⟨by decide,?_⟩|apply τt|apply τf))
      exact ret_tells rfl (le_bool (decide_eq_false (beq_eq_false_iff_ne.1 t1.symm)).symm)
    · (repeat((conv=>whnf);first|apply ω0|apply ω1|apply ω2|refine τ3 rfl ?_|refine τ4 rfl ?_|refine ⟨rfl,?_⟩|apply τa|refine τb rfl ?_|refine ⟨⟨by kernel_rfl,by kernel_rfl⟩,?_⟩|refine ⟨by decide,?_⟩|apply τt|apply τf))
      (conv => whnf)
      refine lit_eq hne2 ?_
      (repeat((conv=>whnf);first|apply ω0|apply ω1|apply ω2|refine τ3 rfl ?_|refine τ4 rfl ?_|refine ⟨rfl,?_⟩|apply τa|refine τb rfl ?_|refine ⟨⟨by kernel_rfl,by kernel_rfl⟩,?_⟩|refine ⟨by decide,?_⟩|apply τt|apply τf))
      exact ret_tells rfl (le_bool (decide_eq_true (beq_iff_eq.1 t1.symm)).symm)
def nameRes (l : List TRow) : Option Nat → AV
  | some i => .tup [strA (l.getD i trow0).name, int 0]
  | none => .tup [strA ⟨#[]⟩, int 14]
theorem tabname_spec (l : List TRow) (a : Nat) (ha : a < 5) (n : Int) (hn : 0 ≤ n) (hl : l.length ≤ 1000000000) : Tells Tryz.prog 64 [trows l, int a, int n] (nameRes l (l.findIdx? (nameB5 a n))) := by
  have hi := idxf_trow l (nameB5 a n) 111 [int a] [int n] hl (fun i _ => name1_spec _ a ha n hn)
  have hlt := fun i => idx_lt (l := l) (p := nameB5 a n) (i := i)
  generalize l.findIdx? (nameB5 a n) = o at hi hlt ⊢
  have hd1 : decide ((a : Int) < 0) = false := decide_eq_false (by omega)
  have hd2 : decide ((a : Int) ≥ 5) = false := decide_eq_false (by omega)
  have hd3 : decide (n < 0) = false := decide_eq_false (by omega)
  refine tells_of_aw Tryz.func64 rfl rfl fun nx => ?_
  ((repeat((conv=>whnf);first|apply ω0|apply ω2|refine τ3 rfl ?_|refine τ4 rfl ?_|refine ⟨rfl,?_⟩|apply τa|refine τb rfl ?_|refine ⟨⟨by kernel_rfl,by kernel_rfl⟩,?_⟩|refine ⟨by decide,?_⟩|apply τt|apply τf)); refine aw_region ?_; (repeat((conv=>whnf);first|apply ω0|apply ω2|refine τ3 rfl ?_|refine τ4 rfl ?_|refine ⟨rfl,?_⟩|apply τa|refine τb rfl ?_|refine ⟨⟨by kernel_rfl,by kernel_rfl⟩,?_⟩|refine ⟨by decide,?_⟩|apply τt|apply τf)))
  refine aw_freeze (n := 47) (nx := nx + 2) (nn := 2) (pm := []) (bx := []) (L := [(0, trows l), (4, .rp [int a]), (5, .rp [int n])]) (df := some []) [((1, nx + 1), .c [int n]), ((0, nx), .c [int a])] rfl rfl rfl (List.Perm.refl _) (List.Sublist.refl _) ⟨Frz.refl _, Frz.bp (.tail _ (.head _)) rfl, Frz.bp (.head _) rfl, trivial⟩ ?_
  (repeat((conv=>whnf);first|apply ω0|apply ω1|apply ω2|refine τ3 rfl ?_|refine τ4 rfl ?_|refine ⟨rfl,?_⟩|apply τa|refine τb rfl ?_|refine ⟨⟨by kernel_rfl,by kernel_rfl⟩,?_⟩|refine ⟨by decide,?_⟩|apply τt|apply τf))
  (conv => whnf)
  refine lit_eq hd2 ?_
  (repeat((conv=>whnf);first|apply ω0|apply ω1|apply ω2|refine τ3 rfl ?_|refine τ4 rfl ?_|refine ⟨rfl,?_⟩|apply τa|refine τb rfl ?_|refine ⟨⟨by kernel_rfl,by kernel_rfl⟩,?_⟩|refine ⟨by decide,?_⟩|apply τt|apply τf))
  refine aop_tells rfl rfl hi ⟨AVle.refl _, AVle.refl _, trivial⟩ fun nx2 => ?_
  rcases o with _ | i
  · (repeat((conv=>whnf);first|apply ω0|apply ω1|apply ω2|refine τ3 rfl ?_|refine τ4 rfl ?_|refine ⟨rfl,?_⟩|apply τa|refine τb rfl ?_|refine ⟨⟨by kernel_rfl,by kernel_rfl⟩,?_⟩|refine ⟨by decide,?_⟩|apply τt|apply τf))
    (refine aw_draw 20 ?_ ?_ ?_ ?_; (· kernel_rfl); (· kernel_rfl); (· kernel_rfl))
    (repeat((conv=>whnf);first|apply ω0|apply ω1|apply ω2|refine τ3 rfl ?_|refine τ4 rfl ?_|refine ⟨rfl,?_⟩|apply τa|refine τb rfl ?_|refine ⟨⟨by kernel_rfl,by kernel_rfl⟩,?_⟩|refine ⟨by decide,?_⟩|apply τt|apply τf))
    (conv => whnf)
    refine lit_eq hd3 ?_
    (repeat((conv=>whnf);first|apply ω0|apply ω1|apply ω2|refine τ3 rfl ?_|refine τ4 rfl ?_|refine ⟨rfl,?_⟩|apply τa|refine τb rfl ?_|refine ⟨⟨by kernel_rfl,by kernel_rfl⟩,?_⟩|refine ⟨by decide,?_⟩|apply τt|apply τf))
    exact ret_tells rfl (AVle.refl _)
  · have hi := hlt i rfl
    (repeat((conv=>whnf);first|apply ω0|apply ω1|apply ω2|refine τ3 rfl ?_|refine τ4 rfl ?_|refine ⟨rfl,?_⟩|apply τa|refine τb rfl ?_|refine ⟨⟨by kernel_rfl,by kernel_rfl⟩,?_⟩|refine ⟨by decide,?_⟩|apply τt|apply τf))
    (refine aw_draw 20 ?_ ?_ ?_ ?_; (· kernel_rfl); (· kernel_rfl); (· kernel_rfl))
    (repeat((conv=>whnf);first|apply ω0|apply ω1|apply ω2|refine τ3 rfl ?_|refine τ4 rfl ?_|refine ⟨rfl,?_⟩|apply τa|refine τb rfl ?_|refine ⟨⟨by kernel_rfl,by kernel_rfl⟩,?_⟩|refine ⟨by decide,?_⟩|apply τt|apply τf))
    (conv => whnf)
    refine lit_eq hd3 ?_
    (repeat((conv=>whnf);first|apply ω0|apply ω1|apply ω2|refine τ3 rfl ?_|refine τ4 rfl ?_|refine ⟨rfl,?_⟩|apply τa|refine τb rfl ?_|refine ⟨⟨by kernel_rfl,by kernel_rfl⟩,?_⟩|refine ⟨by decide,?_⟩|apply τt|apply τf))
    refine ⟨⟨Int.natCast_nonneg i, show (i : Int) < (l.length : Int) by omega⟩, ?_⟩
    (repeat((conv=>whnf);first|apply ω0|apply ω1|apply ω2|refine τ3 rfl ?_|refine τ4 rfl ?_|refine ⟨rfl,?_⟩|apply τa|refine τb rfl ?_|refine ⟨⟨by kernel_rfl,by kernel_rfl⟩,?_⟩|refine ⟨by decide,?_⟩|apply τt|apply τf))
    exact ret_tells rfl (AVle.refl _)
end Go.Proofs.W

namespace Go.Proofs.W
open Go.Vl
set_option maxRecDepth 100000

def ownI (a num : Nat) : Nat := if a = 1 ∧ num / 1073741824 % 2 = 1 then num - 1073741824 else num
theorem and_split {c lo d m i : Nat} (h : lo < 2 ^ i) (hm : m < 2 ^ i) : (2 ^ i * c + lo) &&& (2 ^ i * d + m) = 2 ^ i * (c &&& d) + (lo &&& m) := by
  apply Nat.eq_of_testBit_eq
  intro j
  have hlm : lo &&& m < 2 ^ i := Nat.lt_of_le_of_lt Nat.and_le_left h
  rw [Nat.testBit_and, Nat.testBit_two_pow_mul_add _ h, Nat.testBit_two_pow_mul_add _ hm, Nat.testBit_two_pow_mul_add _ hlm]
  split <;> rw [Nat.testBit_and]
theorem own_and {num : Nat} (h : num < 4294967296) : num &&& 3221225471 = ownI 1 num := by
  have hlo : num % 1073741824 < 2 ^ 30 := Nat.mod_lt _ (by decide)
  have e1 : num = 2 ^ 30 * (num / 1073741824) + num % 1073741824 := by have := Nat.div_add_mod num 1073741824; show num = 1073741824 * _ + _; omega
  have hc : num / 1073741824 < 4 := by omega
  have hs := and_split (c := num / 1073741824) (lo := num % 1073741824) (d := 2) (m := 1073741823) (i := 30) hlo (by decide)
  rw [← e1] at hs
  have e2 : (2 ^ 30 * 2 + 1073741823 : Nat) = 3221225471 := by decide
  rw [e2] at hs
  have e3 : num % 1073741824 &&& 1073741823 = num % 1073741824 := by
    have := Nat.and_two_pow_sub_one_eq_mod (num % 1073741824) 30
    rw [show (2 ^ 30 - 1 : Nat) = 1073741823 by decide] at this
    rw [this]; exact Nat.mod_eq_of_lt hlo
  rw [hs, e3]
  unfold ownI
  generalize hq : num / 1073741824 = c at hc
  generalize num % 1073741824 = lo at e1
  rw [hq] at e1
  have e4 : (2 ^ 30 : Nat) = 1073741824 := by decide
  rw [e4] at e1 ⊢
  rcases (by omega : c = 0 ∨ c = 1 ∨ c = 2 ∨ c = 3) with rfl | rfl | rfl | rfl
  · rw [if_neg (by decide), show (0 &&& 2 : Nat) = 0 by decide]; omega
  · rw [if_pos (by decide), show (1 &&& 2 : Nat) = 0 by decide]; omega
  · rw [if_neg (by decide), show (2 &&& 2 : Nat) = 2 by decide]; omega
  · rw [if_pos (by decide), show (3 &&& 2 : Nat) = 2 by decide]; omega
theorem own32 {num : Nat} (h : num < 4294967296) : bitsI .andNot .u32 (num : Int) 1073741824 = ((ownI 1 num : Nat) : Int) := by
  rw [← own_and h]
  exact bits_andNot (k := .u32) (b := 1073741824) h (by decide) (by
    have : num &&& (2 ^ IntKind.u32.bits - 1 - 1073741824) ≤ num := Nat.and_le_left
    have : num &&& (2 ^ IntKind.u32.bits - 1 - 1073741824) < 4294967296 := by omega
    simp [IntKind.wrap, IntKind.signed, IntKind.bits] at this ⊢
    omega)
theorem abiown_spec (a num : Nat) (h : num < 4294967296) : Tells Tryz.prog 65 [int a, u32 num] (u32 (ownI a num)) := by
  refine tells_of_aw Tryz.func65 rfl rfl fun nx => ?_
  (repeat((conv=>whnf);first|apply ω0|apply ω1|apply ω2|refine τ3 rfl ?_|refine τ4 rfl ?_|refine ⟨rfl,?_⟩|apply τa|refine τb rfl ?_|refine ⟨⟨by kernel_rfl,by kernel_rfl⟩,?_⟩|refine ⟨by decide,?_⟩|apply τt|apply τf))
  intro c t; cases c
  · have e : ¬ a = 1 := fun e => by subst e; simp at t
    have e2 : ownI a num = num := if_neg (fun q => e q.1)
    rw [e2]
    (repeat((conv=>whnf);first|apply ω0|apply ω1|apply ω2|refine τ3 rfl ?_|refine τ4 rfl ?_|refine ⟨rfl,?_⟩|apply τa|refine τb rfl ?_|refine ⟨⟨by kernel_rfl,by kernel_rfl⟩,?_⟩|refine ⟨by decide,?_⟩|apply τt|apply τf))
    exact ret_tells rfl (AVle.refl _)
  · have e : a = 1 := by have : (a : Int) = 1 := by simpa using t.symm
                         omega
    subst e
    (repeat((conv=>whnf);first|apply ω0|apply ω1|apply ω2|refine τ3 rfl ?_|refine τ4 rfl ?_|refine ⟨rfl,?_⟩|apply τa|refine τb rfl ?_|refine ⟨⟨by kernel_rfl,by kernel_rfl⟩,?_⟩|refine ⟨by decide,?_⟩|apply τt|apply τf))
    exact ret_tells rfl (AVle.of_eq (congrArg u32 (own32 h)))
def kindI (num : Nat) : Nat := if num = 102 then 1 else if num = 117 then 2 else 0
theorem muxkind_spec (num : Nat) : Tells Tryz.prog 60 [u32 num] (int (kindI num)) := by
  refine tells_of_aw Tryz.func60 rfl rfl fun nx => ?_
  (repeat((conv=>whnf);first|apply ω0|apply ω1|apply ω2|refine τ3 rfl ?_|refine τ4 rfl ?_|refine ⟨rfl,?_⟩|apply τa|refine τb rfl ?_|refine ⟨⟨by kernel_rfl,by kernel_rfl⟩,?_⟩|refine ⟨by decide,?_⟩|apply τt|apply τf))
  intro c t; cases c
  · have e : ¬ num = 102 := fun e => by subst e; simp at t
    (repeat((conv=>whnf);first|apply ω0|apply ω1|apply ω2|refine τ3 rfl ?_|refine τ4 rfl ?_|refine ⟨rfl,?_⟩|apply τa|refine τb rfl ?_|refine ⟨⟨by kernel_rfl,by kernel_rfl⟩,?_⟩|refine ⟨by decide,?_⟩|apply τt|apply τf))
    intro c t2; cases c
    · have e2 : ¬ num = 117 := fun e => by subst e; simp at t2
      have e3 : kindI num = 0 := by unfold kindI; rw [if_neg e, if_neg e2]
      rw [e3]
      (repeat((conv=>whnf);first|apply ω0|apply ω1|apply ω2|refine τ3 rfl ?_|refine τ4 rfl ?_|refine ⟨rfl,?_⟩|apply τa|refine τb rfl ?_|refine ⟨⟨by kernel_rfl,by kernel_rfl⟩,?_⟩|refine ⟨by decide,?_⟩|apply τt|apply τf))
      exact ret_tells rfl (AVle.refl _)
    · have e2 : num = 117 := by have : (num : Int) = 117 := by simpa using t2.symm
                                omega
      subst e2
      (repeat((conv=>whnf);first|apply ω0|apply ω1|apply ω2|refine τ3 rfl ?_|refine τ4 rfl ?_|refine ⟨rfl,?_⟩|apply τa|refine τb rfl ?_|refine ⟨⟨by kernel_rfl,by kernel_rfl⟩,?_⟩|refine ⟨by decide,?_⟩|apply τt|apply τf))
      exact ret_tells rfl (AVle.refl _)
  · have e2 : num = 102 := by have : (num : Int) = 102 := by simpa using t.symm
                              omega
    subst e2
    (repeat((conv=>whnf);first|apply ω0|apply ω1|apply ω2|refine τ3 rfl ?_|refine τ4 rfl ?_|refine ⟨rfl,?_⟩|apply τa|refine τb rfl ?_|refine ⟨⟨by kernel_rfl,by kernel_rfl⟩,?_⟩|refine ⟨by decide,?_⟩|apply τt|apply τf))
    exact ret_tells rfl (AVle.refl _)
def nameO (l : List TRow) : Option Nat → ByteArray
  | some i => (l.getD i trow0).name
  | none => ⟨#[]⟩
theorem low32i {n : Nat} : IntKind.i64.wrap (IntKind.u32.wrap (n : Int)) = ((n % 4294967296 : Nat) : Int) := by
  simp [IntKind.wrap, IntKind.signed, IntKind.bits]; omega
theorem muxed_spec (l : List TRow) (kind : Int) (r : Rec) (hl : l.length ≤ 1000000000) : Tells Tryz.prog 61 [.rp [trows l], .rp [int kind], .rp (recC r)] (strA (nameO l (l.findIdx? (subB kind ((r.a0 % 4294967296 : Nat) : Int))))) := by
  have hs := tabsub_spec l kind ((r.a0 % 4294967296 : Nat) : Int) hl
  generalize l.findIdx? (subB kind ((r.a0 % 4294967296 : Nat) : Int)) = o at hs ⊢
  refine tells_of_aw Tryz.func61 rfl rfl fun nx => ?_
  (repeat((conv=>whnf);first|apply ω0|apply ω1|apply ω2|refine τ3 rfl ?_|refine τ4 rfl ?_|refine ⟨rfl,?_⟩|apply τa|refine τb rfl ?_|refine ⟨⟨by kernel_rfl,by kernel_rfl⟩,?_⟩|refine ⟨by decide,?_⟩|apply τt|apply τf))
  refine ⟨⟨by decide, by decide, by rw [show Int.toNat 0 = 0 from rfl, Nat.zero_mul]; exact Nat.zero_le _⟩, splitO_eq (b := .rp [u64 r.a0, u64 r.a1, u64 r.a2, u64 r.a3, u64 r.a4, u64 r.a5]) (by rw [c_u64]; rfl) ?_⟩
  (repeat((conv=>whnf);first|apply ω0|apply ω1|apply ω2|refine τ3 rfl ?_|refine τ4 rfl ?_|refine ⟨rfl,?_⟩|apply τa|refine τb rfl ?_|refine ⟨⟨by kernel_rfl,by kernel_rfl⟩,?_⟩|refine ⟨by decide,?_⟩|apply τt|apply τf))
  refine aop_tells rfl rfl hs ⟨AVle.refl _, AVle.refl _, le_int low32i, trivial⟩ fun nx2 => ?_
  rcases o with _ | i
  all_goals
    (repeat((conv=>whnf);first|apply ω0|apply ω1|apply ω2|refine τ3 rfl ?_|refine τ4 rfl ?_|refine ⟨rfl,?_⟩|apply τa|refine τb rfl ?_|refine ⟨⟨by kernel_rfl,by kernel_rfl⟩,?_⟩|refine ⟨by decide,?_⟩|apply τt|apply τf))
    exact ret_tells rfl (AVle.refl _)
theorem direct_spec (l : List TRow) (a : Nat) (ha : a < 5) (r : Rec) (hr : r.ok) (hl : l.length ≤ 1000000000) : Tells Tryz.prog 63 [.rp [trows l], .rp [int a], .rp (recC r)] (strA (nameO l (l.findIdx? (nameB5 a ((ownI a r.num : Nat) : Int))))) := by
  have hs := tabname_spec l a ha ((ownI a r.num : Nat) : Int) (Int.natCast_nonneg _) hl
  have ho := abiown_spec a r.num hr.1
  generalize l.findIdx? (nameB5 a ((ownI a r.num : Nat) : Int)) = o at hs ⊢
  have hid : NoId (nameRes l o) := by
    cases o <;> exact NoId.tup (by intro y hy; simp only [List.mem_cons, List.not_mem_nil, or_false] at hy; rcases hy with rfl | rfl <;> exact NoId.v _)
  have hw : IntKind.i64.wrap ((ownI a r.num : Nat) : Int) = ((ownI a r.num : Nat) : Int) := by
    have h2 : ownI a r.num ≤ r.num := by unfold ownI; split <;> omega
    have := hr.1
    exact wrap_id (by omega) (by omega)
  refine tells_of_aw Tryz.func63 rfl rfl fun nx => ?_
  (repeat((conv=>whnf);first|apply ω0|apply ω1|apply ω2|refine τ3 rfl ?_|refine τ4 rfl ?_|refine ⟨rfl,?_⟩|apply τa|refine τb rfl ?_|refine ⟨⟨by kernel_rfl,by kernel_rfl⟩,?_⟩|refine ⟨by decide,?_⟩|apply τt|apply τf))
  refine aw_mixN 12 _ (fun _ => false) (fun i => match i with | 5 => true | 7 => true | _ => false) [0, 1, 2, 3, 4, 5, 6, 7, 8, 9, 10, 11] (by kernel_rfl) (by kernel_rfl) (HB.refl _) ?_
  (repeat((conv=>whnf);first|apply ω0|apply ω1|apply ω2|refine τ3 rfl ?_|refine τ4 rfl ?_|refine ⟨rfl,?_⟩|apply τa|refine τb rfl ?_|refine ⟨⟨by kernel_rfl,by kernel_rfl⟩,?_⟩|refine ⟨by decide,?_⟩|apply τt|apply τf))
  refine ⟨_, pure_tells rfl rfl rfl ho ⟨AVle.refl _, AVle.refl _, trivial⟩ (NoId.v _), ?_⟩
  (repeat((conv=>whnf);first|apply ω0|apply ω1|apply ω2|refine τ3 rfl ?_|refine τ4 rfl ?_|refine ⟨rfl,?_⟩|apply τa|refine τb rfl ?_|refine ⟨⟨by kernel_rfl,by kernel_rfl⟩,?_⟩|refine ⟨by decide,?_⟩|apply τt|apply τf))
  refine ⟨_, pure_tells rfl rfl rfl hs ⟨AVle.refl _, AVle.refl _, le_int hw, trivial⟩ hid, ?_⟩
  rcases o with _ | i
  all_goals
    (repeat((conv=>whnf);first|apply ω0|apply ω1|apply ω2|refine τ3 rfl ?_|refine τ4 rfl ?_|refine ⟨rfl,?_⟩|apply τa|refine τb rfl ?_|refine ⟨⟨by kernel_rfl,by kernel_rfl⟩,?_⟩|refine ⟨by decide,?_⟩|apply τt|apply τf))
    exact ret_tells rfl (AVle.refl _)
end Go.Proofs.W

namespace Go.Proofs.W
open Go.Vl
set_option maxRecDepth 100000

structure CallR where
  some : Bool
  abi : Int
  name : ByteArray
  muxed : Bool
def callC (c : CallR) : List AV := [boolA c.some, int c.abi, strA c.name, boolA c.muxed]
def callA (c : CallR) : AV := .ag (callC c)
def call0 : CallR := ⟨false, 0, ⟨#[]⟩, false⟩
def selO (arch num : Nat) : Option Nat := (infN.find? (selB arch (withB num))).map (·.1)
theorem selA_eq (arch num : Nat) : selA arch num = match selO arch num with
    | some a => .tup [int a, boolA true]
    | none => .tup [int 0, boolA false] := by
  unfold selA selO
  cases infN.find? (selB arch (withB num)) <;> rfl
theorem selO_lt {arch num a : Nat} (h : selO arch num = some a) : a < 5 := by
  unfold selO at h
  obtain ⟨x, hx, rfl⟩ := Option.map_eq_some_iff.1 h
  have := List.mem_of_find?_eq_some hx
  simp only [infN, List.mem_cons, List.not_mem_nil, or_false] at this
  rcases this with rfl | rfl | rfl | rfl | rfl <;> decide
def kindO (a num : Nat) : Nat := if a = 2 then kindI num else 0
/-- Which call a record is. -/
def ofI (l : List TRow) (r : Rec) : CallR := match selO r.arch r.num with
  | none => call0
  | some a => if 0 < kindO a r.num then ⟨true, a, nameO l (l.findIdx? (subB (kindO a r.num) ((r.a0 % 4294967296 : Nat) : Int))), true⟩
    else ⟨true, a, nameO l (l.findIdx? (nameB5 a ((ownI a r.num : Nat) : Int))), false⟩
theorem int2 {a : Nat} : ((a : Int) == 2) = decide (a = 2) := by
  rw [Bool.eq_iff_iff]; simp; omega
set_option maxHeartbeats 4000000 in
theorem muxof_spec (l : List TRow) (r : Rec) (hr : r.ok) (hl : l.length ≤ 1000000000) : Tells Tryz.prog 24 [trows l, recA r] (callA (ofI l r)) := by
  have hs := select_spec r.arch r.num hr.2.1 hr.1
  rw [selA_eq] at hs
  unfold ofI
  cases hso : selO r.arch r.num with
  | none =>
    rw [hso] at hs
    refine tells_of_aw Tryz.func24 rfl rfl fun nx => ?_
    (repeat((conv=>whnf);first|apply ω0|apply ω1|apply ω2|refine τ3 rfl ?_|refine τ4 rfl ?_|refine ⟨rfl,?_⟩|apply τa|refine τb rfl ?_|refine ⟨⟨by kernel_rfl,by kernel_rfl⟩,?_⟩|refine ⟨by decide,?_⟩|apply τt|apply τf))
    refine aop_tells rfl rfl hs ⟨AVle.refl _, AVle.refl _, trivial⟩ fun nx2 => ?_
    (repeat((conv=>whnf);first|apply ω0|apply ω1|apply ω2|refine τ3 rfl ?_|refine τ4 rfl ?_|refine ⟨rfl,?_⟩|apply τa|refine τb rfl ?_|refine ⟨⟨by kernel_rfl,by kernel_rfl⟩,?_⟩|refine ⟨by decide,?_⟩|apply τt|apply τf))
    exact ret_tells_all rfl ⟨rfl, trivial⟩ (AVle.refl _)
  | some a =>
    rw [hso] at hs
    dsimp only at hs ⊢
    have ha := selO_lt hso
    have hk := muxkind_spec r.num
    have hm := fun k => muxed_spec l k r hl
    have hd := direct_spec l a ha r hr hl
    by_cases e : a = 2
    · have ek : kindO a r.num = kindI r.num := if_pos e
      rw [ek]
      have hm := hm (kindI r.num)
      generalize kindI r.num = k at hk hm ⊢
      by_cases hk0 : 0 < k
      · rw [if_pos hk0]
        have hd0 : decide ((k : Int) > 0) = true := decide_eq_true (by omega)
        refine tells_of_aw Tryz.func24 rfl rfl fun nx => ?_
        (repeat((conv=>whnf);first|apply ω0|apply ω1|apply ω2|refine τ3 rfl ?_|refine τ4 rfl ?_|refine ⟨rfl,?_⟩|apply τa|refine τb rfl ?_|refine ⟨⟨by kernel_rfl,by kernel_rfl⟩,?_⟩|refine ⟨by decide,?_⟩|apply τt|apply τf))
        refine aop_tells rfl rfl hs ⟨AVle.refl _, AVle.refl _, trivial⟩ fun nx2 => ?_
        (repeat((conv=>whnf);first|apply ω0|apply ω1|apply ω2|refine τ3 rfl ?_|refine τ4 rfl ?_|refine ⟨rfl,?_⟩|apply τa|refine τb rfl ?_|refine ⟨⟨by kernel_rfl,by kernel_rfl⟩,?_⟩|refine ⟨by decide,?_⟩|apply τt|apply τf))
        intro c hc
        have hc2 : c = decide (a = 2) := hc.trans int2
        clear hc
        have hc3 : c = true := hc2.trans (decide_eq_true e)
        clear hc2; subst hc3
        (repeat((conv=>whnf);first|apply ω0|apply ω2|refine τ3 rfl ?_|refine τ4 rfl ?_|refine ⟨rfl,?_⟩|apply τa|refine τb rfl ?_|refine ⟨⟨by kernel_rfl,by kernel_rfl⟩,?_⟩|refine ⟨by decide,?_⟩|apply τt|apply τf))
        refine aw_region ?_
        (repeat((conv=>whnf);first|apply ω0|apply ω2|refine τ3 rfl ?_|refine τ4 rfl ?_|refine ⟨rfl,?_⟩|apply τa|refine τb rfl ?_|refine ⟨⟨by kernel_rfl,by kernel_rfl⟩,?_⟩|refine ⟨by decide,?_⟩|apply τt|apply τf))
        refine aop_tells rfl rfl hk ⟨AVle.refl _, trivial⟩ fun nx3 => ?_
        (repeat((conv=>whnf);first|apply ω0|apply ω2|refine τ3 rfl ?_|refine τ4 rfl ?_|refine ⟨rfl,?_⟩|apply τa|refine τb rfl ?_|refine ⟨⟨by kernel_rfl,by kernel_rfl⟩,?_⟩|refine ⟨by decide,?_⟩|apply τt|apply τf))
        refine aw_freeze (n := 41) (nx := nx3) (nn := 6) (pm := []) (bx := [((4, nx2 + 1), .c (callC ⟨true, a, ⟨#[]⟩, false⟩)), ((2, nx + 2), .c (callC call0))]) (L := [(2, .rp [trows l]), (3, .rp (recC r)), (4, .bp (2, nx + 2) 0), (5, .rp [int a]), (7, .bp (4, nx2 + 1) 0), (8, .rp [int k])]) (df := some []) [((5, nx2 + 2), .c [int k]), ((3, nx2), .c [int a]), ((1, nx + 1), .c (recC r)), ((0, nx), .c [trows l])] rfl rfl rfl (.cons _ ((List.Perm.swap _ _ _).trans (.cons _ (List.perm_append_comm (l₁ := [_, _]) (l₂ := [_, _]))))) (List.Sublist.refl _) ⟨Frz.bp (.tail _ (.tail _ (.tail _ (.head _)))) rfl, Frz.bp (.tail _ (.tail _ (.head _))) rfl, Frz.refl _, Frz.bp (.tail _ (.head _)) rfl, Frz.refl _, Frz.bp (.head _) rfl, trivial⟩ ?_
        (repeat((conv=>whnf);first|apply ω0|apply ω1|apply ω2|refine τ3 rfl ?_|refine τ4 rfl ?_|refine ⟨rfl,?_⟩|apply τa|refine τb rfl ?_|refine ⟨⟨by kernel_rfl,by kernel_rfl⟩,?_⟩|refine ⟨by decide,?_⟩|apply τt|apply τf))
        (conv => whnf)
        refine lit_eq hd0 ?_
        (repeat((conv=>whnf);first|apply ω0|apply ω1|apply ω2|refine τ3 rfl ?_|refine τ4 rfl ?_|refine ⟨rfl,?_⟩|apply τa|refine τb rfl ?_|refine ⟨⟨by kernel_rfl,by kernel_rfl⟩,?_⟩|refine ⟨by decide,?_⟩|apply τt|apply τf))
        refine aop_tells rfl rfl hm ⟨AVle.refl _, AVle.refl _, AVle.refl _, trivial⟩ fun nx4 => ?_
        (repeat((conv=>whnf);first|apply ω0|apply ω1|apply ω2|refine τ3 rfl ?_|refine τ4 rfl ?_|refine ⟨rfl,?_⟩|apply τa|refine τb rfl ?_|refine ⟨⟨by kernel_rfl,by kernel_rfl⟩,?_⟩|refine ⟨by decide,?_⟩|apply τt|apply τf))
        exact ret_tells_all rfl ⟨rfl, trivial⟩ (AVle.refl _)
      · obtain rfl : k = 0 := by omega
        rw [if_neg hk0]
        refine tells_of_aw Tryz.func24 rfl rfl fun nx => ?_
        (repeat((conv=>whnf);first|apply ω0|apply ω1|apply ω2|refine τ3 rfl ?_|refine τ4 rfl ?_|refine ⟨rfl,?_⟩|apply τa|refine τb rfl ?_|refine ⟨⟨by kernel_rfl,by kernel_rfl⟩,?_⟩|refine ⟨by decide,?_⟩|apply τt|apply τf))
        refine aop_tells rfl rfl hs ⟨AVle.refl _, AVle.refl _, trivial⟩ fun nx2 => ?_
        (repeat((conv=>whnf);first|apply ω0|apply ω1|apply ω2|refine τ3 rfl ?_|refine τ4 rfl ?_|refine ⟨rfl,?_⟩|apply τa|refine τb rfl ?_|refine ⟨⟨by kernel_rfl,by kernel_rfl⟩,?_⟩|refine ⟨by decide,?_⟩|apply τt|apply τf))
        intro c hc
        have hc2 : c = decide (a = 2) := hc.trans int2
        clear hc
        have hc3 : c = true := hc2.trans (decide_eq_true e)
        clear hc2; subst hc3
        (repeat((conv=>whnf);first|apply ω0|apply ω2|refine τ3 rfl ?_|refine τ4 rfl ?_|refine ⟨rfl,?_⟩|apply τa|refine τb rfl ?_|refine ⟨⟨by kernel_rfl,by kernel_rfl⟩,?_⟩|refine ⟨by decide,?_⟩|apply τt|apply τf))
        refine aw_region ?_
        (repeat((conv=>whnf);first|apply ω0|apply ω2|refine τ3 rfl ?_|refine τ4 rfl ?_|refine ⟨rfl,?_⟩|apply τa|refine τb rfl ?_|refine ⟨⟨by kernel_rfl,by kernel_rfl⟩,?_⟩|refine ⟨by decide,?_⟩|apply τt|apply τf))
        refine aop_tells rfl rfl hk ⟨AVle.refl _, trivial⟩ fun nx3 => ?_
        (repeat((conv=>whnf);first|apply ω0|apply ω2|refine τ3 rfl ?_|refine τ4 rfl ?_|refine ⟨rfl,?_⟩|apply τa|refine τb rfl ?_|refine ⟨⟨by kernel_rfl,by kernel_rfl⟩,?_⟩|refine ⟨by decide,?_⟩|apply τt|apply τf))
        refine aw_freeze (n := 41) (nx := nx3) (nn := 6) (pm := []) (bx := [((4, nx2 + 1), .c (callC ⟨true, a, ⟨#[]⟩, false⟩)), ((2, nx + 2), .c (callC call0))]) (L := [(2, .rp [trows l]), (3, .rp (recC r)), (4, .bp (2, nx + 2) 0), (5, .rp [int a]), (7, .bp (4, nx2 + 1) 0), (8, .rp [int ((0 : Nat) : Int)])]) (df := some []) [((5, nx2 + 2), .c [int ((0 : Nat) : Int)]), ((3, nx2), .c [int a]), ((1, nx + 1), .c (recC r)), ((0, nx), .c [trows l])] rfl rfl rfl (.cons _ ((List.Perm.swap _ _ _).trans (.cons _ (List.perm_append_comm (l₁ := [_, _]) (l₂ := [_, _]))))) (List.Sublist.refl _) ⟨Frz.bp (.tail _ (.tail _ (.tail _ (.head _)))) rfl, Frz.bp (.tail _ (.tail _ (.head _))) rfl, Frz.refl _, Frz.bp (.tail _ (.head _)) rfl, Frz.refl _, Frz.bp (.head _) rfl, trivial⟩ ?_
        (repeat((conv=>whnf);first|apply ω0|apply ω1|apply ω2|refine τ3 rfl ?_|refine τ4 rfl ?_|refine ⟨rfl,?_⟩|apply τa|refine τb rfl ?_|refine ⟨⟨by kernel_rfl,by kernel_rfl⟩,?_⟩|refine ⟨by decide,?_⟩|apply τt|apply τf))
        refine aop_tells rfl rfl hd ⟨AVle.refl _, AVle.refl _, AVle.refl _, trivial⟩ fun nx4 => ?_
        (repeat((conv=>whnf);first|apply ω0|apply ω1|apply ω2|refine τ3 rfl ?_|refine τ4 rfl ?_|refine ⟨rfl,?_⟩|apply τa|refine τb rfl ?_|refine ⟨⟨by kernel_rfl,by kernel_rfl⟩,?_⟩|refine ⟨by decide,?_⟩|apply τt|apply τf))
        exact ret_tells_all rfl ⟨rfl, trivial⟩ (AVle.refl _)
    · have ek : kindO a r.num = 0 := if_neg e
      rw [ek, if_neg (by decide)]
      refine tells_of_aw Tryz.func24 rfl rfl fun nx => ?_
      (repeat((conv=>whnf);first|apply ω0|apply ω1|apply ω2|refine τ3 rfl ?_|refine τ4 rfl ?_|refine ⟨rfl,?_⟩|apply τa|refine τb rfl ?_|refine ⟨⟨by kernel_rfl,by kernel_rfl⟩,?_⟩|refine ⟨by decide,?_⟩|apply τt|apply τf))
      refine aop_tells rfl rfl hs ⟨AVle.refl _, AVle.refl _, trivial⟩ fun nx2 => ?_
      (repeat((conv=>whnf);first|apply ω0|apply ω1|apply ω2|refine τ3 rfl ?_|refine τ4 rfl ?_|refine ⟨rfl,?_⟩|apply τa|refine τb rfl ?_|refine ⟨⟨by kernel_rfl,by kernel_rfl⟩,?_⟩|refine ⟨by decide,?_⟩|apply τt|apply τf))
      intro c hc
      have hc2 : c = decide (a = 2) := hc.trans int2
      clear hc
      have hc3 : c = false := hc2.trans (decide_eq_false e)
      clear hc2; subst hc3
      (repeat((conv=>whnf);first|apply ω0|apply ω2|refine τ3 rfl ?_|refine τ4 rfl ?_|refine ⟨rfl,?_⟩|apply τa|refine τb rfl ?_|refine ⟨⟨by kernel_rfl,by kernel_rfl⟩,?_⟩|refine ⟨by decide,?_⟩|apply τt|apply τf))
      refine aw_freeze (n := 41) (nx := nx2 + 3) (nn := 6) (pm := []) (bx := [((4, nx2 + 1), .c (callC ⟨true, a, ⟨#[]⟩, false⟩)), ((2, nx + 2), .c (callC call0))]) (L := [(2, .rp [trows l]), (3, .rp (recC r)), (4, .bp (2, nx + 2) 0), (5, .rp [int a]), (7, .bp (4, nx2 + 1) 0), (8, .rp [int 0])]) (df := some []) [((5, nx2 + 2), .c [int 0]), ((3, nx2), .c [int a]), ((1, nx + 1), .c (recC r)), ((0, nx), .c [trows l])] rfl rfl rfl (.cons _ ((List.Perm.swap _ _ _).trans (.cons _ (List.perm_append_comm (l₁ := [_, _]) (l₂ := [_, _]))))) (List.Sublist.refl _) ⟨Frz.bp (.tail _ (.tail _ (.tail _ (.head _)))) rfl, Frz.bp (.tail _ (.tail _ (.head _))) rfl, Frz.refl _, Frz.bp (.tail _ (.head _)) rfl, Frz.refl _, Frz.bp (.head _) rfl, trivial⟩ ?_
      (repeat((conv=>whnf);first|apply ω0|apply ω1|apply ω2|refine τ3 rfl ?_|refine τ4 rfl ?_|refine ⟨rfl,?_⟩|apply τa|refine τb rfl ?_|refine ⟨⟨by kernel_rfl,by kernel_rfl⟩,?_⟩|refine ⟨by decide,?_⟩|apply τt|apply τf))
      refine aop_tells rfl rfl hd ⟨AVle.refl _, AVle.refl _, AVle.refl _, trivial⟩ fun nx4 => ?_
      (repeat((conv=>whnf);first|apply ω0|apply ω1|apply ω2|refine τ3 rfl ?_|refine τ4 rfl ?_|refine ⟨rfl,?_⟩|apply τa|refine τb rfl ?_|refine ⟨⟨by kernel_rfl,by kernel_rfl⟩,?_⟩|refine ⟨by decide,?_⟩|apply τt|apply τf))
      exact ret_tells_all rfl ⟨rfl, trivial⟩ (AVle.refl _)
end Go.Proofs.W

namespace Go.Proofs.W
open Go.Vl
set_option maxRecDepth 100000

end Go.Proofs.W

namespace Go.Proofs.W
open Go.Vl
set_option maxRecDepth 100000

/- Maps by names, of anything: how they are looked up, how they grow; frozen with what they point to. -/
def kS (s t : ByteArray) : Bool := s.toList == t.toList
section
variable {α : Type} {nm : α → ByteArray} {val : α → AV}
end
end Go.Proofs.W

namespace Go.Proofs.W
open Go.Vl
set_option maxRecDepth 100000

/-- What is gathered of a name, and where it stands. -/
structure Ent where
  name : ByteArray
  m : Nat
  a : Nat → Nat
  b : Nat → Bool
  st : Nat
/-- What is gathered, without places. -/
structure Gat where
  name : ByteArray
  m : Nat
  a : Nat → Nat
  b : Nat → Bool
end Go.Proofs.W

namespace Go.Proofs.W
open Go.Vl
set_option maxRecDepth 100000

theorem size0 {s : ByteArray} : (s.toList == (⟨#[]⟩ : ByteArray).toList) = decide (s.size = 0) := by
  rw [Lib.toList_data, Lib.toList_data, Bool.eq_iff_iff, beq_iff_eq, decide_eq_true_iff]
  obtain ⟨⟨a⟩⟩ := s
  show a = [] ↔ a.length = 0
  exact List.length_eq_zero_iff.symm
theorem ofI_abi {l : List TRow} {r : Rec} (h : ¬ (ofI l r).name.size = 0) : (ofI l r).abi.toNat < 5 ∧ (ofI l r).abi = ((ofI l r).abi.toNat : Int) := by
  unfold ofI at h ⊢
  cases hs : selO r.arch r.num with
  | none => rw [hs] at h; exact absurd rfl h
  | some a =>
    have ha := selO_lt hs
    dsimp only
    split
    · exact ⟨by simpa using ha, by simp⟩
    · exact ⟨by simpa using ha, by simp⟩
theorem noid_arr {x : Nat → Nat} : NoId (arrA x) := by unfold arrA; exact NoId.ag (by intro y hy; simp at hy; rcases hy with rfl | rfl | rfl | rfl | rfl | rfl <;> exact NoId.v _)
end Go.Proofs.W

namespace Go.Proofs.W
open Go.Vl
set_option maxRecDepth 100000

end Go.Proofs.W

namespace Go.Proofs
open Go.Shelf
shelf_lay_g SlLaysM.n6 Slgm 6 at Tryz 127 as Tryz.laysM6
end Go.Proofs
namespace Go.Proofs.W
open Go.Vl Go.Shelf
set_option maxRecDepth 100000

end Go.Proofs.W

namespace Go.Proofs.W
open Go.Vl
set_option maxRecDepth 100000

abbrev Seen := List (Int × Int)
def numsR (r : TRow) (S : Seen) : Nat → Option Seen
  | 0 => some S
  | k + 1 => match numsR r S k with
    | none => none
    | some S => if r.num k = -1 then some S else if ((k : Int), r.num k) ∈ S then none else some (S ++ [((k : Int), r.num k)])
def muxR (r : TRow) (S : Seen) : Option Seen := if r.mux = 0 then some S else if (5 + r.mux, r.sub) ∈ S then none else some (S ++ [(5 + r.mux, r.sub)])
def leB (s t : ByteArray) : Bool := Op.bytesLess s.toList t.toList || s.toList == t.toList
def rowE (l : List TRow) (i : Nat) (S : Seen) : Except Int Seen :=
  if nameB (l.getD i trow0).name.data.toList = false then .error 13
  else if 0 < i ∧ leB (l.getD i trow0).name (l.getD (i - 1) trow0).name = true then .error 15
  else if rangedR (l.getD i trow0) = false then .error 16
  else if (l.getD i trow0).a2 = 102 ∨ (l.getD i trow0).a2 = 117 then .error 17
  else match numsR (l.getD i trow0) S 5 with
    | none => .error 15
    | some S => match muxR (l.getD i trow0) S with
      | none => .error 15
      | some S => .ok S
def rowsS (l : List TRow) : Nat → Except (Nat × Int) Seen
  | 0 => .ok []
  | k + 1 => match rowsS l k with
    | .error e => .error e
    | .ok S => match rowE l k S with
      | .error e => .error (k, e)
      | .ok S => .ok S
def tabR (l : List TRow) : Int × Int := if 400 < l.length then (0, 3) else match rowsS l l.length with
  | .error e => ((e.1 : Int), e.2)
  | .ok _ => (0, 0)
theorem rowsS_err {l : List TRow} {k : Nat} {e : Nat × Int} (h : rowsS l k = .error e) : ∀ {m : Nat}, k ≤ m → rowsS l m = .error e := by
  intro m hm
  induction m with
  | zero => obtain rfl : k = 0 := by omega
            exact h
  | succ m ih =>
    rcases Nat.lt_or_ge m k with q | q
    · rw [show m + 1 = k by omega]; exact h
    · unfold rowsS; rw [ih q]
theorem tab_err {l : List TRow} {i : Nat} {S : Seen} {e : Int} (hl : ¬ 400 < l.length) (hi : i < l.length) (h : rowsS l i = .ok S) (he : rowE l i S = .error e) : tabR l = ((i : Int), e) := by
  have h1 : rowsS l (i + 1) = .error (i, e) := by unfold rowsS; rw [h]; dsimp only; rw [he]
  unfold tabR
  rw [if_neg hl, rowsS_err h1 hi]
theorem tab_ok {l : List TRow} {S : Seen} (hl : ¬ 400 < l.length) (h : rowsS l l.length = .ok S) : tabR l = (0, 0) := by
  unfold tabR
  rw [if_neg hl, h]
theorem rows_next {l : List TRow} {i : Nat} {S S' : Seen} (h : rowsS l i = .ok S) (he : rowE l i S = .ok S') : rowsS l (i + 1) = .ok S' := by
  unfold rowsS; rw [h]; dsimp only; rw [he]
theorem nums_skip {r : TRow} {S S' : Seen} {k : Nat} (h : numsR r S k = some S') (hn : r.num k = -1) : numsR r S (k + 1) = some S' := by
  unfold numsR; rw [h]; dsimp only; rw [if_pos hn]
theorem nums_in {r : TRow} {S S' : Seen} {k : Nat} (h : numsR r S k = some S') (hn : ¬ r.num k = -1) (hm : ((k : Int), r.num k) ∈ S') : numsR r S (k + 1) = none := by
  unfold numsR; rw [h]; dsimp only; rw [if_neg hn, if_pos hm]
theorem nums_new {r : TRow} {S S' : Seen} {k : Nat} (h : numsR r S k = some S') (hn : ¬ r.num k = -1) (hm : ¬ ((k : Int), r.num k) ∈ S') : numsR r S (k + 1) = some (addA ((k : Int), r.num k) S') := by
  unfold numsR addA; rw [h]; dsimp only; rw [if_neg hn, if_neg hm, if_neg hm]
theorem nums_none {r : TRow} {S : Seen} {k : Nat} (h : numsR r S k = none) : ∀ {m : Nat}, k ≤ m → numsR r S m = none := by
  intro m hm
  induction m with
  | zero => obtain rfl : k = 0 := by omega
            exact h
  | succ m ih =>
    rcases Nat.lt_or_ge m k with q | q
    · rw [show m + 1 = k by omega]; exact h
    · unfold numsR; rw [ih q]
def ordB (l : List TRow) (i : Nat) : Bool := decide (0 < i) && leB (l.getD i trow0).name (l.getD (i - 1) trow0).name
theorem ord_iff {l : List TRow} {i : Nat} : ordB l i = true ↔ 0 < i ∧ leB (l.getD i trow0).name (l.getD (i - 1) trow0).name = true := by unfold ordB; simp
theorem rowE_13 {l : List TRow} {i : Nat} {S : Seen} (h : nameB (l.getD i trow0).name.data.toList = false) : rowE l i S = .error 13 := if_pos h
theorem rowE_15 {l : List TRow} {i : Nat} {S : Seen} (h : nameB (l.getD i trow0).name.data.toList = true) (h2 : ordB l i = true) : rowE l i S = .error 15 := by
  unfold rowE; rw [if_neg (by rw [h]; decide), if_pos (ord_iff.1 h2)]
theorem rowE_16 {l : List TRow} {i : Nat} {S : Seen} (h : nameB (l.getD i trow0).name.data.toList = true) (h2 : ordB l i = false) (h3 : rangedR (l.getD i trow0) = false) : rowE l i S = .error 16 := by
  unfold rowE; rw [if_neg (by rw [h]; decide), if_neg (by rw [← ord_iff, h2]; decide), if_pos h3]
theorem rowE_17 {l : List TRow} {i : Nat} {S : Seen} (h : nameB (l.getD i trow0).name.data.toList = true) (h2 : ordB l i = false) (h3 : rangedR (l.getD i trow0) = true) (h4 : (l.getD i trow0).a2 = 102 ∨ (l.getD i trow0).a2 = 117) : rowE l i S = .error 17 := by
  unfold rowE; rw [if_neg (by rw [h]; decide), if_neg (by rw [← ord_iff, h2]; decide), if_neg (by rw [h3]; decide), if_pos h4]
theorem rowE_rest {l : List TRow} {i : Nat} {S : Seen} (h : nameB (l.getD i trow0).name.data.toList = true) (h2 : ordB l i = false) (h3 : rangedR (l.getD i trow0) = true) (h4 : ¬ ((l.getD i trow0).a2 = 102 ∨ (l.getD i trow0).a2 = 117)) : rowE l i S = match numsR (l.getD i trow0) S 5 with
    | none => .error 15
    | some S => match muxR (l.getD i trow0) S with
      | none => .error 15
      | some S => .ok S := by
  unfold rowE; rw [if_neg (by rw [h]; decide), if_neg (by rw [← ord_iff, h2]; decide), if_neg (by rw [h3]; decide), if_neg h4]
theorem ranged_mux {r : TRow} (h : rangedR r = true) (h0 : ¬ r.mux = 0) : r.mux = 1 ∨ r.mux = 2 := by
  unfold rangedR at h
  rw [if_neg h0] at h
  simp only [Bool.and_eq_true, Bool.or_eq_true, decide_eq_true_eq] at h
  exact h.2.1.1
set_option maxHeartbeats 4000000 in
theorem tabright_spec (l : List TRow) (hl : l.length ≤ 1000000) (hn : ∀ r ∈ l, r.name.size ≤ maxLen) : Tells Tryz.prog 23 [trows l] (.tup [int (tabR l).1, int (tabR l).2]) := by
  refine tells_of_aw Tryz.func23 rfl rfl fun nx => ?_
  (repeat((conv=>whnf);first|apply ω0|apply ω1|apply ω2|refine τ3 rfl ?_|refine τ4 rfl ?_|refine ⟨rfl,?_⟩|apply τa|refine τb rfl ?_|refine ⟨⟨by kernel_rfl,by kernel_rfl⟩,?_⟩|refine ⟨by decide,?_⟩|apply τt|apply τf))
  intro c g4; cases c
  rotate_left
  · have g4 : 400 < l.length := by have := yes_of g4; omega
    have e : tabR l = (0, 3) := by unfold tabR; rw [if_pos g4]
    rw [e]
    (repeat((conv=>whnf);first|apply ω0|apply ω1|apply ω2|refine τ3 rfl ?_|refine τ4 rfl ?_|refine ⟨rfl,?_⟩|apply τa|refine τb rfl ?_|refine ⟨⟨by kernel_rfl,by kernel_rfl⟩,?_⟩|refine ⟨by decide,?_⟩|apply τt|apply τf))
    exact ret_tells rfl (AVle.refl _)
  have g4 : ¬ 400 < l.length := by have := not_of g4; omega
  (repeat((conv=>whnf);first|apply ω0|apply ω1|apply ω2|refine τ3 rfl ?_|refine τ4 rfl ?_|refine ⟨rfl,?_⟩|apply τa|refine τb rfl ?_|refine ⟨⟨by kernel_rfl,by kernel_rfl⟩,?_⟩|refine ⟨by decide,?_⟩|apply τt|apply τf))
  refine aw_loop (fun y : Nat × Seen × Nat => mk 88 [(0, trows l), (2, int 0), (3, int 0), (4, .om (0, nx)), (14, trows l), (15, int l.length), (16, int y.1)] ⟨[((0, nx), .mp (y.2.1.map entA))], [], y.2.2, 1⟩) (fun y => y.1 ≤ l.length ∧ rowsS l y.1 = .ok y.2.1) (fun y => l.length - y.1) ?_ ?_
  · exact ⟨(0, [], nx + 1), ⟨Nat.zero_le _, rfl⟩, ele_tell _ _ rfl rfl (List.Sublist.refl _) (List.Sublist.refl _) (BxLe.refl _) trivial ⟨AVle.refl _, AVle.refl _, AVle.refl _, AVle.refl _, AVle.refl _, AVle.refl _, AVle.refl _, trivial⟩⟩
  · rintro ⟨i, S, nx1⟩ ⟨h1, h2⟩
    dsimp only at h1 h2
    (repeat((conv=>whnf);first|apply ω0|apply ω1|apply ω2|refine τ3 rfl ?_|refine τ4 rfl ?_|refine ⟨rfl,?_⟩|apply τa|refine τb rfl ?_|refine ⟨⟨by kernel_rfl,by kernel_rfl⟩,?_⟩|refine ⟨by decide,?_⟩|apply τt|apply τf))
    intro c g; cases c
    · have g := not_of g
      try dsimp only at g
      have hi : i = l.length := by omega
      subst hi
      rw [tab_ok g4 h2]
      (repeat((conv=>whnf);first|apply ω0|apply ω1|apply ω2|refine τ3 rfl ?_|refine τ4 rfl ?_|refine ⟨rfl,?_⟩|apply τa|refine τb rfl ?_|refine ⟨⟨by kernel_rfl,by kernel_rfl⟩,?_⟩|refine ⟨by decide,?_⟩|apply τt|apply τf))
      exact ret_tells rfl (AVle.refl _)
    · have g := yes_of g
      try dsimp only at g
      have hi : i < l.length := by omega
      have hmem : l.getD i trow0 ∈ l := by simp [List.getD, hi]
      have hnm := named_spec (l.getD i trow0).name (Nat.le_trans (hn _ hmem) (by decide))
      have hrg := ranged_spec (l.getD i trow0)
      have herr := fun e => tab_err (e := e) g4 hi h2
      have hnext := fun S' => rows_next (S' := S') h2
      (repeat((conv=>whnf);first|apply ω0|apply ω1|apply ω2|refine τ3 rfl ?_|refine τ4 rfl ?_|refine ⟨rfl,?_⟩|apply τa|refine τb rfl ?_|refine ⟨⟨by kernel_rfl,by kernel_rfl⟩,?_⟩|refine ⟨by decide,?_⟩|apply τt|apply τf))
      refine ⟨⟨by first | omega | (dsimp only; omega), by first | omega | (dsimp only; omega)⟩, ?_⟩
      (repeat((conv=>whnf);first|apply ω0|apply ω1|apply ω2|refine τ3 rfl ?_|refine τ4 rfl ?_|refine ⟨rfl,?_⟩|apply τa|refine τb rfl ?_|refine ⟨⟨by kernel_rfl,by kernel_rfl⟩,?_⟩|refine ⟨by decide,?_⟩|apply τt|apply τf))
      cases hb : nameB (l.getD i trow0).name.data.toList with
      | false =>
        rw [hb] at hnm
        refine aop_tells rfl rfl hnm ⟨AVle.refl _, trivial⟩ fun nx2 => ?_
        (repeat((conv=>whnf);first|apply ω0|apply ω1|apply ω2|refine τ3 rfl ?_|refine τ4 rfl ?_|refine ⟨rfl,?_⟩|apply τa|refine τb rfl ?_|refine ⟨⟨by kernel_rfl,by kernel_rfl⟩,?_⟩|refine ⟨by decide,?_⟩|apply τt|apply τf))
        rw [herr 13 (rowE_13 hb)]
        exact ret_tells rfl (AVle.refl _)
      | true =>
        rw [hb] at hnm
        refine aop_tells rfl rfl hnm ⟨AVle.refl _, trivial⟩ fun nx2 => ?_
        (repeat((conv=>whnf);first|apply ω0|apply ω1|apply ω2|refine τ3 rfl ?_|refine τ4 rfl ?_|refine ⟨rfl,?_⟩|apply τa|refine τb rfl ?_|refine ⟨⟨by kernel_rfl,by kernel_rfl⟩,?_⟩|refine ⟨by decide,?_⟩|apply τt|apply τf))
        refine aw_mid (fun y : Nat => mk 88 [(0, trows l), (2, int 0), (3, int 0), (4, .om (0, nx)), (5, int i), (6, .bp (1, nx1) 0), (7, int (l.getD i trow0).a2), (14, trows l), (15, int l.length), (16, int i), (30, boolA (ordB l i))] ⟨[((1, nx1), .c (trowC (l.getD i trow0))), ((0, nx), .mp (S.map entA))], [], y, 2⟩) (fun _ => True) ?_ ?_
        · by_cases h0 : 0 < i
          · have hd : decide ((i : Int) > 0) = true := decide_eq_true (by omega)
            have hi1 : IntKind.i64.wrap ((i : Int) - 1) = ((i - 1 : Nat) : Int) := by rw [wrap_id (by omega) (by omega)]; omega
            (refine aw_draw 13 ?_ ?_ ?_ ?_; (· kernel_rfl); (· kernel_rfl); (· kernel_rfl))
            (repeat((conv=>whnf);first|apply ω0|apply ω1|apply ω2|refine τ3 rfl ?_|refine τ4 rfl ?_|refine ⟨rfl,?_⟩|apply τa|refine τb rfl ?_|refine ⟨⟨by kernel_rfl,by kernel_rfl⟩,?_⟩|refine ⟨by decide,?_⟩|apply τt|apply τf))
            (conv => whnf)
            refine lit_eq hd ?_
            (repeat((conv=>whnf);first|apply ω0|apply ω1|apply ω2|refine τ3 rfl ?_|refine τ4 rfl ?_|refine ⟨rfl,?_⟩|apply τa|refine τb rfl ?_|refine ⟨⟨by kernel_rfl,by kernel_rfl⟩,?_⟩|refine ⟨by decide,?_⟩|apply τt|apply τf))
            refine ⟨⟨ixge (i := i - 1) hi1, ixlt (i := i - 1) hi1 (by omega)⟩, splitO_eq (b := .rp (trowC (l.getD (i - 1) trow0))) (congrArg (fun z : Int => AV.rp (trowC (l.getD z.toNat trow0))) hi1) ?_⟩
            (repeat((conv=>whnf);first|apply ω0|apply ω1|apply ω2|refine τ3 rfl ?_|refine τ4 rfl ?_|refine ⟨rfl,?_⟩|apply τa|refine τb rfl ?_|refine ⟨⟨by kernel_rfl,by kernel_rfl⟩,?_⟩|refine ⟨by decide,?_⟩|apply τt|apply τf))
            intro c hc
            have hc2 : c = ordB l i := hc.trans (by unfold ordB; rw [decide_eq_true h0, Bool.true_and]; rfl)
            clear hc
            rw [← hc2]
            clear hc2
            cases c
            all_goals
              (repeat((conv=>whnf);first|apply ω0|apply ω1|apply ω2|refine τ3 rfl ?_|refine τ4 rfl ?_|refine ⟨rfl,?_⟩|apply τa|refine τb rfl ?_|refine ⟨⟨by kernel_rfl,by kernel_rfl⟩,?_⟩|refine ⟨by decide,?_⟩|apply τt|apply τf))
              exact ⟨nx2, trivial, ele_tell _ _ rfl rfl (List.Sublist.refl _) (List.Sublist.refl _) (BxLe.refl _) trivial ⟨AVle.refl _, AVle.refl _, AVle.refl _, AVle.refl _, AVle.refl _, AVle.refl _, AVle.refl _, AVle.refl _, AVle.refl _, AVle.refl _, AVle.refl _, trivial⟩⟩
          · have hd : decide ((i : Int) > 0) = false := decide_eq_false (by omega)
            have hq : ordB l i = false := by unfold ordB; rw [decide_eq_false h0]; rfl
            rw [hq]
            (refine aw_draw 13 ?_ ?_ ?_ ?_; (· kernel_rfl); (· kernel_rfl); (· kernel_rfl))
            (repeat((conv=>whnf);first|apply ω0|apply ω1|apply ω2|refine τ3 rfl ?_|refine τ4 rfl ?_|refine ⟨rfl,?_⟩|apply τa|refine τb rfl ?_|refine ⟨⟨by kernel_rfl,by kernel_rfl⟩,?_⟩|refine ⟨by decide,?_⟩|apply τt|apply τf))
            (conv => whnf)
            refine lit_eq hd ?_
            (repeat((conv=>whnf);first|apply ω0|apply ω1|apply ω2|refine τ3 rfl ?_|refine τ4 rfl ?_|refine ⟨rfl,?_⟩|apply τa|refine τb rfl ?_|refine ⟨⟨by kernel_rfl,by kernel_rfl⟩,?_⟩|refine ⟨by decide,?_⟩|apply τt|apply τf))
            exact ⟨nx2, trivial, ele_tell _ _ rfl rfl (List.Sublist.refl _) (List.Sublist.refl _) (BxLe.refl _) trivial ⟨AVle.refl _, AVle.refl _, AVle.refl _, AVle.refl _, AVle.refl _, AVle.refl _, AVle.refl _, AVle.refl _, AVle.refl _, AVle.refl _, AVle.refl _, trivial⟩⟩
        · rintro nx3 -
          cases hq : ordB l i with
          | true =>
            (repeat((conv=>whnf);first|apply ω0|apply ω1|apply ω2|refine τ3 rfl ?_|refine τ4 rfl ?_|refine ⟨rfl,?_⟩|apply τa|refine τb rfl ?_|refine ⟨⟨by kernel_rfl,by kernel_rfl⟩,?_⟩|refine ⟨by decide,?_⟩|apply τt|apply τf))
            rw [herr 15 (rowE_15 hb hq)]
            exact ret_tells rfl (AVle.refl _)
          | false =>
            (repeat((conv=>whnf);first|apply ω0|apply ω1|apply ω2|refine τ3 rfl ?_|refine τ4 rfl ?_|refine ⟨rfl,?_⟩|apply τa|refine τb rfl ?_|refine ⟨⟨by kernel_rfl,by kernel_rfl⟩,?_⟩|refine ⟨by decide,?_⟩|apply τt|apply τf))
            refine splitO_eq (b := trowA (l.getD i trow0)) rfl ?_
            (repeat((conv=>whnf);first|apply ω0|apply ω1|apply ω2|refine τ3 rfl ?_|refine τ4 rfl ?_|refine ⟨rfl,?_⟩|apply τa|refine τb rfl ?_|refine ⟨⟨by kernel_rfl,by kernel_rfl⟩,?_⟩|refine ⟨by decide,?_⟩|apply τt|apply τf))
            cases hr : rangedR (l.getD i trow0) with
            | false =>
              rw [hr] at hrg
              refine aop_tells rfl rfl hrg ⟨AVle.refl _, trivial⟩ fun nx4 => ?_
              (repeat((conv=>whnf);first|apply ω0|apply ω1|apply ω2|refine τ3 rfl ?_|refine τ4 rfl ?_|refine ⟨rfl,?_⟩|apply τa|refine τb rfl ?_|refine ⟨⟨by kernel_rfl,by kernel_rfl⟩,?_⟩|refine ⟨by decide,?_⟩|apply τt|apply τf))
              rw [herr 16 (rowE_16 hb hq hr)]
              exact ret_tells rfl (AVle.refl _)
            | true =>
              rw [hr] at hrg
              refine aop_tells rfl rfl hrg ⟨AVle.refl _, trivial⟩ fun nx4 => ?_
              (repeat((conv=>whnf);first|apply ω0|apply ω1|apply ω2|refine τ3 rfl ?_|refine τ4 rfl ?_|refine ⟨rfl,?_⟩|apply τa|refine τb rfl ?_|refine ⟨⟨by kernel_rfl,by kernel_rfl⟩,?_⟩|refine ⟨by decide,?_⟩|apply τt|apply τf))
              intro c t1; cases c
              rotate_left
              · have t1 : (l.getD i trow0).a2 = 102 := by simpa using t1.symm
                (repeat((conv=>whnf);first|apply ω0|apply ω1|apply ω2|refine τ3 rfl ?_|refine τ4 rfl ?_|refine ⟨rfl,?_⟩|apply τa|refine τb rfl ?_|refine ⟨⟨by kernel_rfl,by kernel_rfl⟩,?_⟩|refine ⟨by decide,?_⟩|apply τt|apply τf))
                rw [herr 17 (rowE_17 hb hq hr (.inl t1))]
                exact ret_tells rfl (AVle.refl _)
              have t1 : ¬ (l.getD i trow0).a2 = 102 := by simpa using t1.symm
              (repeat((conv=>whnf);first|apply ω0|apply ω1|apply ω2|refine τ3 rfl ?_|refine τ4 rfl ?_|refine ⟨rfl,?_⟩|apply τa|refine τb rfl ?_|refine ⟨⟨by kernel_rfl,by kernel_rfl⟩,?_⟩|refine ⟨by decide,?_⟩|apply τt|apply τf))
              intro c t2; cases c
              rotate_left
              · have t2 : (l.getD i trow0).a2 = 117 := by simpa using t2.symm
                (repeat((conv=>whnf);first|apply ω0|apply ω1|apply ω2|refine τ3 rfl ?_|refine τ4 rfl ?_|refine ⟨rfl,?_⟩|apply τa|refine τb rfl ?_|refine ⟨⟨by kernel_rfl,by kernel_rfl⟩,?_⟩|refine ⟨by decide,?_⟩|apply τt|apply τf))
                rw [herr 17 (rowE_17 hb hq hr (.inr t2))]
                exact ret_tells rfl (AVle.refl _)
              have t2 : ¬ (l.getD i trow0).a2 = 117 := by simpa using t2.symm
              have hrest := rowE_rest (S := S) hb hq hr (fun h => h.elim t1 t2)
              (repeat((conv=>whnf);first|apply ω0|apply ω1|apply ω2|refine τ3 rfl ?_|refine τ4 rfl ?_|refine ⟨rfl,?_⟩|apply τa|refine τb rfl ?_|refine ⟨⟨by kernel_rfl,by kernel_rfl⟩,?_⟩|refine ⟨by decide,?_⟩|apply τt|apply τf))
              refine aw_midB (fun y : Seen × Nat => mk 88 [(0, trows l), (2, int 0), (3, int 0), (4, .om (0, nx)), (5, int i), (6, .bp (1, nx1) 0), (14, trows l), (15, int l.length), (16, int i)] ⟨[((1, nx1), .c (trowC (l.getD i trow0))), ((0, nx), .mp (y.1.map entA))], [], y.2, 2⟩) (fun y => numsR (l.getD i trow0) S 5 = some y.1) ?_ ?_
              · refine aw_loop (fun y : Nat × Seen × Nat => mk 88 [(0, trows l), (2, int 0), (3, int 0), (4, .om (0, nx)), (5, int i), (6, .bp (1, nx1) 0), (14, trows l), (15, int l.length), (16, int i), (59, arr5 (l.getD i trow0)), (60, int y.1)] ⟨[((1, nx1), .c (trowC (l.getD i trow0))), ((0, nx), .mp (y.2.1.map entA))], [], y.2.2, 2⟩) (fun y => y.1 ≤ 5 ∧ numsR (l.getD i trow0) S y.1 = some y.2.1) (fun y => 5 - y.1) ?_ ?_
                · exact ⟨(0, S, nx4), ⟨Nat.zero_le _, rfl⟩, ele_tell _ _ rfl rfl (List.Sublist.refl _) (List.Sublist.refl _) (BxLe.refl _) trivial ⟨AVle.refl _, AVle.refl _, AVle.refl _, AVle.refl _, AVle.refl _, AVle.refl _, AVle.refl _, AVle.refl _, AVle.refl _, AVle.refl _, AVle.refl _, trivial⟩⟩
                · rintro ⟨k, S', nx5⟩ ⟨hk, hS⟩
                  dsimp only at hk hS
                  rcases k with _ | _ | _ | _ | _ | _ | k
                  · (repeat((conv=>whnf);first|apply ω0|apply ω1|apply ω2|refine τ3 rfl ?_|refine τ4 rfl ?_|refine ⟨rfl,?_⟩|apply τa|refine τb rfl ?_|refine ⟨⟨by kernel_rfl,by kernel_rfl⟩,?_⟩|refine ⟨by decide,?_⟩|apply τt|apply τf))
                    intro c t; cases c
                    · have t : (l.getD i trow0).num 0 = -1 := by show (l.getD i trow0).a0 = -1; simpa using t.symm
                      (repeat((conv=>whnf);first|apply ω0|apply ω1|apply ω2|refine τ3 rfl ?_|refine τ4 rfl ?_|refine ⟨rfl,?_⟩|apply τa|refine τb rfl ?_|refine ⟨⟨by kernel_rfl,by kernel_rfl⟩,?_⟩|refine ⟨by decide,?_⟩|apply τt|apply τf))
                      exact back (0 + 1, S', nx5) ⟨by dsimp only; omega, nums_skip hS t⟩ (by dsimp only; omega) (ele_tell _ _ rfl rfl (List.Sublist.refl _) (List.Sublist.refl _) (BxLe.refl _) trivial ⟨AVle.refl _, AVle.refl _, AVle.refl _, AVle.refl _, AVle.refl _, AVle.refl _, AVle.refl _, AVle.refl _, AVle.refl _, AVle.refl _, AVle.refl _, trivial⟩)
                    · have t : ¬ (l.getD i trow0).num 0 = -1 := by show ¬ (l.getD i trow0).a0 = -1; simpa using t.symm
                      (repeat((conv=>whnf);first|apply ω0|apply ω1|apply ω2|refine τ3 rfl ?_|refine τ4 rfl ?_|refine ⟨rfl,?_⟩|apply τa|refine τb rfl ?_|refine ⟨⟨by kernel_rfl,by kernel_rfl⟩,?_⟩|refine ⟨by decide,?_⟩|apply τt|apply τf))
                      refine aop_callF (xs := [.om (0, nx), int ((0 : Nat) : Int), int ((l.getD i trow0).num 0)]) [((1, nx1), .c (trowC (l.getD i trow0)))] [] 2 rfl rfl rfl rfl ⟨AVle.refl _, AVle.refl _, AVle.refl _, trivial⟩ (met_spec nx nx5 0 S' ((0 : Nat) : Int) ((l.getD i trow0).num 0)) (BxLe.refl _) (PmEq.refl _) rfl fun r h' hq2 => ?_
                      obtain ⟨nx6, nn6, rfl, rfl⟩ := hq2
                      by_cases hm : (((0 : Nat) : Int), (l.getD i trow0).num 0) ∈ S'
                      · have hnone := nums_none (nums_in hS t hm) (show 0 + 1 ≤ 5 by decide)
                        rw [hnone] at hrest
                        rw [decide_eq_true hm]
                        (repeat((conv=>whnf);first|apply ω0|apply ω1|apply ω2|refine τ3 rfl ?_|refine τ4 rfl ?_|refine ⟨rfl,?_⟩|apply τa|refine τb rfl ?_|refine ⟨⟨by kernel_rfl,by kernel_rfl⟩,?_⟩|refine ⟨by decide,?_⟩|apply τt|apply τf))
                        rw [herr 15 hrest]
                        exact ret_tells rfl (AVle.refl _)
                      · have hnew := nums_new hS t hm
                        rw [decide_eq_false hm]
                        (repeat((conv=>whnf);first|apply ω0|apply ω1|apply ω2|refine τ3 rfl ?_|refine τ4 rfl ?_|refine ⟨rfl,?_⟩|apply τa|refine τb rfl ?_|refine ⟨⟨by kernel_rfl,by kernel_rfl⟩,?_⟩|refine ⟨by decide,?_⟩|apply τt|apply τf))
                        exact back (0 + 1, addA (((0 : Nat) : Int), (l.getD i trow0).num 0) S', nx6) ⟨by dsimp only; omega, hnew⟩ (by dsimp only; omega) (ele_tell _ _ rfl rfl (List.Sublist.refl _) (List.Sublist.refl _) (BxLe.refl _) trivial ⟨AVle.refl _, AVle.refl _, AVle.refl _, AVle.refl _, AVle.refl _, AVle.refl _, AVle.refl _, AVle.refl _, AVle.refl _, AVle.refl _, AVle.refl _, trivial⟩)
                  · (repeat((conv=>whnf);first|apply ω0|apply ω1|apply ω2|refine τ3 rfl ?_|refine τ4 rfl ?_|refine ⟨rfl,?_⟩|apply τa|refine τb rfl ?_|refine ⟨⟨by kernel_rfl,by kernel_rfl⟩,?_⟩|refine ⟨by decide,?_⟩|apply τt|apply τf))
                    intro c t; cases c
                    · have t : (l.getD i trow0).num 1 = -1 := by show (l.getD i trow0).a1 = -1; simpa using t.symm
                      (repeat((conv=>whnf);first|apply ω0|apply ω1|apply ω2|refine τ3 rfl ?_|refine τ4 rfl ?_|refine ⟨rfl,?_⟩|apply τa|refine τb rfl ?_|refine ⟨⟨by kernel_rfl,by kernel_rfl⟩,?_⟩|refine ⟨by decide,?_⟩|apply τt|apply τf))
                      exact back (1 + 1, S', nx5) ⟨by dsimp only; omega, nums_skip hS t⟩ (by dsimp only; omega) (ele_tell _ _ rfl rfl (List.Sublist.refl _) (List.Sublist.refl _) (BxLe.refl _) trivial ⟨AVle.refl _, AVle.refl _, AVle.refl _, AVle.refl _, AVle.refl _, AVle.refl _, AVle.refl _, AVle.refl _, AVle.refl _, AVle.refl _, AVle.refl _, trivial⟩)
                    · have t : ¬ (l.getD i trow0).num 1 = -1 := by show ¬ (l.getD i trow0).a1 = -1; simpa using t.symm
                      (repeat((conv=>whnf);first|apply ω0|apply ω1|apply ω2|refine τ3 rfl ?_|refine τ4 rfl ?_|refine ⟨rfl,?_⟩|apply τa|refine τb rfl ?_|refine ⟨⟨by kernel_rfl,by kernel_rfl⟩,?_⟩|refine ⟨by decide,?_⟩|apply τt|apply τf))
                      refine aop_callF (xs := [.om (0, nx), int ((1 : Nat) : Int), int ((l.getD i trow0).num 1)]) [((1, nx1), .c (trowC (l.getD i trow0)))] [] 2 rfl rfl rfl rfl ⟨AVle.refl _, AVle.refl _, AVle.refl _, trivial⟩ (met_spec nx nx5 0 S' ((1 : Nat) : Int) ((l.getD i trow0).num 1)) (BxLe.refl _) (PmEq.refl _) rfl fun r h' hq2 => ?_
                      obtain ⟨nx6, nn6, rfl, rfl⟩ := hq2
                      by_cases hm : (((1 : Nat) : Int), (l.getD i trow0).num 1) ∈ S'
                      · have hnone := nums_none (nums_in hS t hm) (show 1 + 1 ≤ 5 by decide)
                        rw [hnone] at hrest
                        rw [decide_eq_true hm]
                        (repeat((conv=>whnf);first|apply ω0|apply ω1|apply ω2|refine τ3 rfl ?_|refine τ4 rfl ?_|refine ⟨rfl,?_⟩|apply τa|refine τb rfl ?_|refine ⟨⟨by kernel_rfl,by kernel_rfl⟩,?_⟩|refine ⟨by decide,?_⟩|apply τt|apply τf))
                        rw [herr 15 hrest]
                        exact ret_tells rfl (AVle.refl _)
                      · have hnew := nums_new hS t hm
                        rw [decide_eq_false hm]
                        (repeat((conv=>whnf);first|apply ω0|apply ω1|apply ω2|refine τ3 rfl ?_|refine τ4 rfl ?_|refine ⟨rfl,?_⟩|apply τa|refine τb rfl ?_|refine ⟨⟨by kernel_rfl,by kernel_rfl⟩,?_⟩|refine ⟨by decide,?_⟩|apply τt|apply τf))
                        exact back (1 + 1, addA (((1 : Nat) : Int), (l.getD i trow0).num 1) S', nx6) ⟨by dsimp only; omega, hnew⟩ (by dsimp only; omega) (ele_tell _ _ rfl rfl (List.Sublist.refl _) (List.Sublist.refl _) (BxLe.refl _) trivial ⟨AVle.refl _, AVle.refl _, AVle.refl _, AVle.refl _, AVle.refl _, AVle.refl _, AVle.refl _, AVle.refl _, AVle.refl _, AVle.refl _, AVle.refl _, trivial⟩)
                  · (repeat((conv=>whnf);first|apply ω0|apply ω1|apply ω2|refine τ3 rfl ?_|refine τ4 rfl ?_|refine ⟨rfl,?_⟩|apply τa|refine τb rfl ?_|refine ⟨⟨by kernel_rfl,by kernel_rfl⟩,?_⟩|refine ⟨by decide,?_⟩|apply τt|apply τf))
                    intro c t; cases c
                    · have t : (l.getD i trow0).num 2 = -1 := by show (l.getD i trow0).a2 = -1; simpa using t.symm
                      (repeat((conv=>whnf);first|apply ω0|apply ω1|apply ω2|refine τ3 rfl ?_|refine τ4 rfl ?_|refine ⟨rfl,?_⟩|apply τa|refine τb rfl ?_|refine ⟨⟨by kernel_rfl,by kernel_rfl⟩,?_⟩|refine ⟨by decide,?_⟩|apply τt|apply τf))
                      exact back (2 + 1, S', nx5) ⟨by dsimp only; omega, nums_skip hS t⟩ (by dsimp only; omega) (ele_tell _ _ rfl rfl (List.Sublist.refl _) (List.Sublist.refl _) (BxLe.refl _) trivial ⟨AVle.refl _, AVle.refl _, AVle.refl _, AVle.refl _, AVle.refl _, AVle.refl _, AVle.refl _, AVle.refl _, AVle.refl _, AVle.refl _, AVle.refl _, trivial⟩)
                    · have t : ¬ (l.getD i trow0).num 2 = -1 := by show ¬ (l.getD i trow0).a2 = -1; simpa using t.symm
                      (repeat((conv=>whnf);first|apply ω0|apply ω1|apply ω2|refine τ3 rfl ?_|refine τ4 rfl ?_|refine ⟨rfl,?_⟩|apply τa|refine τb rfl ?_|refine ⟨⟨by kernel_rfl,by kernel_rfl⟩,?_⟩|refine ⟨by decide,?_⟩|apply τt|apply τf))
                      refine aop_callF (xs := [.om (0, nx), int ((2 : Nat) : Int), int ((l.getD i trow0).num 2)]) [((1, nx1), .c (trowC (l.getD i trow0)))] [] 2 rfl rfl rfl rfl ⟨AVle.refl _, AVle.refl _, AVle.refl _, trivial⟩ (met_spec nx nx5 0 S' ((2 : Nat) : Int) ((l.getD i trow0).num 2)) (BxLe.refl _) (PmEq.refl _) rfl fun r h' hq2 => ?_
                      obtain ⟨nx6, nn6, rfl, rfl⟩ := hq2
                      by_cases hm : (((2 : Nat) : Int), (l.getD i trow0).num 2) ∈ S'
                      · have hnone := nums_none (nums_in hS t hm) (show 2 + 1 ≤ 5 by decide)
                        rw [hnone] at hrest
                        rw [decide_eq_true hm]
                        (repeat((conv=>whnf);first|apply ω0|apply ω1|apply ω2|refine τ3 rfl ?_|refine τ4 rfl ?_|refine ⟨rfl,?_⟩|apply τa|refine τb rfl ?_|refine ⟨⟨by kernel_rfl,by kernel_rfl⟩,?_⟩|refine ⟨by decide,?_⟩|apply τt|apply τf))
                        rw [herr 15 hrest]
                        exact ret_tells rfl (AVle.refl _)
                      · have hnew := nums_new hS t hm
                        rw [decide_eq_false hm]
                        (repeat((conv=>whnf);first|apply ω0|apply ω1|apply ω2|refine τ3 rfl ?_|refine τ4 rfl ?_|refine ⟨rfl,?_⟩|apply τa|refine τb rfl ?_|refine ⟨⟨by kernel_rfl,by kernel_rfl⟩,?_⟩|refine ⟨by decide,?_⟩|apply τt|apply τf))
                        exact back (2 + 1, addA (((2 : Nat) : Int), (l.getD i trow0).num 2) S', nx6) ⟨by dsimp only; omega, hnew⟩ (by dsimp only; omega) (ele_tell _ _ rfl rfl (List.Sublist.refl _) (List.Sublist.refl _) (BxLe.refl _) trivial ⟨AVle.refl _, AVle.refl _, AVle.refl _, AVle.refl _, AVle.refl _, AVle.refl _, AVle.refl _, AVle.refl _, AVle.refl _, AVle.refl _, AVle.refl _, trivial⟩)
                  · (repeat((conv=>whnf);first|apply ω0|apply ω1|apply ω2|refine τ3 rfl ?_|refine τ4 rfl ?_|refine ⟨rfl,?_⟩|apply τa|refine τb rfl ?_|refine ⟨⟨by kernel_rfl,by kernel_rfl⟩,?_⟩|refine ⟨by decide,?_⟩|apply τt|apply τf))
                    intro c t; cases c
                    · have t : (l.getD i trow0).num 3 = -1 := by show (l.getD i trow0).a3 = -1; simpa using t.symm
                      (repeat((conv=>whnf);first|apply ω0|apply ω1|apply ω2|refine τ3 rfl ?_|refine τ4 rfl ?_|refine ⟨rfl,?_⟩|apply τa|refine τb rfl ?_|refine ⟨⟨by kernel_rfl,by kernel_rfl⟩,?_⟩|refine ⟨by decide,?_⟩|apply τt|apply τf))
                      exact back (3 + 1, S', nx5) ⟨by dsimp only; omega, nums_skip hS t⟩ (by dsimp only; omega) (ele_tell _ _ rfl rfl (List.Sublist.refl _) (List.Sublist.refl _) (BxLe.refl _) trivial ⟨AVle.refl _, AVle.refl _, AVle.refl _, AVle.refl _, AVle.refl _, AVle.refl _, AVle.refl _, AVle.refl _, AVle.refl _, AVle.refl _, AVle.refl _, trivial⟩)
                    · have t : ¬ (l.getD i trow0).num 3 = -1 := by show ¬ (l.getD i trow0).a3 = -1; simpa using t.symm
                      (repeat((conv=>whnf);first|apply ω0|apply ω1|apply ω2|refine τ3 rfl ?_|refine τ4 rfl ?_|refine ⟨rfl,?_⟩|apply τa|refine τb rfl ?_|refine ⟨⟨by kernel_rfl,by kernel_rfl⟩,?_⟩|refine ⟨by decide,?_⟩|apply τt|apply τf))
                      refine aop_callF (xs := [.om (0, nx), int ((3 : Nat) : Int), int ((l.getD i trow0).num 3)]) [((1, nx1), .c (trowC (l.getD i trow0)))] [] 2 rfl rfl rfl rfl ⟨AVle.refl _, AVle.refl _, AVle.refl _, trivial⟩ (met_spec nx nx5 0 S' ((3 : Nat) : Int) ((l.getD i trow0).num 3)) (BxLe.refl _) (PmEq.refl _) rfl fun r h' hq2 => ?_
                      obtain ⟨nx6, nn6, rfl, rfl⟩ := hq2
                      by_cases hm : (((3 : Nat) : Int), (l.getD i trow0).num 3) ∈ S'
                      · have hnone := nums_none (nums_in hS t hm) (show 3 + 1 ≤ 5 by decide)
                        rw [hnone] at hrest
                        rw [decide_eq_true hm]
                        (repeat((conv=>whnf);first|apply ω0|apply ω1|apply ω2|refine τ3 rfl ?_|refine τ4 rfl ?_|refine ⟨rfl,?_⟩|apply τa|refine τb rfl ?_|refine ⟨⟨by kernel_rfl,by kernel_rfl⟩,?_⟩|refine ⟨by decide,?_⟩|apply τt|apply τf))
                        rw [herr 15 hrest]
                        exact ret_tells rfl (AVle.refl _)
                      · have hnew := nums_new hS t hm
                        rw [decide_eq_false hm]
                        (repeat((conv=>whnf);first|apply ω0|apply ω1|apply ω2|refine τ3 rfl ?_|refine τ4 rfl ?_|refine ⟨rfl,?_⟩|apply τa|refine τb rfl ?_|refine ⟨⟨by kernel_rfl,by kernel_rfl⟩,?_⟩|refine ⟨by decide,?_⟩|apply τt|apply τf))
                        exact back (3 + 1, addA (((3 : Nat) : Int), (l.getD i trow0).num 3) S', nx6) ⟨by dsimp only; omega, hnew⟩ (by dsimp only; omega) (ele_tell _ _ rfl rfl (List.Sublist.refl _) (List.Sublist.refl _) (BxLe.refl _) trivial ⟨AVle.refl _, AVle.refl _, AVle.refl _, AVle.refl _, AVle.refl _, AVle.refl _, AVle.refl _, AVle.refl _, AVle.refl _, AVle.refl _, AVle.refl _, trivial⟩)
                  · (repeat((conv=>whnf);first|apply ω0|apply ω1|apply ω2|refine τ3 rfl ?_|refine τ4 rfl ?_|refine ⟨rfl,?_⟩|apply τa|refine τb rfl ?_|refine ⟨⟨by kernel_rfl,by kernel_rfl⟩,?_⟩|refine ⟨by decide,?_⟩|apply τt|apply τf))
                    intro c t; cases c
                    · have t : (l.getD i trow0).num 4 = -1 := by show (l.getD i trow0).a4 = -1; simpa using t.symm
                      (repeat((conv=>whnf);first|apply ω0|apply ω1|apply ω2|refine τ3 rfl ?_|refine τ4 rfl ?_|refine ⟨rfl,?_⟩|apply τa|refine τb rfl ?_|refine ⟨⟨by kernel_rfl,by kernel_rfl⟩,?_⟩|refine ⟨by decide,?_⟩|apply τt|apply τf))
                      exact back (4 + 1, S', nx5) ⟨by dsimp only; omega, nums_skip hS t⟩ (by dsimp only; omega) (ele_tell _ _ rfl rfl (List.Sublist.refl _) (List.Sublist.refl _) (BxLe.refl _) trivial ⟨AVle.refl _, AVle.refl _, AVle.refl _, AVle.refl _, AVle.refl _, AVle.refl _, AVle.refl _, AVle.refl _, AVle.refl _, AVle.refl _, AVle.refl _, trivial⟩)
                    · have t : ¬ (l.getD i trow0).num 4 = -1 := by show ¬ (l.getD i trow0).a4 = -1; simpa using t.symm
                      (repeat((conv=>whnf);first|apply ω0|apply ω1|apply ω2|refine τ3 rfl ?_|refine τ4 rfl ?_|refine ⟨rfl,?_⟩|apply τa|refine τb rfl ?_|refine ⟨⟨by kernel_rfl,by kernel_rfl⟩,?_⟩|refine ⟨by decide,?_⟩|apply τt|apply τf))
                      refine aop_callF (xs := [.om (0, nx), int ((4 : Nat) : Int), int ((l.getD i trow0).num 4)]) [((1, nx1), .c (trowC (l.getD i trow0)))] [] 2 rfl rfl rfl rfl ⟨AVle.refl _, AVle.refl _, AVle.refl _, trivial⟩ (met_spec nx nx5 0 S' ((4 : Nat) : Int) ((l.getD i trow0).num 4)) (BxLe.refl _) (PmEq.refl _) rfl fun r h' hq2 => ?_
                      obtain ⟨nx6, nn6, rfl, rfl⟩ := hq2
                      by_cases hm : (((4 : Nat) : Int), (l.getD i trow0).num 4) ∈ S'
                      · have hnone := nums_none (nums_in hS t hm) (show 4 + 1 ≤ 5 by decide)
                        rw [hnone] at hrest
                        rw [decide_eq_true hm]
                        (repeat((conv=>whnf);first|apply ω0|apply ω1|apply ω2|refine τ3 rfl ?_|refine τ4 rfl ?_|refine ⟨rfl,?_⟩|apply τa|refine τb rfl ?_|refine ⟨⟨by kernel_rfl,by kernel_rfl⟩,?_⟩|refine ⟨by decide,?_⟩|apply τt|apply τf))
                        rw [herr 15 hrest]
                        exact ret_tells rfl (AVle.refl _)
                      · have hnew := nums_new hS t hm
                        rw [decide_eq_false hm]
                        (repeat((conv=>whnf);first|apply ω0|apply ω1|apply ω2|refine τ3 rfl ?_|refine τ4 rfl ?_|refine ⟨rfl,?_⟩|apply τa|refine τb rfl ?_|refine ⟨⟨by kernel_rfl,by kernel_rfl⟩,?_⟩|refine ⟨by decide,?_⟩|apply τt|apply τf))
                        exact back (4 + 1, addA (((4 : Nat) : Int), (l.getD i trow0).num 4) S', nx6) ⟨by dsimp only; omega, hnew⟩ (by dsimp only; omega) (ele_tell _ _ rfl rfl (List.Sublist.refl _) (List.Sublist.refl _) (BxLe.refl _) trivial ⟨AVle.refl _, AVle.refl _, AVle.refl _, AVle.refl _, AVle.refl _, AVle.refl _, AVle.refl _, AVle.refl _, AVle.refl _, AVle.refl _, AVle.refl _, trivial⟩)
                  · (repeat((conv=>whnf);first|apply ω0|apply ω1|apply ω2|refine τ3 rfl ?_|refine τ4 rfl ?_|refine ⟨rfl,?_⟩|apply τa|refine τb rfl ?_|refine ⟨⟨by kernel_rfl,by kernel_rfl⟩,?_⟩|refine ⟨by decide,?_⟩|apply τt|apply τf))
                    exact ⟨(S', nx5), hS, ele_tell _ _ rfl rfl (List.Sublist.refl _) (List.Sublist.refl _) (BxLe.refl _) trivial ⟨AVle.refl _, AVle.refl _, AVle.refl _, AVle.refl _, AVle.refl _, AVle.refl _, AVle.refl _, AVle.refl _, AVle.refl _, trivial⟩⟩
                  · omega
              · rintro ⟨S5, nx5⟩ hS
                dsimp only at hS
                (repeat((conv=>whnf);first|apply ω0|apply ω1|apply ω2|refine τ3 rfl ?_|refine τ4 rfl ?_|refine ⟨rfl,?_⟩|apply τa|refine τb rfl ?_|refine ⟨⟨by kernel_rfl,by kernel_rfl⟩,?_⟩|refine ⟨by decide,?_⟩|apply τt|apply τf))
                intro c t; cases c
                · have t : (l.getD i trow0).mux = 0 := by simpa using t.symm
                  have hmx : muxR (l.getD i trow0) S5 = some S5 := if_pos t
                  rw [hS] at hrest
                  dsimp only at hrest
                  rw [hmx] at hrest
                  have h3 := hnext S5 hrest
                  (repeat((conv=>whnf);first|apply ω0|apply ω1|apply ω2|refine τ3 rfl ?_|refine τ4 rfl ?_|refine ⟨rfl,?_⟩|apply τa|refine τb rfl ?_|refine ⟨⟨by kernel_rfl,by kernel_rfl⟩,?_⟩|refine ⟨by decide,?_⟩|apply τt|apply τf))
                  exact back (i + 1, S5, nx5) ⟨hi, h3⟩ (by dsimp only; omega) (ele_tell _ _ rfl rfl (.cons _ (List.Sublist.refl _)) (List.Sublist.refl _) (BxLe.refl _) trivial ⟨AVle.refl _, AVle.refl _, AVle.refl _, AVle.refl _, AVle.refl _, AVle.refl _, le_int (wrap_succ (by first | omega | (dsimp only; omega))), trivial⟩)
                · have t : ¬ (l.getD i trow0).mux = 0 := by simpa using t.symm
                  have h12 := ranged_mux hr t
                  have hw : IntKind.i64.wrap (5 + (l.getD i trow0).mux) = 5 + (l.getD i trow0).mux := wrap_id (by omega) (by omega)
                  (repeat((conv=>whnf);first|apply ω0|apply ω1|apply ω2|refine τ3 rfl ?_|refine τ4 rfl ?_|refine ⟨rfl,?_⟩|apply τa|refine τb rfl ?_|refine ⟨⟨by kernel_rfl,by kernel_rfl⟩,?_⟩|refine ⟨by decide,?_⟩|apply τt|apply τf))
                  refine aop_callF (xs := [.om (0, nx), int (5 + (l.getD i trow0).mux), int (l.getD i trow0).sub]) [((1, nx1), .c (trowC (l.getD i trow0)))] [] 2 rfl rfl rfl rfl ⟨AVle.refl _, le_int hw, AVle.refl _, trivial⟩ (met_spec nx nx5 0 S5 (5 + (l.getD i trow0).mux) (l.getD i trow0).sub) (BxLe.refl _) (PmEq.refl _) rfl fun r h' hq2 => ?_
                  obtain ⟨nx6, nn6, rfl, rfl⟩ := hq2
                  rw [hS] at hrest
                  dsimp only at hrest
                  by_cases hm : (5 + (l.getD i trow0).mux, (l.getD i trow0).sub) ∈ S5
                  · have hmx : muxR (l.getD i trow0) S5 = none := by unfold muxR; rw [if_neg t, if_pos hm]
                    rw [hmx] at hrest
                    rw [decide_eq_true hm]
                    (repeat((conv=>whnf);first|apply ω0|apply ω1|apply ω2|refine τ3 rfl ?_|refine τ4 rfl ?_|refine ⟨rfl,?_⟩|apply τa|refine τb rfl ?_|refine ⟨⟨by kernel_rfl,by kernel_rfl⟩,?_⟩|refine ⟨by decide,?_⟩|apply τt|apply τf))
                    rw [herr 15 hrest]
                    exact ret_tells rfl (AVle.refl _)
                  · have hmx : muxR (l.getD i trow0) S5 = some (addA (5 + (l.getD i trow0).mux, (l.getD i trow0).sub) S5) := by unfold muxR addA; rw [if_neg t, if_neg hm, if_neg hm]
                    rw [hmx] at hrest
                    have h3 := hnext _ hrest
                    rw [decide_eq_false hm]
                    (repeat((conv=>whnf);first|apply ω0|apply ω1|apply ω2|refine τ3 rfl ?_|refine τ4 rfl ?_|refine ⟨rfl,?_⟩|apply τa|refine τb rfl ?_|refine ⟨⟨by kernel_rfl,by kernel_rfl⟩,?_⟩|refine ⟨by decide,?_⟩|apply τt|apply τf))
                    exact back (i + 1, addA (5 + (l.getD i trow0).mux, (l.getD i trow0).sub) S5, nx6) ⟨hi, h3⟩ (by dsimp only; omega) (ele_tell _ _ rfl rfl (.cons _ (List.Sublist.refl _)) (List.Sublist.refl _) (BxLe.refl _) trivial ⟨AVle.refl _, AVle.refl _, AVle.refl _, AVle.refl _, AVle.refl _, AVle.refl _, le_int (wrap_succ (by first | omega | (dsimp only; omega))), trivial⟩)
end Go.Proofs.W

namespace Go.Proofs
open Go.Shelf
shelf_lay Lays.n106 Nm 106 at Tryz as Tryz.lays106
end Go.Proofs
namespace Go.Proofs.W
open Go.Vl Go.Shelf
set_option maxRecDepth 100000

end Go.Proofs.W

namespace Go.Proofs.W
open Go.Vl
set_option maxRecDepth 100000

end Go.Proofs.W

namespace Go.Proofs
open Go.Shelf
shelf_lay Lays.n217 Nm 217 at Tryz as Tryz.lays217
shelf_lay Lays.n229 Nm 229 at Tryz as Tryz.lays229
end Go.Proofs
namespace Go.Proofs.W
open Go.Vl Go.Shelf
set_option maxRecDepth 100000

def i32 (n : Int) : AV := .v (.int .i32 n)
def blankB (x : Nat) : Bool := decide (x = 32) || decide (x = 9) || decide (x = 13)
theorem blank_spec (x : Nat) : Tells Tryz.prog 135 [i32 x] (boolA (blankB x)) := by
  have hb : blankB x = (((x : Int) == 32) || (((x : Int) == 9) || ((x : Int) == 13))) := by
    unfold blankB
    rw [show ((x : Int) == 32) = decide (x = 32) by rw [Bool.eq_iff_iff]; simp; omega, show ((x : Int) == 9) = decide (x = 9) by rw [Bool.eq_iff_iff]; simp; omega, show ((x : Int) == 13) = decide (x = 13) by rw [Bool.eq_iff_iff]; simp; omega, Bool.or_assoc]
  refine tells_of_aw Tryz.func135 rfl rfl fun nx => ?_
  (repeat((conv=>whnf);first|apply ω0|apply ω1|apply ω2|refine τ3 rfl ?_|refine τ4 rfl ?_|refine ⟨rfl,?_⟩|apply τa|refine τb rfl ?_|refine ⟨⟨by kernel_rfl,by kernel_rfl⟩,?_⟩|refine ⟨by decide,?_⟩|apply τt|apply τf))
  intro c hc
  have hc2 : c = ((x : Int) == 32) := hc
  clear hc
  rw [← hc2] at hb
  clear hc2
  cases c
  · (repeat((conv=>whnf);first|apply ω0|apply ω1|apply ω2|refine τ3 rfl ?_|refine τ4 rfl ?_|refine ⟨rfl,?_⟩|apply τa|refine τb rfl ?_|refine ⟨⟨by kernel_rfl,by kernel_rfl⟩,?_⟩|refine ⟨by decide,?_⟩|apply τt|apply τf))
    intro c hc
    have hc2 : c = ((x : Int) == 9) := hc
    clear hc
    rw [← hc2, Bool.false_or] at hb
    clear hc2
    cases c
    · (repeat((conv=>whnf);first|apply ω0|apply ω1|apply ω2|refine τ3 rfl ?_|refine τ4 rfl ?_|refine ⟨rfl,?_⟩|apply τa|refine τb rfl ?_|refine ⟨⟨by kernel_rfl,by kernel_rfl⟩,?_⟩|refine ⟨by decide,?_⟩|apply τt|apply τf))
      intro c hc
      have hc2 : c = ((x : Int) == 13) := hc
      clear hc
      rw [← hc2, Bool.false_or] at hb
      (repeat((conv=>whnf);first|apply ω0|apply ω1|apply ω2|refine τ3 rfl ?_|refine τ4 rfl ?_|refine ⟨rfl,?_⟩|apply τa|refine τb rfl ?_|refine ⟨⟨by kernel_rfl,by kernel_rfl⟩,?_⟩|refine ⟨by decide,?_⟩|apply τt|apply τf))
      exact ret_tells rfl (le_bool (by exact hb.symm))
    · (repeat((conv=>whnf);first|apply ω0|apply ω1|apply ω2|refine τ3 rfl ?_|refine τ4 rfl ?_|refine ⟨rfl,?_⟩|apply τa|refine τb rfl ?_|refine ⟨⟨by kernel_rfl,by kernel_rfl⟩,?_⟩|refine ⟨by decide,?_⟩|apply τt|apply τf))
      exact ret_tells rfl (le_bool (by exact hb.symm))
  · (repeat((conv=>whnf);first|apply ω0|apply ω1|apply ω2|refine τ3 rfl ?_|refine τ4 rfl ?_|refine ⟨rfl,?_⟩|apply τa|refine τb rfl ?_|refine ⟨⟨by kernel_rfl,by kernel_rfl⟩,?_⟩|refine ⟨by decide,?_⟩|apply τt|apply τf))
    exact ret_tells rfl (le_bool (by exact hb.symm))
def lineOk (s : ByteArray) : Prop := ∀ i, i < s.size → (s.get! i).toNat < 128 ∧ (blankB (s.get! i).toNat = true ∨ (32 ≤ (s.get! i).toNat ∧ (s.get! i).toNat ≤ 126))
set_option maxHeartbeats 2000000 in
theorem plain_spec (s : ByteArray) (hs : lineOk s) (hl : s.size ≤ 1000000) : Tells Tryz.prog 133 [strA s] (boolA true) := by
  refine tells_of_aw Tryz.func133 rfl rfl fun nx => ?_
  (repeat((conv=>whnf);first|apply ω0|apply ω1|apply ω2|refine τ3 rfl ?_|refine τ4 rfl ?_|refine ⟨rfl,?_⟩|apply τa|refine τb rfl ?_|refine ⟨⟨by kernel_rfl,by kernel_rfl⟩,?_⟩|refine ⟨by decide,?_⟩|apply τt|apply τf))
  refine aop_rangeS rfl Tryz.underlying9 rfl ?_
  (repeat((conv=>whnf);first|apply ω0|apply ω1|apply ω2|refine τ3 rfl ?_|refine τ4 rfl ?_|refine ⟨rfl,?_⟩|apply τa|refine τb rfl ?_|refine ⟨⟨by kernel_rfl,by kernel_rfl⟩,?_⟩|refine ⟨by decide,?_⟩|apply τt|apply τf))
  refine aw_loop (fun y : Nat × Nat => mk 21 [(0, strA s), (6, .bp (0, nx) 0)] ⟨[((0, nx), .si s y.1)], [], y.2, 1⟩) (fun y => y.1 ≤ s.size) (fun y => s.size - y.1) ?_ ?_
  · exact ⟨(0, nx + 1), Nat.zero_le _, ele_tell (pm := []) (bx := [((0, nx), .si s 0)]) _ _ rfl rfl (List.Sublist.refl _) (List.Sublist.refl _) (BxLe.refl _) trivial ⟨AVle.refl _, AVle.refl _, trivial⟩⟩
  · rintro ⟨i, nx1⟩ h1
    dsimp only at h1
    (repeat((conv=>whnf);first|apply ω0|apply ω1|apply ω2|refine τ3 rfl ?_|refine τ4 rfl ?_|refine ⟨rfl,?_⟩|apply τa|refine τb rfl ?_|refine ⟨⟨by kernel_rfl,by kernel_rfl⟩,?_⟩|refine ⟨by decide,?_⟩|apply τt|apply τf))
    by_cases hi : i < s.size
    · obtain ⟨q1, q2⟩ := hs i hi
      have hd := decode_lo q1
      have hbl := blank_spec (s.get! i).toNat
      generalize (s.get! i).toNat = x at q1 q2 hd hbl
      refine aop_nextSA rfl rfl rfl hi hd ?_
      (repeat((conv=>whnf);first|apply ω0|apply ω1|apply ω2|refine τ3 rfl ?_|refine τ4 rfl ?_|refine ⟨rfl,?_⟩|apply τa|refine τb rfl ?_|refine ⟨⟨by kernel_rfl,by kernel_rfl⟩,?_⟩|refine ⟨by decide,?_⟩|apply τt|apply τf))
      refine aop_tells rfl rfl hbl ⟨AVle.refl _, trivial⟩ fun nx2 => ?_
      cases hb : blankB x with
      | true =>
        (repeat((conv=>whnf);first|apply ω0|apply ω1|apply ω2|refine τ3 rfl ?_|refine τ4 rfl ?_|refine ⟨rfl,?_⟩|apply τa|refine τb rfl ?_|refine ⟨⟨by kernel_rfl,by kernel_rfl⟩,?_⟩|refine ⟨by decide,?_⟩|apply τt|apply τf))
        exact back (i + 1, nx2) hi (by dsimp only; omega) (ele_tell (pm := []) (bx := [((0, nx), .si s (i + 1))]) _ _ rfl rfl (List.Sublist.refl _) (List.Sublist.refl _) (BxLe.refl _) trivial ⟨AVle.refl _, AVle.refl _, trivial⟩)
      | false =>
        rw [hb] at q2
        have h32 : 32 ≤ x ∧ x ≤ 126 := q2.resolve_left (by decide)
        (repeat((conv=>whnf);first|apply ω0|apply ω1|apply ω2|refine τ3 rfl ?_|refine τ4 rfl ?_|refine ⟨rfl,?_⟩|apply τa|refine τb rfl ?_|refine ⟨⟨by kernel_rfl,by kernel_rfl⟩,?_⟩|refine ⟨by decide,?_⟩|apply τt|apply τf))
        (intro c hc; obtain rfl : c = false := hc.trans (by first | exact decide_eq_false (by omega) | (simp; omega)); (repeat((conv=>whnf);first|apply ω0|apply ω1|apply ω2|refine τ3 rfl ?_|refine τ4 rfl ?_|refine ⟨rfl,?_⟩|apply τa|refine τb rfl ?_|refine ⟨⟨by kernel_rfl,by kernel_rfl⟩,?_⟩|refine ⟨by decide,?_⟩|apply τt|apply τf)))
        (intro c hc; obtain rfl : c = false := hc.trans (by first | exact decide_eq_false (by omega) | (simp; omega)); (repeat((conv=>whnf);first|apply ω0|apply ω1|apply ω2|refine τ3 rfl ?_|refine τ4 rfl ?_|refine ⟨rfl,?_⟩|apply τa|refine τb rfl ?_|refine ⟨⟨by kernel_rfl,by kernel_rfl⟩,?_⟩|refine ⟨by decide,?_⟩|apply τt|apply τf)))
        exact back (i + 1, nx2) hi (by dsimp only; omega) (ele_tell (pm := []) (bx := [((0, nx), .si s (i + 1))]) _ _ rfl rfl (List.Sublist.refl _) (List.Sublist.refl _) (BxLe.refl _) trivial ⟨AVle.refl _, AVle.refl _, trivial⟩)
    · refine aop_nextS0 rfl rfl rfl hi ?_
      (repeat((conv=>whnf);first|apply ω0|apply ω1|apply ω2|refine τ3 rfl ?_|refine τ4 rfl ?_|refine ⟨rfl,?_⟩|apply τa|refine τb rfl ?_|refine ⟨⟨by kernel_rfl,by kernel_rfl⟩,?_⟩|refine ⟨by decide,?_⟩|apply τt|apply τf))
      exact ret_tells rfl (AVle.refl _)
end Go.Proofs.W

namespace Go.Proofs.W
open Go.Vl Go.Shelf
set_option maxRecDepth 100000

theorem lidx_spec (s : ByteArray) (c : Int) : Tells Tryz.prog 155 [.v (.string s), .v (.int .u8 c)] (.v (.int .i64 (Lib.indexByte s.data.toList c.toNat.toUInt8))) :=
  tells_of_calls (vs := [.string s, .int .u8 c]) ⟨_, Tryz.func155, rfl, rfl⟩ fun w => (Any.stringslite_IndexByte Tryz.lays217 s c w).mono fun e w' ⟨h1, h2⟩ => ⟨h1, by subst h2; exact ⟨rfl, rfl, rfl, Nat.le_refl _, fun _ _ => rfl⟩⟩
theorem fields_spec (s : ByteArray) (hs : s.size ≤ 1000000) : Tells Tryz.prog 134 [strA s, .fn (.func 135) [] []] (.sl 1 (Lib.goFieldsP blankB s).length fun k => .v (((Lib.goFieldsP blankB s).map Value.string).getD k undef)) := by
  have h := tells_of_row (P := Tryz.prog) (f := 134) (ars := [strA s, .fn (.func 135) [] []]) (vs := [.string s, .func (.func 135) #[] #[]]) (xs := (Lib.goFieldsP blankB s).map Value.string) (t := 9) ⟨_, Tryz.func134, rfl, rfl⟩ (fun w X g us h1 h2 => by
    match us, h1 with
    | [a, b], _ =>
      have ha := h2 0 _ a rfl rfl
      have hb := fn_le _ _ _ _ (h2 1 _ b rfl rfl)
      generalize a = a' at ha
      generalize b = b' at hb
      cases ha
      cases hb
      rfl) (fun w => by
    rw [List.length_map]
    exact Any.strings_FieldsFunc_grows Tryz.lays229 135 #[] (fun args w => enters_of Tryz.func135 (by kernel_rfl) rfl args w) blankB s w (by omega) (pred_of_tells (fun x _ => blank_spec x) w) (by kernel_rfl) (by kernel_rfl))
  rw [List.length_map] at h
  exact h
set_option maxHeartbeats 1000000 in
theorem idx1_spec (s : ByteArray) (b : UInt8) (hne : ((⟨#[b]⟩ : ByteArray).toList == s.toList) = false) : Tells Tryz.prog 247 [strA s, strA ⟨#[b]⟩] (int (Lib.indexByte s.data.toList b)) := by
  have hi := lidx_spec s (b.toNat : Int)
  have hbb : ((b.toNat : Int).toNat.toUInt8) = b := by simp
  rw [hbb] at hi
  refine tells_of_aw Tryz.func247 rfl rfl fun nx => ?_
  (repeat((conv=>whnf);first|apply ω0|apply ω1|apply ω2|refine τ3 rfl ?_|refine τ4 rfl ?_|refine ⟨rfl,?_⟩|apply τa|refine τb rfl ?_|refine ⟨⟨by kernel_rfl,by kernel_rfl⟩,?_⟩|refine ⟨by decide,?_⟩|apply τt|apply τf))
  intro c hc
  obtain rfl : c = false := hc.trans hne
  (repeat((conv=>whnf);first|apply ω0|apply ω1|apply ω2|refine τ3 rfl ?_|refine τ4 rfl ?_|refine ⟨rfl,?_⟩|apply τa|refine τb rfl ?_|refine ⟨⟨by kernel_rfl,by kernel_rfl⟩,?_⟩|refine ⟨by decide,?_⟩|apply τt|apply τf))
  (conv => whnf)
  refine ⟨⟨by decide, (show (0 : Int) < 1 by decide)⟩, ?_⟩
  (repeat((conv=>whnf);first|apply ω0|apply ω1|apply ω2|refine τ3 rfl ?_|refine τ4 rfl ?_|refine ⟨rfl,?_⟩|apply τa|refine τb rfl ?_|refine ⟨⟨by kernel_rfl,by kernel_rfl⟩,?_⟩|refine ⟨by decide,?_⟩|apply τt|apply τf))
  refine aop_tells rfl rfl hi ⟨AVle.refl _, AVle.refl _, trivial⟩ fun nx2 => ?_
  (repeat((conv=>whnf);first|apply ω0|apply ω1|apply ω2|refine τ3 rfl ?_|refine τ4 rfl ?_|refine ⟨rfl,?_⟩|apply τa|refine τb rfl ?_|refine ⟨⟨by kernel_rfl,by kernel_rfl⟩,?_⟩|refine ⟨by decide,?_⟩|apply τt|apply τf))
  exact ret_tells rfl (AVle.refl _)
set_option maxHeartbeats 1000000 in
theorem cut0_spec (s : ByteArray) (b : UInt8) (hne : ((⟨#[b]⟩ : ByteArray).toList == s.toList) = false) (h : Lib.indexByte s.data.toList b = -1) : Tells Tryz.prog 172 [strA s, strA ⟨#[b]⟩] (.tup [strA s, strA ⟨#[]⟩, boolA false]) := by
  have hi := idx1_spec s b hne
  rw [h] at hi
  have hc : Tells Tryz.prog 224 [strA s, strA ⟨#[b]⟩] (.tup [strA s, strA ⟨#[]⟩, boolA false]) := by
    refine tells_of_aw Tryz.func224 rfl rfl fun nx => ?_
    (repeat((conv=>whnf);first|apply ω0|apply ω1|apply ω2|refine τ3 rfl ?_|refine τ4 rfl ?_|refine ⟨rfl,?_⟩|apply τa|refine τb rfl ?_|refine ⟨⟨by kernel_rfl,by kernel_rfl⟩,?_⟩|refine ⟨by decide,?_⟩|apply τt|apply τf))
    refine aop_tells rfl rfl hi ⟨AVle.refl _, AVle.refl _, trivial⟩ fun nx2 => ?_
    (repeat((conv=>whnf);first|apply ω0|apply ω1|apply ω2|refine τ3 rfl ?_|refine τ4 rfl ?_|refine ⟨rfl,?_⟩|apply τa|refine τb rfl ?_|refine ⟨⟨by kernel_rfl,by kernel_rfl⟩,?_⟩|refine ⟨by decide,?_⟩|apply τt|apply τf))
    exact ret_tells_all rfl trivial (AVle.refl _)
  refine tells_of_aw Tryz.func172 rfl rfl fun nx => ?_
  (repeat((conv=>whnf);first|apply ω0|apply ω1|apply ω2|refine τ3 rfl ?_|refine τ4 rfl ?_|refine ⟨rfl,?_⟩|apply τa|refine τb rfl ?_|refine ⟨⟨by kernel_rfl,by kernel_rfl⟩,?_⟩|refine ⟨by decide,?_⟩|apply τt|apply τf))
  refine aop_tells rfl rfl hc ⟨AVle.refl _, AVle.refl _, trivial⟩ fun nx2 => ?_
  (repeat((conv=>whnf);first|apply ω0|apply ω1|apply ω2|refine τ3 rfl ?_|refine τ4 rfl ?_|refine ⟨rfl,?_⟩|apply τa|refine τb rfl ?_|refine ⟨⟨by kernel_rfl,by kernel_rfl⟩,?_⟩|refine ⟨by decide,?_⟩|apply τt|apply τf))
  exact ret_tells_all rfl trivial (AVle.refl _)
theorem index_spec (s : ByteArray) (b : UInt8) (hne : ((⟨#[b]⟩ : ByteArray).toList == s.toList) = false) : Tells Tryz.prog 246 [strA s, strA ⟨#[b]⟩] (int (Lib.indexByte s.data.toList b)) := by
  have hi := idx1_spec s b hne
  refine tells_of_aw Tryz.func246 rfl rfl fun nx => ?_
  (repeat((conv=>whnf);first|apply ω0|apply ω1|apply ω2|refine τ3 rfl ?_|refine τ4 rfl ?_|refine ⟨rfl,?_⟩|apply τa|refine τb rfl ?_|refine ⟨⟨by kernel_rfl,by kernel_rfl⟩,?_⟩|refine ⟨by decide,?_⟩|apply τt|apply τf))
  refine aop_tells rfl rfl hi ⟨AVle.refl _, AVle.refl _, trivial⟩ fun nx2 => ?_
  (repeat((conv=>whnf);first|apply ω0|apply ω1|apply ω2|refine τ3 rfl ?_|refine τ4 rfl ?_|refine ⟨rfl,?_⟩|apply τa|refine τb rfl ?_|refine ⟨⟨by kernel_rfl,by kernel_rfl⟩,?_⟩|refine ⟨by decide,?_⟩|apply τt|apply τf))
  exact ret_tells rfl (AVle.refl _)
end Go.Proofs.W

namespace Go.Proofs.W
open Go.Vl Go.Shelf
set_option maxRecDepth 100000

def lineA : ByteArray := ⟨#[100, 101, 102, 97, 117, 108, 116, 32, 107, 105, 108, 108]⟩
def lineB : ByteArray := ⟨#[114, 101, 97, 100, 32, 97, 108, 108, 111, 119]⟩
def textAB : ByteArray := ⟨#[100, 101, 102, 97, 117, 108, 116, 32, 107, 105, 108, 108, 10, 114, 101, 97, 100, 32, 97, 108, 108, 111, 119]⟩
theorem lines_spec (s : ByteArray) : Tells Tryz.prog 132 [strA s] (.fn (.func 170) [] [.rp [strA s]]) := by
  refine tells_of_aw Tryz.func132 rfl rfl fun nx => ?_
  (repeat ((conv=>whnf);first|refine ω0 ?_|refine ω1 ?_|refine ω2 ?_|refine ω3 ?_|refine ω4 rfl ?_|refine ω5 rfl ?_|refine ω6 ?_|refine ω7 ?_|refine ⟨rfl,?_⟩|refine ⟨trivial,?_⟩|refine ⟨⟨rfl,Nat.le_of_ble_eq_true rfl⟩,?_⟩|refine ⟨⟨by kernel_rfl,by kernel_rfl⟩,?_⟩|refine ⟨by decide,?_⟩|refine lit_true ?_|refine lit_false ?_))
  refine AW.le (ele_freeze (L := [(2, .fn (.func 170) [] [.rp [strA s]])]) (bx := []) (pm := []) (nn := 1) [((0, nx), .c [strA s])] rfl rfl (List.Sublist.refl _) .slnil ⟨Frz.fn trivial ⟨Frz.bp (.head _) rfl, trivial⟩, trivial⟩) ?_
  (repeat((conv=>whnf);first|apply ω0|apply ω1|apply ω2|refine τ3 rfl ?_|refine τ4 rfl ?_|refine ⟨rfl,?_⟩|apply τa|refine τb rfl ?_|refine ⟨⟨by kernel_rfl,by kernel_rfl⟩,?_⟩|refine ⟨by decide,?_⟩|apply τt|apply τf))
  exact ret_tells rfl (AVle.refl _)
def splitB (a : Nat) (s sep : ByteArray) : List (Vl.Id × Own) := [((12, a + 2), .c [int 0]), ((11, a + 1), .c [strA sep]), ((10, a), .c [strA s])]
def splitF (a : Nat) : AV := .fn (.func 245) [] [.bp (11, a + 1) 0, .bp (10, a) 0, .bp (12, a + 2) 0]
theorem splits_spec (s sep : ByteArray) (nx : Nat) : ECall Tryz.prog 223 [strA s, strA sep, int 0] ⟨[], [], nx, 10⟩ fun r h' => r = splitF nx ∧ h' = ⟨splitB nx s sep, [], nx + 3, 13⟩ := by
  refine ecall_of_aw Tryz.func223 rfl rfl ?_
  (repeat((conv=>whnf);first|apply ω0|apply ω1|apply ω2|refine τ3 rfl ?_|refine τ4 rfl ?_|refine ⟨rfl,?_⟩|apply τa|refine τb rfl ?_|refine ⟨⟨by kernel_rfl,by kernel_rfl⟩,?_⟩|refine ⟨by decide,?_⟩|apply τt|apply τf))
  exact ret_is rfl ⟨rfl, rfl⟩
theorem splitseq_spec (s sep : ByteArray) (nx : Nat) : ECall Tryz.prog 171 [strA s, strA sep] ⟨[], [], nx, 10⟩ fun r h' => r = splitF nx ∧ h' = ⟨splitB nx s sep, [], nx + 3, 13⟩ := by
  refine ecall_of_aw Tryz.func171 rfl rfl ?_
  (repeat((conv=>whnf);first|apply ω0|apply ω1|apply ω2|refine τ3 rfl ?_|refine τ4 rfl ?_|refine ⟨rfl,?_⟩|apply τa|refine τb rfl ?_|refine ⟨⟨by kernel_rfl,by kernel_rfl⟩,?_⟩|refine ⟨by decide,?_⟩|apply τt|apply τf))
  refine aop_callP (xs := [strA s, strA sep, int 0]) [] [] 13 rfl rfl rfl rfl ⟨AVle.refl _, AVle.refl _, AVle.refl _, trivial⟩ (splits_spec s sep nx) (BxLe.refl _) (PmEq.refl _) rfl fun r h' hq => ?_
  obtain ⟨rfl, rfl⟩ := hq
  (repeat((conv=>whnf);first|apply ω0|apply ω1|apply ω2|refine τ3 rfl ?_|refine τ4 rfl ?_|refine ⟨rfl,?_⟩|apply τa|refine τb rfl ?_|refine ⟨⟨by kernel_rfl,by kernel_rfl⟩,?_⟩|refine ⟨by decide,?_⟩|apply τt|apply τf))
  exact ret_is rfl ⟨rfl, rfl⟩
def cutT : Nat → ByteArray
  | 0 => textAB
  | _ => lineB
set_option maxHeartbeats 2000000 in
theorem split_iter (a : Nat) : IterAll Tryz.prog 245 [] [.bp (11, a + 1) 0, .bp (10, a) 0, .bp (12, a + 2) 0] (fun s : ByteArray => [strA s]) [lineA, lineB] (splitB a textAB ⟨#[10]⟩) := by
  intro i σ Cb Cp I hc s0 nx nn h0
  refine ECall.wk (ecall_of_aw Tryz.func245 rfl rfl ?_)
  have hi0 := index_spec textAB 10 (by rw [Lib.toList_data, Lib.toList_data]; decide)
  have hi1 := index_spec lineB 10 (by rw [Lib.toList_data, Lib.toList_data]; decide)
  rw [show Lib.indexByte textAB.data.toList 10 = 12 by decide] at hi0
  rw [show Lib.indexByte lineB.data.toList 10 = -1 by decide] at hi1
  (repeat((conv=>whnf);first|apply ω0|apply ω1|apply ω2|refine τ3 rfl ?_|refine τ4 rfl ?_|refine ⟨rfl,?_⟩|apply τa|refine τb rfl ?_|refine ⟨⟨by kernel_rfl,by kernel_rfl⟩,?_⟩|refine ⟨by decide,?_⟩|apply τt|apply τf))
  refine aw_loop (fun y : Nat × σ × Nat => mk 52 [(0, .yl i), (1, .bp (11, a + 1) 0), (2, .bp (10, a) 0), (3, .bp (12, a + 2) 0)] ⟨splitB a (cutT y.1) ⟨#[10]⟩ ++ Cb y.2.1, Cp y.2.1, y.2.2, nn⟩) (fun y => y.1 ≤ 1 ∧ I ([lineA].take y.1) y.2.1) (fun y => 1 - y.1) ?_ ?_
  · exact ⟨(0, s0, nx), ⟨Nat.zero_le _, h0⟩, ele_tell _ _ rfl rfl (List.Sublist.refl _) (List.Sublist.refl _) (BxLe.refl _) (PmEq.refl _) ⟨AVle.refl _, AVle.refl _, AVle.refl _, AVle.refl _, trivial⟩⟩
  · rintro ⟨k, s, nx1⟩ ⟨k1, hI⟩
    dsimp only at k1 hI
    obtain rfl | rfl : k = 0 ∨ k = 1 := by omega
    · (repeat((conv=>whnf);first|apply ω0|apply ω1|apply ω2|refine τ3 rfl ?_|refine τ4 rfl ?_|refine ⟨rfl,?_⟩|apply τa|refine τb rfl ?_|refine ⟨⟨by kernel_rfl,by kernel_rfl⟩,?_⟩|refine ⟨by decide,?_⟩|apply τt|apply τf))
      refine aop_tells rfl rfl hi0 ⟨AVle.refl _, AVle.refl _, trivial⟩ fun nx2 => ?_
      (repeat((conv=>whnf);first|apply ω0|apply ω1|apply ω2|refine τ3 rfl ?_|refine τ4 rfl ?_|refine ⟨rfl,?_⟩|apply τa|refine τb rfl ?_|refine ⟨⟨by kernel_rfl,by kernel_rfl⟩,?_⟩|refine ⟨by decide,?_⟩|apply τt|apply τf))
      (conv => whnf)
      refine ⟨⟨by decide, (by decide : (12 : Int) ≤ 23)⟩, splitO_eq (b := strA lineA) (by kernel_rfl) ?_⟩
      (repeat((conv=>whnf);first|apply ω0|apply ω1|apply ω2|refine τ3 rfl ?_|refine τ4 rfl ?_|refine ⟨rfl,?_⟩|apply τa|refine τb rfl ?_|refine ⟨⟨by kernel_rfl,by kernel_rfl⟩,?_⟩|refine ⟨by decide,?_⟩|apply τt|apply τf))
      refine aop_hand (pre := []) (x := lineA) (post := [lineB]) (s := s) (splitB a textAB ⟨#[10]⟩) [] rfl rfl rfl hc rfl hI ⟨AVle.refl _, trivial⟩ (fun s' nx' hI' => ?_) (fun s' nx' hJ => hJ.elim)
      (repeat((conv=>whnf);first|apply ω0|apply ω1|apply ω2|refine τ3 rfl ?_|refine τ4 rfl ?_|refine ⟨rfl,?_⟩|apply τa|refine τb rfl ?_|refine ⟨⟨by kernel_rfl,by kernel_rfl⟩,?_⟩|refine ⟨by decide,?_⟩|apply τt|apply τf))
      exact back (1, s', nx') ⟨Nat.le_refl _, hI'⟩ (by dsimp only; omega) (ele_tell (bx := splitB a lineB ⟨#[10]⟩ ++ Cb s') _ _ rfl rfl (List.Sublist.refl _) (List.Sublist.refl _) ⟨rfl, OwnLe.refl _, rfl, OwnLe.refl _, rfl, ⟨AVle.of_eq (by kernel_rfl), trivial⟩, BxLe.refl _⟩ (PmEq.refl _) ⟨AVle.refl _, AVle.refl _, AVle.refl _, AVle.refl _, trivial⟩)
    · (repeat((conv=>whnf);first|apply ω0|apply ω1|apply ω2|refine τ3 rfl ?_|refine τ4 rfl ?_|refine ⟨rfl,?_⟩|apply τa|refine τb rfl ?_|refine ⟨⟨by kernel_rfl,by kernel_rfl⟩,?_⟩|refine ⟨by decide,?_⟩|apply τt|apply τf))
      refine aop_tells rfl rfl hi1 ⟨AVle.refl _, AVle.refl _, trivial⟩ fun nx2 => ?_
      (repeat((conv=>whnf);first|apply ω0|apply ω1|apply ω2|refine τ3 rfl ?_|refine τ4 rfl ?_|refine ⟨rfl,?_⟩|apply τa|refine τb rfl ?_|refine ⟨⟨by kernel_rfl,by kernel_rfl⟩,?_⟩|refine ⟨by decide,?_⟩|apply τt|apply τf))
      refine aop_hand (pre := [lineA]) (x := lineB) (post := []) (s := s) (splitB a lineB ⟨#[10]⟩) [] rfl rfl rfl hc rfl hI ⟨AVle.refl _, trivial⟩ (fun s' nx' hI' => ?_) (fun s' nx' hJ => hJ.elim)
      (repeat((conv=>whnf);first|apply ω0|apply ω1|apply ω2|refine τ3 rfl ?_|refine τ4 rfl ?_|refine ⟨rfl,?_⟩|apply τa|refine τb rfl ?_|refine ⟨⟨by kernel_rfl,by kernel_rfl⟩,?_⟩|refine ⟨by decide,?_⟩|apply τt|apply τf))
      refine ret_is rfl ⟨_, ⟨Cb s', Cp s', nx', 0⟩, AVle.refl _, ?_, s', hI', rfl, rfl⟩
      exact hle_tell _ _ rfl (List.sublist_append_right _ _) (List.Sublist.refl _) (BxLe.refl _) (PmEq.refl _)
end Go.Proofs.W

namespace Go.Proofs.W
open Go.Vl Go.Shelf
set_option maxRecDepth 100000

def lineE (p : ByteArray × Nat) : List AV := [int p.2, strA p.1]
theorem two_cases {pre post : List ByteArray} {x : ByteArray} (h : [lineA, lineB] = pre ++ x :: post) : (pre = [] ∧ x = lineA ∧ post = [lineB]) ∨ (pre = [lineA] ∧ x = lineB ∧ post = []) := by
  match pre, h with
  | [], h => cases h; exact .inl ⟨rfl, rfl, rfl⟩
  | [_], h => cases h; exact .inr ⟨rfl, rfl, rfl⟩
  | _ :: _ :: pre, h => simp at h
theorem cutA : Tells Tryz.prog 172 [strA lineA, strA ⟨#[35]⟩] (.tup [strA lineA, strA ⟨#[]⟩, boolA false]) := cut0_spec lineA 35 (by rw [Lib.toList_data, Lib.toList_data]; decide) (by decide)
theorem cutB : Tells Tryz.prog 172 [strA lineB, strA ⟨#[35]⟩] (.tup [strA lineB, strA ⟨#[]⟩, boolA false]) := cut0_spec lineB 35 (by rw [Lib.toList_data, Lib.toList_data]; decide) (by decide)
set_option maxHeartbeats 4000000 in
theorem lines_iter : IterAll Tryz.prog 170 [] [.rp [strA textAB]] lineE [(lineA, 1), (lineB, 2)] [] := by
  intro i σ Cb Cp I hc s0 nx nn h0
  refine ECall.wk (ecall_of_aw Tryz.func170 rfl rfl ?_)
  refine AW.le (E' := mk 21 [(0, .yl i), (1, .rp [strA textAB])] ⟨Cb s0, Cp s0, nx, 0⟩ (some [])) (ele_tell _ _ rfl rfl (List.Sublist.refl _) (List.Sublist.refl _) (BxLe.refl _) (PmEq.refl _) ⟨AVle.refl _, AVle.refl _, trivial⟩) ?_
  (repeat((conv=>whnf);first|apply ω0|apply ω1|apply ω2|refine τ3 rfl ?_|refine τ4 rfl ?_|refine ⟨rfl,?_⟩|apply τa|refine τb rfl ?_|refine ⟨⟨by kernel_rfl,by kernel_rfl⟩,?_⟩|refine ⟨by decide,?_⟩|apply τt|apply τf))
  refine aop_callP (xs := [strA textAB, strA ⟨#[10]⟩]) (bx1 := []) (pm1 := []) (((1, nx + 1), .c [int 0]) :: ((0, nx), .c [.yl i]) :: Cb s0) (Cp s0) 13 rfl rfl rfl (List.append_nil _).symm ⟨AVle.refl _, AVle.refl _, trivial⟩ (splitseq_spec textAB ⟨#[10]⟩ (nx + 2)) (BxLe.refl _) (PmEq.refl _) rfl fun r h' hq => ?_
  obtain ⟨rfl, rfl⟩ := hq
  (repeat((conv=>whnf);first|apply ω0|apply ω2|refine τ3 rfl ?_|refine τ4 rfl ?_|refine ⟨rfl,?_⟩|apply τa|refine τb rfl ?_|refine ⟨⟨by kernel_rfl,by kernel_rfl⟩,?_⟩|refine ⟨by decide,?_⟩|apply τt|apply τf))
  refine AW.le (E' := mk 21 [(2, .bp (0, nx) 0), (3, .bp (1, nx + 1) 0), (6, splitF (nx + 2))] ⟨splitB (nx + 2) textAB ⟨#[10]⟩ ++ (((1, nx + 1), .c [int 0]) :: ((0, nx), .c [.yl i]) :: Cb s0), Cp s0, nx + 5, 13⟩ (some [])) (ele_tell _ _ rfl rfl (List.Sublist.refl _) (List.Sublist.refl _) (BxLe.refl _) (by rw [List.append_nil]; exact PmEq.refl _) ⟨AVle.refl _, AVle.refl _, AVle.refl _, trivial⟩) ?_
  (repeat((conv=>whnf);first|apply ω0|apply ω2|refine τ3 rfl ?_|refine τ4 rfl ?_|refine ⟨rfl,?_⟩|apply τa|refine τb rfl ?_|refine ⟨⟨by kernel_rfl,by kernel_rfl⟩,?_⟩|refine ⟨by decide,?_⟩|apply τt|apply τf))
  refine aw_forO (σ := σ × Nat) (e := fun s : ByteArray => [strA s]) (xs := [lineA, lineB]) (first' := []) (caps' := [.bp (11, nx + 2 + 1) 0, .bp (10, nx + 2) 0, .bp (12, nx + 2 + 2) 0]) (splitB (nx + 2) textAB ⟨#[10]⟩) (fun y => ((1, nx + 1), .c [int y.2]) :: ((0, nx), .c [.yl i]) :: Cb y.1) (fun y => Cp y.1) (fun pre y => y.2 = pre.length ∧ I (pre.zipIdx 1) y.1) (s0, 0) rfl rfl (split_iter (nx + 2)) (LeL.refl _) (LeL.refl _) rfl rfl ⟨rfl, h0⟩ (fun _ => rfl) ?_ ?_
  · rintro pre x post ⟨s, n⟩ nx3 nn3 hx ⟨hn, hI⟩
    dsimp only at hn hI
    have hcut : Tells Tryz.prog 172 [strA x, strA ⟨#[35]⟩] (.tup [strA x, strA ⟨#[]⟩, boolA false]) := by
      rcases two_cases hx with ⟨_, rfl, _⟩ | ⟨_, rfl, _⟩
      · exact cutA
      · exact cutB
    have hlen : pre.length ≤ 1 := by rcases two_cases hx with ⟨rfl, _⟩ | ⟨rfl, _⟩ <;> decide
    have hX : [(lineA, 1), (lineB, 2)] = pre.zipIdx 1 ++ (x, n + 1) :: post.zipIdx (pre.length + 2) := by
      rw [hn]
      rcases two_cases hx with ⟨rfl, rfl, rfl⟩ | ⟨rfl, rfl, rfl⟩ <;> rfl
    have hI2 : (pre ++ [x]).zipIdx 1 = pre.zipIdx 1 ++ [(x, n + 1)] := by
      rw [hn]
      rcases two_cases hx with ⟨rfl, rfl, rfl⟩ | ⟨rfl, rfl, rfl⟩ <;> rfl
    (repeat((conv=>whnf);first|apply ω0|apply ω2|refine τ3 rfl ?_|refine τ4 rfl ?_|refine ⟨rfl,?_⟩|apply τa|refine τb rfl ?_|refine ⟨⟨by kernel_rfl,by kernel_rfl⟩,?_⟩|refine ⟨by decide,?_⟩|apply τt|apply τf))
    refine aw_region ?_
    (repeat((conv=>whnf);first|apply ω0|apply ω1|apply ω2|refine τ3 rfl ?_|refine τ4 rfl ?_|refine ⟨rfl,?_⟩|apply τa|refine τb rfl ?_|refine ⟨⟨by kernel_rfl,by kernel_rfl⟩,?_⟩|refine ⟨by decide,?_⟩|apply τt|apply τf))
    refine aop_tells rfl rfl hcut ⟨AVle.refl _, AVle.refl _, trivial⟩ fun nx4 => ?_
    (repeat((conv=>whnf);first|apply ω0|apply ω1|apply ω2|refine τ3 rfl ?_|refine τ4 rfl ?_|refine ⟨rfl,?_⟩|apply τa|refine τb rfl ?_|refine ⟨⟨by kernel_rfl,by kernel_rfl⟩,?_⟩|refine ⟨by decide,?_⟩|apply τt|apply τf))
    refine aop_hand (pre := pre.zipIdx 1) (x := (x, n + 1)) (post := post.zipIdx (pre.length + 2)) (s := s) [_, _, _, _] [] rfl rfl rfl hc hX hI ⟨le_int (wrap_succ (by omega)), AVle.refl _, trivial⟩ (fun s' nx' hI' => ?_) (fun s' nx' hJ => hJ.elim)
    (repeat((conv=>whnf);first|apply ω0|apply ω1|apply ω2|refine τ3 rfl ?_|refine τ4 rfl ?_|refine ⟨rfl,?_⟩|apply τa|refine τb rfl ?_|refine ⟨⟨by kernel_rfl,by kernel_rfl⟩,?_⟩|refine ⟨by decide,?_⟩|apply τt|apply τf))
    refine ⟨(s', n + 1), .inl ⟨rfl, by simp [hn], by rw [hI2]; exact hI'⟩, ?_, rfl⟩
    have e : IntKind.i64.wrap ((n : Int) + 1) = ((n + 1 : Nat) : Int) := wrap_succ (by omega)
    show _ = _ :: _ :: ((1, nx + 1), Own.c [int ((n + 1 : Nat) : Int)]) :: ((0, nx), Own.c [.yl i]) :: Cb s'
    rw [← e]
    rfl
  · rintro ⟨s', n⟩ nx3 nn3 ⟨hn, hI⟩
    dsimp only at hn hI
    (repeat((conv=>whnf);first|apply ω0|apply ω1|apply ω2|refine τ3 rfl ?_|refine τ4 rfl ?_|refine ⟨rfl,?_⟩|apply τa|refine τb rfl ?_|refine ⟨⟨by kernel_rfl,by kernel_rfl⟩,?_⟩|refine ⟨by decide,?_⟩|apply τt|apply τf))
    refine ret_is rfl ⟨_, ⟨Cb s', Cp s', nx3, 0⟩, AVle.refl _, ?_, s', hI, rfl, rfl⟩
    exact hle_tell _ _ rfl (.cons _ (.cons _ (.cons _ (List.Sublist.refl _)))) (List.Sublist.refl _) (BxLe.refl _) (PmEq.refl _)
end Go.Proofs.W

namespace Go.Proofs.W
open Go.Vl Go.Shelf
set_option maxRecDepth 100000

def wDefault : ByteArray := ⟨#[100, 101, 102, 97, 117, 108, 116]⟩
def wKill : ByteArray := ⟨#[107, 105, 108, 108]⟩
def wRead : ByteArray := ⟨#[114, 101, 97, 100]⟩
def wAllow : ByteArray := ⟨#[97, 108, 108, 111, 119]⟩
def strsA (l : List ByteArray) : AV := .sl 1 l.length fun k => .v ((l.map Value.string).getD k undef)
def lineV (p : Nat × List ByteArray) : AV := .ag [int p.1, strsA p.2]
def linesA (L : List (Nat × List ByteArray)) : AV := .sl 2 L.length fun k => lineV (L.getD k (0, []))
def fieldsL (s : ByteArray) : List ByteArray := Lib.goFieldsP blankB s
theorem fieldsA : fieldsL lineA = [wDefault, wKill] := by decide +kernel
theorem fieldsB : fieldsL lineB = [wRead, wAllow] := by decide +kernel
theorem plainA : lineOk lineA := by
  intro i hi
  have hi : i < 12 := hi
  rcases (by omega : i = 0 ∨ i = 1 ∨ i = 2 ∨ i = 3 ∨ i = 4 ∨ i = 5 ∨ i = 6 ∨ i = 7 ∨ i = 8 ∨ i = 9 ∨ i = 10 ∨ i = 11) with rfl | rfl | rfl | rfl | rfl | rfl | rfl | rfl | rfl | rfl | rfl | rfl <;> decide
theorem plainB : lineOk lineB := by
  intro i hi
  have hi : i < 10 := hi
  rcases (by omega : i = 0 ∨ i = 1 ∨ i = 2 ∨ i = 3 ∨ i = 4 ∨ i = 5 ∨ i = 6 ∨ i = 7 ∨ i = 8 ∨ i = 9) with rfl | rfl | rfl | rfl | rfl | rfl | rfl | rfl | rfl | rfl <;> decide
def outL (L : List (ByteArray × Nat)) : List (Nat × List ByteArray) := L.map fun p => (p.2, fieldsL p.1)
def rowL (L : List (ByteArray × Nat)) (k : Nat) : AV := lineV ((outL L).getD k (0, []))
theorem bytes_line : Tryz.prog.bytesOf 155 = 32 := by kernel_rfl
theorem pair_cases {pre post : List (ByteArray × Nat)} {x : ByteArray × Nat} (h : [(lineA, 1), (lineB, 2)] = pre ++ x :: post) : (pre = [] ∧ x = (lineA, 1)) ∨ (pre = [(lineA, 1)] ∧ x = (lineB, 2)) := by
  match pre, h with
  | [], h => cases h; exact .inl ⟨rfl, rfl⟩
  | [_], h => cases h; exact .inr ⟨rfl, rfl⟩
  | _ :: _ :: pre, h => simp at h
set_option maxHeartbeats 4000000 in
theorem lexlines_spec : Tells Tryz.prog 89 [strA textAB] (.tup [linesA (outL [(lineA, 1), (lineB, 2)]), int 0, int 0]) := by
  refine tells_of_aw Tryz.func89 rfl rfl fun nx => ?_
  (repeat((conv=>whnf);first|apply ω0|apply ω1|apply ω2|refine τ3 rfl ?_|refine τ4 rfl ?_|refine ⟨rfl,?_⟩|apply τa|refine τb rfl ?_|refine ⟨⟨by kernel_rfl,by kernel_rfl⟩,?_⟩|refine ⟨by decide,?_⟩|apply τt|apply τf))
  refine aop_tells rfl rfl (lines_spec textAB) ⟨AVle.refl _, trivial⟩ fun nx2 => ?_
  (repeat((conv=>whnf);first|apply ω0|apply ω2|refine τ3 rfl ?_|refine τ4 rfl ?_|refine ⟨rfl,?_⟩|apply τa|refine τb rfl ?_|refine ⟨⟨by kernel_rfl,by kernel_rfl⟩,?_⟩|refine ⟨by decide,?_⟩|apply τt|apply τf))
  refine AW.le (E' := mk 32 [(2, .bp (0, nx) 0), (3, .bp (1, nx + 1) 0), (4, .bp (2, nx + 2) 0), (5, .bp (3, nx + 3) 0), (13, .fn (.func 170) [] [.rp [strA textAB]])] ⟨[((3, nx + 3), .c [.os 2 0 (rowL []) none]), ((2, nx + 2), .c [int 0]), ((1, nx + 1), .c [int 0]), ((0, nx), .c [.os 0 0 (fun _ => .any) none])], [], nx2, 4⟩ (some [])) (ele_tell _ _ rfl rfl (List.Sublist.refl _) (List.Sublist.refl _) ⟨rfl, ⟨AVle.os_nil, trivial⟩, BxLe.refl _⟩ trivial ⟨AVle.refl _, AVle.refl _, AVle.refl _, AVle.refl _, AVle.refl _, trivial⟩) ?_
  (repeat((conv=>whnf);first|apply ω0|apply ω2|refine τ3 rfl ?_|refine τ4 rfl ?_|refine ⟨rfl,?_⟩|apply τa|refine τb rfl ?_|refine ⟨⟨by kernel_rfl,by kernel_rfl⟩,?_⟩|refine ⟨by decide,?_⟩|apply τt|apply τf))
  refine aw_forO (σ := Nat × (Nat → AV) × Option Vl.Id) (e := lineE) (xs := [(lineA, 1), (lineB, 2)]) (first' := []) (caps' := [.rp [strA textAB]]) [] (fun y => [((3, nx + 3), .c [.os 2 y.1 y.2.1 y.2.2]), ((2, nx + 2), .c [int 0]), ((1, nx + 1), .c [int 0]), ((0, nx), .c [.os 0 0 (fun _ => .any) none])]) (fun y => pmOf y.2.2 (y.1 * 2)) (fun pre y => y.1 = pre.length ∧ (∀ k, k < y.1 → y.2.1 k = rowL pre k) ∧ (y.2.2 = none → pre = [])) (0, rowL [], none) rfl rfl lines_iter (LeL.refl _) (LeL.refl _) rfl rfl ⟨rfl, fun _ _ => rfl, fun _ => rfl⟩ (fun _ => rfl) ?_ ?_
  · rintro pre x post ⟨L, f, oi⟩ nx3 nn3 hx ⟨hL, hf0, ho⟩
    dsimp only at hL hf0 ho
    subst hL
    rcases pair_cases hx with ⟨rfl, rfl⟩ | ⟨rfl, rfl⟩
    · have hp := plain_spec lineA plainA (by decide)
      have hf : Tells Tryz.prog 134 [strA lineA, .fn (.func 135) [] []] (strsA [wDefault, wKill]) := by rw [← fieldsA]; exact fields_spec lineA (by decide)
      (repeat((conv=>whnf);first|apply ω0|apply ω2|refine τ3 rfl ?_|refine τ4 rfl ?_|refine ⟨rfl,?_⟩|apply τa|refine τb rfl ?_|refine ⟨⟨by kernel_rfl,by kernel_rfl⟩,?_⟩|refine ⟨by decide,?_⟩|apply τt|apply τf))
      refine aw_region ?_
      (repeat((conv=>whnf);first|apply ω0|apply ω1|apply ω2|refine τ3 rfl ?_|refine τ4 rfl ?_|refine ⟨rfl,?_⟩|apply τa|refine τb rfl ?_|refine ⟨⟨by kernel_rfl,by kernel_rfl⟩,?_⟩|refine ⟨by decide,?_⟩|apply τt|apply τf))
      refine aop_tells rfl rfl hp ⟨AVle.refl _, trivial⟩ fun nx4 => ?_
      (repeat((conv=>whnf);first|apply ω0|apply ω1|apply ω2|refine τ3 rfl ?_|refine τ4 rfl ?_|refine ⟨rfl,?_⟩|apply τa|refine τb rfl ?_|refine ⟨⟨by kernel_rfl,by kernel_rfl⟩,?_⟩|refine ⟨by decide,?_⟩|apply τt|apply τf))
      refine aop_tells rfl rfl hf ⟨AVle.refl _, AVle.refl _, trivial⟩ fun nx5 => ?_
      (repeat((conv=>whnf);first|apply ω0|apply ω2|refine τ3 rfl ?_|refine τ4 rfl ?_|refine ⟨rfl,?_⟩|apply τa|refine τb rfl ?_|refine ⟨⟨by kernel_rfl,by kernel_rfl⟩,?_⟩|refine ⟨by decide,?_⟩|apply τt|apply τf))
      refine aw_region ?_
      (repeat((conv=>whnf);first|apply ω0|apply ω2|refine τ3 rfl ?_|refine τ4 rfl ?_|refine ⟨rfl,?_⟩|apply τa|refine τb rfl ?_|refine ⟨⟨by kernel_rfl,by kernel_rfl⟩,?_⟩|refine ⟨by decide,?_⟩|apply τt|apply τf))
      refine aw_regionY (fun n => match n with | 0 => true | _ => false) 6 ?_
      (repeat((conv=>whnf);first|apply ω0|apply ω1|apply ω2|refine τ3 rfl ?_|refine τ4 rfl ?_|refine ⟨rfl,?_⟩|apply τa|refine τb rfl ?_|refine ⟨⟨by kernel_rfl,by kernel_rfl⟩,?_⟩|refine ⟨by decide,?_⟩|apply τt|apply τf))
      refine aop_append1 (e := 155) (c := 2) (pm := []) (n := 0) (oi := oi) (sz := 2) (f := f) rfl rfl (.inr ⟨_, rfl⟩) (by kernel_rfl) (by kernel_rfl) (by kernel_rfl) (.inr rfl) (by kernel_rfl) (List.append_nil _).symm (oneRow_one rfl) (by rw [bytes_line]; decide) (by decide) ?_
      (repeat((conv=>whnf);first|apply ω0|apply ω1|apply ω2|refine τ3 rfl ?_|refine τ4 rfl ?_|refine ⟨rfl,?_⟩|apply τa|refine τb rfl ?_|refine ⟨⟨by kernel_rfl,by kernel_rfl⟩,?_⟩|refine ⟨by decide,?_⟩|apply τt|apply τf))
      refine ⟨(0 + 1, _, some (nn3, nx5)), .inl ⟨rfl, rfl, fun k hk => ?_, fun h => by cases h⟩, rfl, rfl⟩
      obtain rfl : k = 0 := Nat.lt_one_iff.1 hk
      show _ = lineV (1, fieldsL lineA)
      rw [fieldsA]; rfl
    · have hp := plain_spec lineB plainB (by decide)
      have hf : Tells Tryz.prog 134 [strA lineB, .fn (.func 135) [] []] (strsA [wRead, wAllow]) := by rw [← fieldsB]; exact fields_spec lineB (by decide)
      (repeat((conv=>whnf);first|apply ω0|apply ω2|refine τ3 rfl ?_|refine τ4 rfl ?_|refine ⟨rfl,?_⟩|apply τa|refine τb rfl ?_|refine ⟨⟨by kernel_rfl,by kernel_rfl⟩,?_⟩|refine ⟨by decide,?_⟩|apply τt|apply τf))
      refine aw_region ?_
      (repeat((conv=>whnf);first|apply ω0|apply ω1|apply ω2|refine τ3 rfl ?_|refine τ4 rfl ?_|refine ⟨rfl,?_⟩|apply τa|refine τb rfl ?_|refine ⟨⟨by kernel_rfl,by kernel_rfl⟩,?_⟩|refine ⟨by decide,?_⟩|apply τt|apply τf))
      refine aop_tells rfl rfl hp ⟨AVle.refl _, trivial⟩ fun nx4 => ?_
      (repeat((conv=>whnf);first|apply ω0|apply ω1|apply ω2|refine τ3 rfl ?_|refine τ4 rfl ?_|refine ⟨rfl,?_⟩|apply τa|refine τb rfl ?_|refine ⟨⟨by kernel_rfl,by kernel_rfl⟩,?_⟩|refine ⟨by decide,?_⟩|apply τt|apply τf))
      refine aop_tells rfl rfl hf ⟨AVle.refl _, AVle.refl _, trivial⟩ fun nx5 => ?_
      (repeat((conv=>whnf);first|apply ω0|apply ω2|refine τ3 rfl ?_|refine τ4 rfl ?_|refine ⟨rfl,?_⟩|apply τa|refine τb rfl ?_|refine ⟨⟨by kernel_rfl,by kernel_rfl⟩,?_⟩|refine ⟨by decide,?_⟩|apply τt|apply τf))
      refine aw_region ?_
      (repeat((conv=>whnf);first|apply ω0|apply ω2|refine τ3 rfl ?_|refine τ4 rfl ?_|refine ⟨rfl,?_⟩|apply τa|refine τb rfl ?_|refine ⟨⟨by kernel_rfl,by kernel_rfl⟩,?_⟩|refine ⟨by decide,?_⟩|apply τt|apply τf))
      refine aw_regionY (fun n => match n with | 0 => true | _ => false) 6 ?_
      (repeat((conv=>whnf);first|apply ω0|apply ω1|apply ω2|refine τ3 rfl ?_|refine τ4 rfl ?_|refine ⟨rfl,?_⟩|apply τa|refine τb rfl ?_|refine ⟨⟨by kernel_rfl,by kernel_rfl⟩,?_⟩|refine ⟨by decide,?_⟩|apply τt|apply τf))
      refine aop_append1 (e := 155) (c := 2) (pm := []) (n := 1) (oi := oi) (sz := 2) (f := f) rfl rfl (.inr ⟨_, rfl⟩) (by kernel_rfl) (by kernel_rfl) (by kernel_rfl) (.inr rfl) (by kernel_rfl) (List.append_nil _).symm (oneRow_one rfl) (by rw [bytes_line]; decide) (by decide) ?_
      (repeat((conv=>whnf);first|apply ω0|apply ω1|apply ω2|refine τ3 rfl ?_|refine τ4 rfl ?_|refine ⟨rfl,?_⟩|apply τa|refine τb rfl ?_|refine ⟨⟨by kernel_rfl,by kernel_rfl⟩,?_⟩|refine ⟨by decide,?_⟩|apply τt|apply τf))
      refine ⟨(1 + 1, _, some (nn3, nx5)), .inl ⟨rfl, rfl, fun k hk => ?_, fun h => by cases h⟩, rfl, rfl⟩
      refine appF_one (fun k hk => ?_) ?_ k hk
      · obtain rfl : k = 0 := Nat.lt_one_iff.1 hk
        exact hf0 0 (by decide)
      · show _ = lineV (2, fieldsL lineB)
        rw [fieldsB]; rfl
  · rintro ⟨L, f, oi⟩ nx3 nn3 ⟨hL, hf0, ho⟩
    dsimp only at hL hf0 ho
    subst hL
    (repeat((conv=>whnf);first|apply ω0|apply ω1|apply ω2|refine τ3 rfl ?_|refine τ4 rfl ?_|refine ⟨rfl,?_⟩|apply τa|refine τb rfl ?_|refine ⟨⟨by kernel_rfl,by kernel_rfl⟩,?_⟩|refine ⟨by decide,?_⟩|apply τt|apply τf))
    exact ret_tells_all rfl ⟨⟨rfl, Nat.zero_lt_one⟩, ⟨rfl, Nat.zero_lt_one⟩, ⟨rfl, Nat.zero_lt_one⟩, trivial⟩ (AVle.tups (cs := [_, _, _]) ⟨(AVle.os_fun hf0).trans AVle.os_sl, AVle.refl _, AVle.refl _, trivial⟩)
end Go.Proofs.W

namespace Go.Proofs.W
open Go.Vl
set_option maxRecDepth 100000

/-- A kind's code, how great its number may be. -/
def kb (k : Nat) : Nat := [2147483648, 0, 196608, 327680, 2143289344, 2146435072, 2147221504, 2147418112].getD k 0
def km (k : Nat) : Nat := if k = 3 then 4095 else if k = 5 then 65535 else 0
theorem row_kb (k : Nat) (h : k < 8) : ∃ s m, rowF rowsL k = .ag [.v (.string s), .v (.int .u32 (kb k)), m] ∧ Tells Tryz.prog 117 [rowF rowsL k] (int (km k)) := by
  have key := row_most k h
  rcases k with _ | _ | _ | _ | _ | _ | _ | _ | k
  · exact ⟨_, _, rfl, f27_nil _ _⟩
  · exact ⟨_, _, rfl, f27_nil _ _⟩
  · exact ⟨_, _, rfl, f27_nil _ _⟩
  · exact ⟨_, _, rfl, f27_below _ _ 4096 (by decide)⟩
  · exact ⟨_, _, rfl, f27_nil _ _⟩
  · exact ⟨_, _, rfl, f27_below _ _ 65536 (by decide)⟩
  · exact ⟨_, _, rfl, f27_nil _ _⟩
  · exact ⟨_, _, rfl, f27_nil _ _⟩
  · omega
theorem kb_le {k : Nat} (h : k < 8) : kb k + km k < 4294967296 := by
  rcases k with _ | _ | _ | _ | _ | _ | _ | _ | k
  all_goals first | decide | omega
end Go.Proofs.W

namespace Go.Proofs.W
open Go.Vl
set_option maxRecDepth 100000

def readC (w : ByteArray) : AV := .fn (.func 248) [] [.rp [strsA [w]]]
def rowS (j : Nat) : ByteArray := match rowF rowsL j with
  | .ag (.v (.string s) :: _) => s
  | _ => ⟨#[]⟩
def eqW (w : ByteArray) (j : Nat) : Bool := (rowS j).toList == w.toList
def wordI (w : ByteArray) : Option Nat := (List.range 8).find? (eqW w)
theorem readw_spec (w s : ByteArray) (c : Int) (m : AV) (hm : m = .v .nilFunc ∨ ∃ n, m = belowF n) : Tells Tryz.prog 248 [.ag [.v (.string s), .v (.int .u32 c), m], .rp [strsA [w]]] (boolA (s.toList == w.toList)) := by
  refine tells_of_aw Tryz.func248 rfl rfl fun nx => ?_
  rcases hm with rfl | ⟨n, rfl⟩
  all_goals
    (repeat((conv=>whnf);first|apply ω0|apply ω1|apply ω2|refine τ3 rfl ?_|refine τ4 rfl ?_|refine ⟨rfl,?_⟩|apply τa|refine τb rfl ?_|refine ⟨⟨by kernel_rfl,by kernel_rfl⟩,?_⟩|refine ⟨by decide,?_⟩|apply τt|apply τf))
    (refine aw_draw 7 ?_ ?_ ?_ ?_; (· kernel_rfl); (· kernel_rfl); (· kernel_rfl))
    (repeat((conv=>whnf);first|apply ω0|apply ω1|apply ω2|refine τ3 rfl ?_|refine τ4 rfl ?_|refine ⟨rfl,?_⟩|apply τa|refine τb rfl ?_|refine ⟨⟨by kernel_rfl,by kernel_rfl⟩,?_⟩|refine ⟨by decide,?_⟩|apply τt|apply τf))
    refine ⟨⟨by decide, (show (0 : Int) < 1 by decide)⟩, ?_⟩
    (repeat((conv=>whnf);first|apply ω0|apply ω1|apply ω2|refine τ3 rfl ?_|refine τ4 rfl ?_|refine ⟨rfl,?_⟩|apply τa|refine τb rfl ?_|refine ⟨⟨by kernel_rfl,by kernel_rfl⟩,?_⟩|refine ⟨by decide,?_⟩|apply τt|apply τf))
    intro c hc
    subst hc
    (repeat((conv=>whnf);first|apply ω0|apply ω1|apply ω2|refine τ3 rfl ?_|refine τ4 rfl ?_|refine ⟨rfl,?_⟩|apply τa|refine τb rfl ?_|refine ⟨⟨by kernel_rfl,by kernel_rfl⟩,?_⟩|refine ⟨by decide,?_⟩|apply τt|apply τf))
    exact ret_tells rfl (AVle.refl _)
set_option maxHeartbeats 1000000 in
theorem idxw_spec (w : ByteArray) : Tells Tryz.prog 114 [rowsA, readC w] (int (optI (wordI w))) := by
  refine tells_of_aw Tryz.func114 rfl rfl fun nx => ?_
  (repeat((conv=>whnf);first|apply ω0|apply ω1|apply ω2|refine τ3 rfl ?_|refine τ4 rfl ?_|refine ⟨rfl,?_⟩|apply τa|refine τb rfl ?_|refine ⟨⟨by kernel_rfl,by kernel_rfl⟩,?_⟩|refine ⟨by decide,?_⟩|apply τt|apply τf))
  refine aw_loop (fun s : Nat × Nat => mk 19 [(0, rowsA), (1, readC w), (7, int 8), (8, int s.1)] ⟨[], [], s.2, 0⟩) (fun s => s.1 ≤ 8 ∧ ∀ j, j < s.1 → eqW w j = false) (fun s => 8 - s.1) ?_ ?_
  · exact ⟨(0, nx), ⟨by simp, by intro j hj; simp at hj⟩, ele_mk rfl rfl ⟨AVle.refl _, AVle.refl _, AVle.refl _, AVle.refl _, trivial⟩⟩
  · rintro ⟨i, nx⟩ ⟨h1, h2⟩
    dsimp only at h1 h2
    by_cases hi : i < 8
    · obtain ⟨s, c0, m, hr1, h4, _⟩ := row_most i hi
      have hT := readw_spec w s c0 m h4
      have hes : (s.toList == w.toList) = eqW w i := by unfold eqW rowS; rw [hr1]
      rw [hes] at hT
      rcases h4 with rfl | ⟨n', rfl⟩
      all_goals
        (repeat((conv=>whnf);first|apply ω0|apply ω1|apply ω2|refine τ3 rfl ?_|refine τ4 rfl ?_|refine ⟨rfl,?_⟩|apply τa|refine τb rfl ?_|refine ⟨⟨by kernel_rfl,by kernel_rfl⟩,?_⟩|refine ⟨by decide,?_⟩|apply τt|apply τf))
        intro c h3; cases c
        · exact absurd (not_of h3) (by dsimp only; omega)
        (repeat((conv=>whnf);first|apply ω0|apply ω1|apply ω2|refine τ3 rfl ?_|refine τ4 rfl ?_|refine ⟨rfl,?_⟩|apply τa|refine τb rfl ?_|refine ⟨⟨by kernel_rfl,by kernel_rfl⟩,?_⟩|refine ⟨by decide,?_⟩|apply τt|apply τf))
        refine ⟨⟨by dsimp only; omega, by dsimp only; omega⟩, splitO_eq (b := .rp [.v (.string s), .v (.int .u32 c0), _]) (by show AV.rp (rowF rowsL i).cells = _; rw [hr1]; rfl) ?_⟩
        (repeat((conv=>whnf);first|apply ω0|apply ω1|apply ω2|refine τ3 rfl ?_|refine τ4 rfl ?_|refine ⟨rfl,?_⟩|apply τa|refine τb rfl ?_|refine ⟨⟨by kernel_rfl,by kernel_rfl⟩,?_⟩|refine ⟨by decide,?_⟩|apply τt|apply τf))
        refine aop_tells rfl rfl hT ⟨AVle.refl _, AVle.refl _, trivial⟩ fun nx' => ?_
        intro c h4; cases c
        · (repeat((conv=>whnf);first|apply ω0|apply ω1|apply ω2|refine τ3 rfl ?_|refine τ4 rfl ?_|refine ⟨rfl,?_⟩|apply τa|refine τb rfl ?_|refine ⟨⟨by kernel_rfl,by kernel_rfl⟩,?_⟩|refine ⟨by decide,?_⟩|apply τt|apply τf))
          refine back (i + 1, nx') ⟨by dsimp only; omega, fun j hj => ?_⟩ (by dsimp only; omega) (ele_mk rfl rfl ⟨AVle.refl _, AVle.refl _, AVle.refl _, le_int (wrap_succ (by dsimp only; omega)), trivial⟩)
          dsimp only at hj
          rcases Nat.lt_or_ge j i with h | h
          · exact h2 j h
          · obtain rfl : j = i := by omega
            exact h4.symm
        · (repeat((conv=>whnf);first|apply ω0|apply ω1|apply ω2|refine τ3 rfl ?_|refine τ4 rfl ?_|refine ⟨rfl,?_⟩|apply τa|refine τb rfl ?_|refine ⟨⟨by kernel_rfl,by kernel_rfl⟩,?_⟩|refine ⟨by decide,?_⟩|apply τt|apply τf))
          refine ret_tells rfl (le_int ?_)
          have : wordI w = some i := by
            unfold wordI
            rw [List.find?_range_eq_some]
            exact ⟨h4.symm, by simp; omega, fun j hj => by rw [h2 j hj]; rfl⟩
          rw [this]; rfl
    · obtain rfl : i = 8 := by omega
      (repeat((conv=>whnf);first|apply ω0|apply ω1|apply ω2|refine τ3 rfl ?_|refine τ4 rfl ?_|refine ⟨rfl,?_⟩|apply τa|refine τb rfl ?_|refine ⟨⟨by kernel_rfl,by kernel_rfl⟩,?_⟩|refine ⟨by decide,?_⟩|apply τt|apply τf))
      refine ret_tells rfl (le_int ?_)
      have : wordI w = none := by
        unfold wordI
        rw [List.find?_range_eq_none]
        intro j hj
        rw [h2 j hj]; rfl
      rw [this]; rfl
set_option maxHeartbeats 1000000 in
theorem read_word (w s : ByteArray) (k : Nat) (c : Int) (hw : wordI w = some k) (hk : k < 8) (hr : rowF rowsL k = .ag [.v (.string s), .v (.int .u32 c), .v .nilFunc]) : Tells Tryz.prog 225 [strsA [w]] (.tup [act (k + 1 : Nat) 0, int 1, int 0]) := by
  have hx := idxw_spec w
  rw [hw] at hx
  have ho := f26_in k hk
  rw [hr] at ho
  refine tells_of_aw Tryz.func225 rfl rfl fun nx => ?_
  ((repeat((conv=>whnf);first|apply ω0|apply ω2|refine τ3 rfl ?_|refine τ4 rfl ?_|refine ⟨rfl,?_⟩|apply τa|refine τb rfl ?_|refine ⟨⟨by kernel_rfl,by kernel_rfl⟩,?_⟩|refine ⟨by decide,?_⟩|apply τt|apply τf)); refine aw_region ?_; (repeat((conv=>whnf);first|apply ω0|apply ω2|refine τ3 rfl ?_|refine τ4 rfl ?_|refine ⟨rfl,?_⟩|apply τa|refine τb rfl ?_|refine ⟨⟨by kernel_rfl,by kernel_rfl⟩,?_⟩|refine ⟨by decide,?_⟩|apply τt|apply τf)))
  refine aw_freeze (n := 60) (nx := nx + 2) (nn := 2) (pm := []) (bx := [((1, nx + 1), .c [int 0, int 0])]) (L := [(1, .rp [strsA [w]]), (2, .bp (1, nx + 1) 0), (3, int 0), (4, int 0)]) (df := some []) [((0, nx), .c [strsA [w]])] rfl rfl rfl (List.Perm.swap _ _ _) (List.Sublist.refl _) ⟨Frz.bp (.head _) rfl, Frz.refl _, Frz.refl _, Frz.refl _, trivial⟩ ?_
  (repeat((conv=>whnf);first|apply ω0|apply ω1|apply ω2|refine τ3 rfl ?_|refine τ4 rfl ?_|refine ⟨rfl,?_⟩|apply τa|refine τb rfl ?_|refine ⟨⟨by kernel_rfl,by kernel_rfl⟩,?_⟩|refine ⟨by decide,?_⟩|apply τt|apply τf))
  refine aop_tells rfl rfl f28_spec trivial fun nx1 => ?_
  (repeat((conv=>whnf);first|apply ω0|apply ω1|apply ω2|refine τ3 rfl ?_|refine τ4 rfl ?_|refine ⟨rfl,?_⟩|apply τa|refine τb rfl ?_|refine ⟨⟨by kernel_rfl,by kernel_rfl⟩,?_⟩|refine ⟨by decide,?_⟩|apply τt|apply τf))
  refine aop_tells rfl rfl hx ⟨AVle.refl _, AVle.refl _, trivial⟩ fun nx2 => ?_
  (repeat((conv=>whnf);first|apply ω0|apply ω1|apply ω2|refine τ3 rfl ?_|refine τ4 rfl ?_|refine ⟨rfl,?_⟩|apply τa|refine τb rfl ?_|refine ⟨⟨by kernel_rfl,by kernel_rfl⟩,?_⟩|refine ⟨by decide,?_⟩|apply τt|apply τf))
  refine aop_tells rfl rfl ho ⟨le_int (by show IntKind.i64.wrap (1 + (k : Int)) = _; rw [wrap_id (by omega) (by omega)]; omega), trivial⟩ fun nx3 => ?_
  (repeat((conv=>whnf);first|apply ω0|apply ω1|apply ω2|refine τ3 rfl ?_|refine τ4 rfl ?_|refine ⟨rfl,?_⟩|apply τa|refine τb rfl ?_|refine ⟨⟨by kernel_rfl,by kernel_rfl⟩,?_⟩|refine ⟨by decide,?_⟩|apply τt|apply τf))
  exact ret_tells_all rfl ⟨rfl, trivial⟩ (AVle.tups (cs := [_, _, _]) ⟨AVle.ags (cs := [_, _]) ⟨le_int (by show IntKind.i64.wrap (1 + (k : Int)) = _; rw [wrap_id (by omega) (by omega)]; omega), AVle.refl _, trivial⟩, AVle.refl _, AVle.refl _, trivial⟩)
theorem read_kill : Tells Tryz.prog 225 [strsA [wKill]] (.tup [act 1 0, int 1, int 0]) := read_word wKill _ 0 _ (by decide +kernel) (by decide) rfl
theorem read_allow : Tells Tryz.prog 225 [strsA [wAllow]] (.tup [act 8 0, int 1, int 0]) := read_word wAllow _ 7 _ (by decide +kernel) (by decide) rfl
end Go.Proofs.W

namespace Go.Proofs.W
open Go.Vl
set_option maxRecDepth 100000

theorem pnamed_spec (s : ByteArray) (hs : s.size ≤ 9223372036854775807) : Tells Tryz.prog 146 [strA s] (boolA (nameB s.data.toList)) := by
  have key : ∀ b, nameB s.data.toList = b → Tells Tryz.prog 146 [strA s] (boolA b) := fun b hb => by
    have hr := tabRight_row1 s hs b hb
    refine tells_of_aw Tryz.func146 rfl rfl fun nx => ?_
    (repeat((conv=>whnf);first|apply ω0|apply ω1|apply ω2|refine τ3 rfl ?_|refine τ4 rfl ?_|refine ⟨rfl,?_⟩|apply τa|refine τb rfl ?_|refine ⟨⟨by kernel_rfl,by kernel_rfl⟩,?_⟩|refine ⟨by decide,?_⟩|apply τt|apply τf))
    refine aop_tells rfl rfl hr ⟨?_, trivial⟩ fun nx1 => ?_
    · refine AVle.os_sl.trans (AVle.sl_fun fun k hk => ?_)
      match k, hk with
      | 0, _ => rfl
    cases b
    · (repeat((conv=>whnf);first|apply ω0|apply ω1|apply ω2|refine τ3 rfl ?_|refine τ4 rfl ?_|refine ⟨rfl,?_⟩|apply τa|refine τb rfl ?_|refine ⟨⟨by kernel_rfl,by kernel_rfl⟩,?_⟩|refine ⟨by decide,?_⟩|apply τt|apply τf))
      exact ret_tells rfl (AVle.refl _)
    · (repeat((conv=>whnf);first|apply ω0|apply ω1|apply ω2|refine τ3 rfl ?_|refine τ4 rfl ?_|refine ⟨rfl,?_⟩|apply τa|refine τb rfl ?_|refine ⟨⟨by kernel_rfl,by kernel_rfl⟩,?_⟩|refine ⟨by decide,?_⟩|apply τt|apply τf))
      exact ret_tells rfl (AVle.refl _)
  exact key _ rfl
theorem rright1_spec (c : Cnd) : Tells Tryz.prog 147 [cndA c] (boolA (!rightC c)) := by
  have key : ∀ b, rightC c = b → Tells Tryz.prog 147 [cndA c] (boolA (!b)) := fun b hb => by
    have hr := right_spec c
    rw [hb] at hr
    refine tells_of_aw Tryz.func147 rfl rfl fun nx => ?_
    (repeat((conv=>whnf);first|apply ω0|apply ω1|apply ω2|refine τ3 rfl ?_|refine τ4 rfl ?_|refine ⟨rfl,?_⟩|apply τa|refine τb rfl ?_|refine ⟨⟨by kernel_rfl,by kernel_rfl⟩,?_⟩|refine ⟨by decide,?_⟩|apply τt|apply τf))
    refine aop_tells rfl rfl hr ⟨AVle.refl _, trivial⟩ fun nx1 => ?_
    cases b
    · (repeat((conv=>whnf);first|apply ω0|apply ω1|apply ω2|refine τ3 rfl ?_|refine τ4 rfl ?_|refine ⟨rfl,?_⟩|apply τa|refine τb rfl ?_|refine ⟨⟨by kernel_rfl,by kernel_rfl⟩,?_⟩|refine ⟨by decide,?_⟩|apply τt|apply τf))
      exact ret_tells rfl (AVle.refl _)
    · (repeat((conv=>whnf);first|apply ω0|apply ω1|apply ω2|refine τ3 rfl ?_|refine τ4 rfl ?_|refine ⟨rfl,?_⟩|apply τa|refine τb rfl ?_|refine ⟨⟨by kernel_rfl,by kernel_rfl⟩,?_⟩|refine ⟨by decide,?_⟩|apply τt|apply τf))
      exact ret_tells rfl (AVle.refl _)
  exact key _ rfl
/-- Sizes that any machine has. -/
def Rul.ok (r : Rul) : Prop := r.name.size ≤ maxLen ∧ r.conds.length ≤ maxLen ∧ ∀ c ∈ r.conds, c.ok
def rightR (r : Rul) : Bool := nameB r.name.data.toList && (right9 r.act.1 r.act.2 && (decide (r.conds.length ≤ 6) && !(r.conds.any fun c => !rightC c)))
theorem rright_spec (r : Rul) (h1 : r.name.size ≤ 9223372036854775807) : Tells Tryz.prog 101 [rulA r] (boolA (rightR r)) := by
  have hn := pnamed_spec r.name h1
  have ha := f22_spec r.act.1 r.act.2
  have hc : r.conds.length ≤ 1000000000 → Tells Tryz.prog 94 [cnds r.conds, fn0 147] (boolA (r.conds.any fun c => !rightC c)) := fun hl => cntf_cnd r.conds (fun c => !rightC c) _ hl (fun i _ => rright1_spec _)
  unfold rightR
  generalize nameB r.name.data.toList = b1 at hn ⊢
  generalize right9 r.act.1 r.act.2 = b2 at ha ⊢
  generalize (r.conds.any fun c => !rightC c) = b3 at hc ⊢
  obtain ⟨name, ⟨k, n⟩, conds⟩ := r
  dsimp only at hn ha hc ⊢
  refine tells_of_aw Tryz.func101 rfl rfl fun nx => ?_
  (repeat((conv=>whnf);first|apply ω0|apply ω1|apply ω2|refine τ3 rfl ?_|refine τ4 rfl ?_|refine ⟨rfl,?_⟩|apply τa|refine τb rfl ?_|refine ⟨⟨by kernel_rfl,by kernel_rfl⟩,?_⟩|refine ⟨by decide,?_⟩|apply τt|apply τf))
  refine aop_tells rfl rfl hn ⟨AVle.refl _, trivial⟩ fun nx1 => ?_
  cases b1
  · (repeat((conv=>whnf);first|apply ω0|apply ω1|apply ω2|refine τ3 rfl ?_|refine τ4 rfl ?_|refine ⟨rfl,?_⟩|apply τa|refine τb rfl ?_|refine ⟨⟨by kernel_rfl,by kernel_rfl⟩,?_⟩|refine ⟨by decide,?_⟩|apply τt|apply τf))
    exact ret_tells rfl (AVle.refl _)
  (repeat((conv=>whnf);first|apply ω0|apply ω1|apply ω2|refine τ3 rfl ?_|refine τ4 rfl ?_|refine ⟨rfl,?_⟩|apply τa|refine τb rfl ?_|refine ⟨⟨by kernel_rfl,by kernel_rfl⟩,?_⟩|refine ⟨by decide,?_⟩|apply τt|apply τf))
  refine aop_tells rfl rfl ha ⟨AVle.refl _, trivial⟩ fun nx2 => ?_
  cases b2
  · (repeat((conv=>whnf);first|apply ω0|apply ω1|apply ω2|refine τ3 rfl ?_|refine τ4 rfl ?_|refine ⟨rfl,?_⟩|apply τa|refine τb rfl ?_|refine ⟨⟨by kernel_rfl,by kernel_rfl⟩,?_⟩|refine ⟨by decide,?_⟩|apply τt|apply τf))
    exact ret_tells rfl (AVle.refl _)
  (repeat((conv=>whnf);first|apply ω0|apply ω1|apply ω2|refine τ3 rfl ?_|refine τ4 rfl ?_|refine ⟨rfl,?_⟩|apply τa|refine τb rfl ?_|refine ⟨⟨by kernel_rfl,by kernel_rfl⟩,?_⟩|refine ⟨by decide,?_⟩|apply τt|apply τf))
  intro c t3; cases c
  · (repeat((conv=>whnf);first|apply ω0|apply ω1|apply ω2|refine τ3 rfl ?_|refine τ4 rfl ?_|refine ⟨rfl,?_⟩|apply τa|refine τb rfl ?_|refine ⟨⟨by kernel_rfl,by kernel_rfl⟩,?_⟩|refine ⟨by decide,?_⟩|apply τt|apply τf))
    have e3 : ¬ conds.length ≤ 6 := fun h => (not_of t3 : ¬ ((conds.length : Nat) : Int) ≤ 6) (by omega)
    exact ret_tells rfl (le_bool (by show false = (true && (true && (decide (conds.length ≤ 6) && !b3))); rw [decide_eq_false e3]; rfl))
  have h3 : conds.length ≤ 6 := by have t : ((conds.length : Nat) : Int) ≤ 6 := yes_of t3; omega
  have hc := hc (show conds.length ≤ 1000000000 by omega)
  (repeat((conv=>whnf);first|apply ω0|apply ω1|apply ω2|refine τ3 rfl ?_|refine τ4 rfl ?_|refine ⟨rfl,?_⟩|apply τa|refine τb rfl ?_|refine ⟨⟨by kernel_rfl,by kernel_rfl⟩,?_⟩|refine ⟨by decide,?_⟩|apply τt|apply τf))
  refine aop_tells rfl rfl hc ⟨AVle.refl _, AVle.refl _, trivial⟩ fun nx3 => ?_
  cases b3
  · (repeat((conv=>whnf);first|apply ω0|apply ω1|apply ω2|refine τ3 rfl ?_|refine τ4 rfl ?_|refine ⟨rfl,?_⟩|apply τa|refine τb rfl ?_|refine ⟨⟨by kernel_rfl,by kernel_rfl⟩,?_⟩|refine ⟨by decide,?_⟩|apply τt|apply τf))
    exact ret_tells rfl (le_bool (by first | (show true = (true && (true && (decide (conds.length ≤ 6) && !false))); rw [decide_eq_true h3]; rfl) | (show true = (true && (decide (rules.length ≤ 500) && !false)); rw [decide_eq_true h3]; rfl)))
  · (repeat((conv=>whnf);first|apply ω0|apply ω1|apply ω2|refine τ3 rfl ?_|refine τ4 rfl ?_|refine ⟨rfl,?_⟩|apply τa|refine τb rfl ?_|refine ⟨⟨by kernel_rfl,by kernel_rfl⟩,?_⟩|refine ⟨by decide,?_⟩|apply τt|apply τf))
    exact ret_tells rfl (le_bool (by first | (show false = (true && (true && (decide (conds.length ≤ 6) && !true))); rw [decide_eq_true h3]; rfl) | (show false = (true && (decide (rules.length ≤ 500) && !true)); rw [decide_eq_true h3]; rfl)))
theorem pright1_spec (r : Rul) (h1 : r.name.size ≤ 9223372036854775807) : Tells Tryz.prog 100 [rulA r] (boolA (!rightR r)) := by
  have key : ∀ b, rightR r = b → Tells Tryz.prog 100 [rulA r] (boolA (!b)) := fun b hb => by
    have hr := rright_spec r h1
    rw [hb] at hr
    refine tells_of_aw Tryz.func100 rfl rfl fun nx => ?_
    (repeat((conv=>whnf);first|apply ω0|apply ω1|apply ω2|refine τ3 rfl ?_|refine τ4 rfl ?_|refine ⟨rfl,?_⟩|apply τa|refine τb rfl ?_|refine ⟨⟨by kernel_rfl,by kernel_rfl⟩,?_⟩|refine ⟨by decide,?_⟩|apply τt|apply τf))
    refine aop_tells rfl rfl hr ⟨AVle.refl _, trivial⟩ fun nx1 => ?_
    cases b
    · (repeat((conv=>whnf);first|apply ω0|apply ω1|apply ω2|refine τ3 rfl ?_|refine τ4 rfl ?_|refine ⟨rfl,?_⟩|apply τa|refine τb rfl ?_|refine ⟨⟨by kernel_rfl,by kernel_rfl⟩,?_⟩|refine ⟨by decide,?_⟩|apply τt|apply τf))
      exact ret_tells rfl (AVle.refl _)
    · (repeat((conv=>whnf);first|apply ω0|apply ω1|apply ω2|refine τ3 rfl ?_|refine τ4 rfl ?_|refine ⟨rfl,?_⟩|apply τa|refine τb rfl ?_|refine ⟨⟨by kernel_rfl,by kernel_rfl⟩,?_⟩|refine ⟨by decide,?_⟩|apply τt|apply τf))
      exact ret_tells rfl (AVle.refl _)
  exact key _ rfl
def rightP (p : Pol) : Bool := right9 p.dflt.1 p.dflt.2 && (decide (p.rules.length ≤ 500) && !(p.rules.any fun r => !rightR r))
def Pol.ok (p : Pol) : Prop := p.rules.length ≤ maxLen ∧ ∀ r ∈ p.rules, r.ok
theorem pright_spec (p : Pol) (hp : p.ok) : Tells Tryz.prog 51 [polA p] (boolA (rightP p)) := by
  have ha := f22_spec p.dflt.1 p.dflt.2
  have hc : p.rules.length ≤ 1000000000 → Tells Tryz.prog 99 [ruls p.rules, fn0 100] (boolA (p.rules.any fun r => !rightR r)) := fun hl => cntf_rul p.rules (fun r => !rightR r) _ hl (fun i hi => pright1_spec _ (by
    have : p.rules.getD i rul0 ∈ p.rules := by simp [List.getD, hi]
    have := (hp.2 _ this).1
    exact Nat.le_trans this (by decide)))
  unfold rightP
  generalize right9 p.dflt.1 p.dflt.2 = b2 at ha ⊢
  generalize (p.rules.any fun r => !rightR r) = b3 at hc ⊢
  clear hp
  obtain ⟨⟨k, n⟩, x, rules⟩ := p
  dsimp only at ha hc ⊢
  refine tells_of_aw Tryz.func51 rfl rfl fun nx => ?_
  (repeat((conv=>whnf);first|apply ω0|apply ω1|apply ω2|refine τ3 rfl ?_|refine τ4 rfl ?_|refine ⟨rfl,?_⟩|apply τa|refine τb rfl ?_|refine ⟨⟨by kernel_rfl,by kernel_rfl⟩,?_⟩|refine ⟨by decide,?_⟩|apply τt|apply τf))
  refine aop_tells rfl rfl ha ⟨AVle.refl _, trivial⟩ fun nx2 => ?_
  cases b2
  · (repeat((conv=>whnf);first|apply ω0|apply ω1|apply ω2|refine τ3 rfl ?_|refine τ4 rfl ?_|refine ⟨rfl,?_⟩|apply τa|refine τb rfl ?_|refine ⟨⟨by kernel_rfl,by kernel_rfl⟩,?_⟩|refine ⟨by decide,?_⟩|apply τt|apply τf))
    exact ret_tells rfl (AVle.refl _)
  (repeat((conv=>whnf);first|apply ω0|apply ω1|apply ω2|refine τ3 rfl ?_|refine τ4 rfl ?_|refine ⟨rfl,?_⟩|apply τa|refine τb rfl ?_|refine ⟨⟨by kernel_rfl,by kernel_rfl⟩,?_⟩|refine ⟨by decide,?_⟩|apply τt|apply τf))
  intro c t3; cases c
  · (repeat((conv=>whnf);first|apply ω0|apply ω1|apply ω2|refine τ3 rfl ?_|refine τ4 rfl ?_|refine ⟨rfl,?_⟩|apply τa|refine τb rfl ?_|refine ⟨⟨by kernel_rfl,by kernel_rfl⟩,?_⟩|refine ⟨by decide,?_⟩|apply τt|apply τf))
    have e3 : ¬ rules.length ≤ 500 := fun h => (not_of t3 : ¬ ((rules.length : Nat) : Int) ≤ 500) (by omega)
    exact ret_tells rfl (le_bool (by show false = (true && (decide (rules.length ≤ 500) && !b3)); rw [decide_eq_false e3]; rfl))
  have h3 : rules.length ≤ 500 := by have t : ((rules.length : Nat) : Int) ≤ 500 := yes_of t3; omega
  have hc := hc (show rules.length ≤ 1000000000 by omega)
  (repeat((conv=>whnf);first|apply ω0|apply ω1|apply ω2|refine τ3 rfl ?_|refine τ4 rfl ?_|refine ⟨rfl,?_⟩|apply τa|refine τb rfl ?_|refine ⟨⟨by kernel_rfl,by kernel_rfl⟩,?_⟩|refine ⟨by decide,?_⟩|apply τt|apply τf))
  refine aop_tells rfl rfl hc ⟨AVle.refl _, AVle.refl _, trivial⟩ fun nx3 => ?_
  cases b3
  · (repeat((conv=>whnf);first|apply ω0|apply ω1|apply ω2|refine τ3 rfl ?_|refine τ4 rfl ?_|refine ⟨rfl,?_⟩|apply τa|refine τb rfl ?_|refine ⟨⟨by kernel_rfl,by kernel_rfl⟩,?_⟩|refine ⟨by decide,?_⟩|apply τt|apply τf))
    exact ret_tells rfl (le_bool (by first | (show true = (true && (true && (decide (conds.length ≤ 6) && !false))); rw [decide_eq_true h3]; rfl) | (show true = (true && (decide (rules.length ≤ 500) && !false)); rw [decide_eq_true h3]; rfl)))
  · (repeat((conv=>whnf);first|apply ω0|apply ω1|apply ω2|refine τ3 rfl ?_|refine τ4 rfl ?_|refine ⟨rfl,?_⟩|apply τa|refine τb rfl ?_|refine ⟨⟨by kernel_rfl,by kernel_rfl⟩,?_⟩|refine ⟨by decide,?_⟩|apply τt|apply τf))
    exact ret_tells rfl (le_bool (by first | (show false = (true && (true && (decide (conds.length ≤ 6) && !true))); rw [decide_eq_true h3]; rfl) | (show false = (true && (decide (rules.length ≤ 500) && !true)); rw [decide_eq_true h3]; rfl)))
def lightR (r : Rul) : Bool := decide (r.name.size ≤ 60) && decide (r.conds.length ≤ 12)
def lightP (p : Pol) : Bool := decide (p.rules.length ≤ 40) && p.rules.all lightR
end Go.Proofs.W

namespace Go.Proofs.W
open Go.Vl
set_option maxRecDepth 100000

def rdrB (s : Nat) (a b c ru wd : AV) (n : Int) : List (Vl.Id × Own) := [((0, s), .c [a, b, c, ru, wd, int n])]
theorem need_spec (e : Int) : Tells Tryz.prog 173 [boolA true, int e] (.tup []) := by
  refine tells_of_aw Tryz.func173 rfl rfl fun nx => ?_
  (repeat((conv=>whnf);first|apply ω0|apply ω1|apply ω2|refine τ3 rfl ?_|refine τ4 rfl ?_|refine ⟨rfl,?_⟩|apply τa|refine τb rfl ?_|refine ⟨⟨by kernel_rfl,by kernel_rfl⟩,?_⟩|refine ⟨by decide,?_⟩|apply τt|apply τf))
  exact ret_tells rfl (AVle.refl _)
theorem told_spec : Tells Tryz.prog 226 [int 0] (.tup []) := by
  refine tells_of_aw Tryz.func226 rfl rfl fun nx => ?_
  (repeat((conv=>whnf);first|apply ω0|apply ω1|apply ω2|refine τ3 rfl ?_|refine τ4 rfl ?_|refine ⟨rfl,?_⟩|apply τa|refine τb rfl ?_|refine ⟨⟨by kernel_rfl,by kernel_rfl⟩,?_⟩|refine ⟨by decide,?_⟩|apply τt|apply τf))
  refine aop_tells rfl rfl (need_spec 0) ⟨AVle.refl _, AVle.refl _, trivial⟩ fun nx2 => ?_
  (repeat((conv=>whnf);first|apply ω0|apply ω1|apply ω2|refine τ3 rfl ?_|refine τ4 rfl ?_|refine ⟨rfl,?_⟩|apply τa|refine τb rfl ?_|refine ⟨⟨by kernel_rfl,by kernel_rfl⟩,?_⟩|refine ⟨by decide,?_⟩|apply τt|apply τf))
  exact ret_tells rfl (AVle.refl _)
theorem strs_tail (x : ByteArray) (l : List ByteArray) : (AV.sl 1 ((x :: l).length - Int.toNat 1) fun k => (fun k => AV.v ((List.map Value.string (x :: l)).getD k undef)) (Int.toNat 1 + k)) = strsA l := by
  unfold strsA
  rw [show (x :: l).length - Int.toNat 1 = l.length by simp]
  congr 1
  funext k
  show AV.v ((List.map Value.string (x :: l)).getD (1 + k) undef) = _
  rw [Nat.add_comm]; rfl
theorem next_spec (s : Nat) (a b c ru : AV) (w1 w2 : ByteArray) (n : Int) (nx : Nat) : ECall Tryz.prog 137 [.bp (0, s) 0] ⟨rdrB s a b c ru (strsA [w1, w2]) n, [], nx, 1⟩ fun r h' => r = strA w1 ∧ h' = ⟨rdrB s a b c ru (strsA [w2]) n, [], nx, 1⟩ := by
  refine ecall_of_aw Tryz.func137 rfl rfl ?_
  (repeat((conv=>whnf);first|apply ω0|apply ω1|apply ω2|refine τ3 rfl ?_|refine τ4 rfl ?_|refine ⟨rfl,?_⟩|apply τa|refine τb rfl ?_|refine ⟨⟨by kernel_rfl,by kernel_rfl⟩,?_⟩|refine ⟨by decide,?_⟩|apply τt|apply τf))
  refine ⟨⟨by decide, (show (0 : Int) < 2 by decide)⟩, ?_⟩
  (repeat((conv=>whnf);first|apply ω0|apply ω1|apply ω2|refine τ3 rfl ?_|refine τ4 rfl ?_|refine ⟨rfl,?_⟩|apply τa|refine τb rfl ?_|refine ⟨⟨by kernel_rfl,by kernel_rfl⟩,?_⟩|refine ⟨by decide,?_⟩|apply τt|apply τf))
  refine ⟨⟨by decide, (show (1 : Int) ≤ 2 by decide)⟩, splitO_eq (b := strsA [w2]) (strs_tail w1 [w2]) ?_⟩
  (repeat((conv=>whnf);first|apply ω0|apply ω1|apply ω2|refine τ3 rfl ?_|refine τ4 rfl ?_|refine ⟨rfl,?_⟩|apply τa|refine τb rfl ?_|refine ⟨⟨by kernel_rfl,by kernel_rfl⟩,?_⟩|refine ⟨by decide,?_⟩|apply τt|apply τf))
  exact ret_is rfl ⟨rfl, rfl⟩
theorem action_spec (s : Nat) (a b c ru : AV) (w : ByteArray) (k : Int) (n : Int) (nx : Nat) (hr : Tells Tryz.prog 225 [strsA [w]] (.tup [act k 0, int 1, int 0])) : ECall Tryz.prog 174 [.bp (0, s) 0] ⟨rdrB s a b c ru (strsA [w]) n, [], nx, 1⟩ fun r h' => r = act k 0 ∧ ∃ nx', h' = ⟨rdrB s a b c ru (strsA []) n, [], nx', 1⟩ := by
  refine ECall.wk (ecall_of_aw Tryz.func174 rfl rfl ?_)
  (repeat((conv=>whnf);first|apply ω0|apply ω1|apply ω2|refine τ3 rfl ?_|refine τ4 rfl ?_|refine ⟨rfl,?_⟩|apply τa|refine τb rfl ?_|refine ⟨⟨by kernel_rfl,by kernel_rfl⟩,?_⟩|refine ⟨by decide,?_⟩|apply τt|apply τf))
  refine aop_tells rfl rfl hr ⟨AVle.refl _, trivial⟩ fun nx2 => ?_
  (repeat((conv=>whnf);first|apply ω0|apply ω1|apply ω2|refine τ3 rfl ?_|refine τ4 rfl ?_|refine ⟨rfl,?_⟩|apply τa|refine τb rfl ?_|refine ⟨⟨by kernel_rfl,by kernel_rfl⟩,?_⟩|refine ⟨by decide,?_⟩|apply τt|apply τf))
  refine aop_tells rfl rfl told_spec ⟨AVle.refl _, trivial⟩ fun nx3 => ?_
  (repeat((conv=>whnf);first|apply ω0|apply ω1|apply ω2|refine τ3 rfl ?_|refine τ4 rfl ?_|refine ⟨rfl,?_⟩|apply τa|refine τb rfl ?_|refine ⟨⟨by kernel_rfl,by kernel_rfl⟩,?_⟩|refine ⟨by decide,?_⟩|apply τt|apply τf))
  refine ⟨⟨by decide, (show (1 : Int) ≤ 1 by decide)⟩, splitO_eq (b := strsA []) (strs_tail w []) ?_⟩
  (repeat((conv=>whnf);first|apply ω0|apply ω1|apply ω2|refine τ3 rfl ?_|refine τ4 rfl ?_|refine ⟨rfl,?_⟩|apply τa|refine τb rfl ?_|refine ⟨⟨by kernel_rfl,by kernel_rfl⟩,?_⟩|refine ⟨by decide,?_⟩|apply τt|apply τf))
  refine ret_all rfl ⟨rfl, trivial⟩ ⟨act k 0, ⟨rdrB s a b c ru (strsA []) n, [], nx3, 1⟩, AVle.refl _, ?_, rfl, nx3, rfl⟩
  exact hle_tell (rdrB s a b c ru (strsA []) n) [] rfl (.cons _ (.cons _ (List.Sublist.refl _))) (List.Sublist.refl _) (BxLe.refl _) (PmEq.refl _)
theorem first_spec (s : Nat) (a b c ru : AV) (w : ByteArray) (k : Int) (nx : Nat) (hr : Tells Tryz.prog 225 [strsA [w]] (.tup [act k 0, int 1, int 0])) : ECall Tryz.prog 138 [.bp (0, s) 0] ⟨rdrB s a b c ru (strsA [w]) 0, [], nx, 1⟩ fun r h' => r = .tup [] ∧ ∃ nx', h' = ⟨rdrB s (int k) (int 0) c ru (strsA []) 0, [], nx', 1⟩ := by
  refine ECall.wk (ecall_of_aw Tryz.func138 rfl rfl ?_)
  (repeat((conv=>whnf);first|apply ω0|apply ω1|apply ω2|refine τ3 rfl ?_|refine τ4 rfl ?_|refine ⟨rfl,?_⟩|apply τa|refine τb rfl ?_|refine ⟨⟨by kernel_rfl,by kernel_rfl⟩,?_⟩|refine ⟨by decide,?_⟩|apply τt|apply τf))
  refine aop_tells rfl rfl (need_spec 13) ⟨AVle.refl _, AVle.refl _, trivial⟩ fun nx2 => ?_
  (repeat((conv=>whnf);first|apply ω0|apply ω1|apply ω2|refine τ3 rfl ?_|refine τ4 rfl ?_|refine ⟨rfl,?_⟩|apply τa|refine τb rfl ?_|refine ⟨⟨by kernel_rfl,by kernel_rfl⟩,?_⟩|refine ⟨by decide,?_⟩|apply τt|apply τf))
  refine aop_callP (xs := [.bp (0, s) 0]) (bx1 := rdrB s a b c ru (strsA [w]) 0) (pm1 := []) [] [] 1 rfl rfl rfl rfl ⟨AVle.refl _, trivial⟩ (action_spec s a b c ru w k 0 nx2 hr) (BxLe.refl _) (PmEq.refl _) rfl fun r h' hq => ?_
  obtain ⟨rfl, nx3, rfl⟩ := hq
  (repeat((conv=>whnf);first|apply ω0|apply ω1|apply ω2|refine τ3 rfl ?_|refine τ4 rfl ?_|refine ⟨rfl,?_⟩|apply τa|refine τb rfl ?_|refine ⟨⟨by kernel_rfl,by kernel_rfl⟩,?_⟩|refine ⟨by decide,?_⟩|apply τt|apply τf))
  refine aop_tells rfl rfl (need_spec 13) ⟨AVle.refl _, AVle.refl _, trivial⟩ fun nx4 => ?_
  (repeat((conv=>whnf);first|apply ω0|apply ω1|apply ω2|refine τ3 rfl ?_|refine τ4 rfl ?_|refine ⟨rfl,?_⟩|apply τa|refine τb rfl ?_|refine ⟨⟨by kernel_rfl,by kernel_rfl⟩,?_⟩|refine ⟨by decide,?_⟩|apply τt|apply τf))
  refine ret_all rfl trivial ⟨.tup [], ⟨rdrB s (int k) (int 0) c ru (strsA []) 0, [], nx4, 1⟩, AVle.refl _, ?_, rfl, nx4, rfl⟩
  exact hle_tell (rdrB s (int k) (int 0) c ru (strsA []) 0) [] rfl (List.Sublist.refl _) (List.Sublist.refl _) (BxLe.refl _) (PmEq.refl _)
end Go.Proofs.W

namespace Go.Proofs.W
open Go.Vl
set_option maxRecDepth 100000

def nilA : AV := .os 0 0 (fun _ => .any) none
theorem bytes_rul14 : Tryz.prog.bytesOf 85 = 56 := by kernel_rfl
set_option maxHeartbeats 4000000 in
theorem rule_spec (s : Nat) (a b c : AV) (nm w : ByteArray) (k : Int) (nx : Nat) (hn : nameB nm.data.toList = true) (hs : nm.size ≤ 1000) (hr : Tells Tryz.prog 225 [strsA [w]] (.tup [act k 0, int 1, int 0])) :
    ECall Tryz.prog 141 [.bp (0, s) 0, strA nm] ⟨rdrB s a b c nilA (strsA [w]) 1, [], nx, 1⟩ fun r h' => r = .tup [] ∧ ∃ st nx', h' = ⟨rdrB s a b c (.os 4 1 (fun _ => rulA ⟨nm, (k, 0), []⟩) (some (0, st))) (strsA []) 1, [((0, st), 4)], nx', 1⟩ := by
  have hnm := pnamed_spec nm (by omega)
  rw [hn] at hnm
  refine ECall.wk (ecall_of_aw Tryz.func141 rfl rfl ?_)
  (repeat((conv=>whnf);first|apply ω0|apply ω1|apply ω2|refine τ3 rfl ?_|refine τ4 rfl ?_|refine ⟨rfl,?_⟩|apply τa|refine τb rfl ?_|refine ⟨⟨by kernel_rfl,by kernel_rfl⟩,?_⟩|refine ⟨by decide,?_⟩|apply τt|apply τf))
  refine aop_tells rfl rfl hnm ⟨AVle.refl _, trivial⟩ fun nx2 => ?_
  (repeat((conv=>whnf);first|apply ω0|apply ω1|apply ω2|refine τ3 rfl ?_|refine τ4 rfl ?_|refine ⟨rfl,?_⟩|apply τa|refine τb rfl ?_|refine ⟨⟨by kernel_rfl,by kernel_rfl⟩,?_⟩|refine ⟨by decide,?_⟩|apply τt|apply τf))
  refine aop_tells rfl rfl (need_spec 13) ⟨AVle.refl _, AVle.refl _, trivial⟩ fun nx3 => ?_
  (repeat((conv=>whnf);first|apply ω0|apply ω1|apply ω2|refine τ3 rfl ?_|refine τ4 rfl ?_|refine ⟨rfl,?_⟩|apply τa|refine τb rfl ?_|refine ⟨⟨by kernel_rfl,by kernel_rfl⟩,?_⟩|refine ⟨by decide,?_⟩|apply τt|apply τf))
  refine aop_tells rfl rfl (need_spec 3) ⟨AVle.refl _, AVle.refl _, trivial⟩ fun nx4 => ?_
  (repeat((conv=>whnf);first|apply ω0|apply ω1|apply ω2|refine τ3 rfl ?_|refine τ4 rfl ?_|refine ⟨rfl,?_⟩|apply τa|refine τb rfl ?_|refine ⟨⟨by kernel_rfl,by kernel_rfl⟩,?_⟩|refine ⟨by decide,?_⟩|apply τt|apply τf))
  refine aop_callP (xs := [.bp (0, s) 0]) (bx1 := rdrB s a b c nilA (strsA [w]) 1) (pm1 := []) [] [] 1 rfl rfl rfl rfl ⟨AVle.refl _, trivial⟩ (action_spec s a b c nilA w k 1 nx4 hr) (BxLe.refl _) (PmEq.refl _) rfl fun r h' hq => ?_
  obtain ⟨rfl, nx5, rfl⟩ := hq
  (repeat((conv=>whnf);first|apply ω0|apply ω1|apply ω2|refine τ3 rfl ?_|refine τ4 rfl ?_|refine ⟨rfl,?_⟩|apply τa|refine τb rfl ?_|refine ⟨⟨by kernel_rfl,by kernel_rfl⟩,?_⟩|refine ⟨by decide,?_⟩|apply τt|apply τf))
  refine aw_loop (fun y : Nat => mk 67 [(0, .bp (0, s) 0), (1, strA nm), (4, .bp (1, nx5) 0)] ⟨((1, nx5), .c [strA nm, int k, int 0, cnds []]) :: rdrB s a b c nilA (strsA []) 1, [], y, 2⟩) (fun _ => True) (fun _ => 0) ?_ ?_
  · exact ⟨nx5 + 1, trivial, ele_tell (pm := []) (bx := ((1, nx5), .c [strA nm, int k, int 0, cnds []]) :: rdrB s a b c nilA (strsA []) 1) _ _ rfl rfl (List.Sublist.refl _) (List.Sublist.refl _) ⟨rfl, ⟨AVle.refl _, AVle.refl _, AVle.refl _, AVle.os_sl0, trivial⟩, BxLe.refl _⟩ trivial ⟨AVle.refl _, AVle.refl _, AVle.refl _, trivial⟩⟩
  · rintro nx6 -
    (repeat((conv=>whnf);first|apply ω0|apply ω1|apply ω2|refine τ3 rfl ?_|refine τ4 rfl ?_|refine ⟨rfl,?_⟩|apply τa|refine τb rfl ?_|refine ⟨⟨by kernel_rfl,by kernel_rfl⟩,?_⟩|refine ⟨by decide,?_⟩|apply τt|apply τf))
    refine aw_mixN 9 (((1, nx5), .c [strA nm, int k, int 0, cnds []]) :: rdrB s a b c nilA (strsA []) 1) (fun i => match i with | 8 => true | _ => false) (fun _ => false) [0, 1, 2, 3, 4, 5, 6, 7, 8] (by kernel_rfl) (by kernel_rfl) (HB.refl _) ?_
    (repeat((conv=>whnf);first|apply ω0|apply ω1|apply ω2|refine τ3 rfl ?_|refine τ4 rfl ?_|refine ⟨rfl,?_⟩|apply τa|refine τb rfl ?_|refine ⟨⟨by kernel_rfl,by kernel_rfl⟩,?_⟩|refine ⟨by decide,?_⟩|apply τt|apply τf))
    refine ⟨_, eff_append1 (e := 85) (c := 4) (pm := []) (n := 0) (oi := none) (sz := 0) (f := fun _ => .any) (HB.refl _) rfl rfl rfl (.inr ⟨_, rfl⟩) (by kernel_rfl) (by kernel_rfl) (by kernel_rfl) (.inl ⟨rfl, rfl⟩) (by kernel_rfl) rfl (oneRow_one rfl) (by rw [bytes_rul14]; decide) (by decide), fun r h' hr => ?_⟩
    obtain ⟨rfl, rfl⟩ := hr
    (repeat((conv=>whnf);first|apply ω0|apply ω1|apply ω2|refine τ3 rfl ?_|refine τ4 rfl ?_|refine ⟨rfl,?_⟩|apply τa|refine τb rfl ?_|refine ⟨⟨by kernel_rfl,by kernel_rfl⟩,?_⟩|refine ⟨by decide,?_⟩|apply τt|apply τf))
    refine ret_all rfl trivial ⟨.tup [], ⟨rdrB s a b c (.os 4 1 (fun _ => rulA ⟨nm, (k, 0), []⟩) (some (0, nx6))) (strsA []) 1, [((0, nx6), 4)], nx6 + 1, 1⟩, AVle.refl _, ?_, rfl, nx6, nx6 + 1, rfl⟩
    exact hle_tell (rdrB s a b c (.os 4 1 (appF 0 (fun _ => .any) _) (some (2, nx6))) (strsA []) 1) [((2, nx6), 4)] rfl (.cons _ (List.Sublist.refl _)) (List.Sublist.refl _) ⟨rfl, ⟨AVle.refl _, AVle.refl _, AVle.refl _, (AVle.os_fun (fun i hi => by obtain rfl : i = 0 := Nat.lt_one_iff.1 hi; rfl)).trans (AVle.os_nm rfl), AVle.refl _, AVle.refl _, trivial⟩, trivial⟩ ⟨rfl, rfl, trivial⟩
end Go.Proofs.W

namespace Go.Proofs.W
open Go.Vl
set_option maxRecDepth 100000

def rdrB1 (s : Nat) (a b c ru wd : AV) (n : Int) : List (Vl.Id × Own) := [((1, s), .c [a, b, c, ru, wd, int n])]
theorem forceM_eq {l l' : List (Value × AV)} {K : List (Value × AV) → Prop} (h : l = l') (hk : forceM l' K) : forceM l K := h ▸ hk
def doF (s : Nat) : AV := .fn (.func 138) [.bp (0, s) 0] []
def doX (s : Nat) : AV := .fn (.func 139) [.bp (0, s) 0] []
def doM (s : Nat) : List (Value × AV) := [(.string wDefault, doF s), (.string ⟨#[120, 51, 50]⟩, doX s)]
theorem catch0 (x : AV) (h : Heap) : DCall Tryz.prog 136 [x] .returning h fun u h' => u = .returning ∧ h' = h := by
  refine dcall_recover Tryz.func136 rfl rfl rfl rfl rfl rfl ?_
  (repeat((conv=>whnf);first|apply ω0|apply ω1|apply ω2|refine τ3 rfl ?_|refine τ4 rfl ?_|refine ⟨rfl,?_⟩|apply τa|refine τb rfl ?_|refine ⟨⟨by kernel_rfl,by kernel_rfl⟩,?_⟩|refine ⟨by decide,?_⟩|apply τt|apply τf))
  refine aop_niliface rfl (.inr rfl) rfl rfl ?_
  (repeat((conv=>whnf);first|apply ω0|apply ω1|apply ω2|refine τ3 rfl ?_|refine τ4 rfl ?_|refine ⟨rfl,?_⟩|apply τa|refine τb rfl ?_|refine ⟨⟨by kernel_rfl,by kernel_rfl⟩,?_⟩|refine ⟨by decide,?_⟩|apply τt|apply τf))
  exact ret_is rfl ⟨rfl, rfl⟩
def outerB (s s1 s2 s3 s4 : Nat) (nm : ByteArray) : List (Vl.Id × Own) := [((4, s4), .mp (doM s)), ((3, s3), .c [strA nm]), ((2, s2), .c [int 0]), ((1, s1), .c [.bp (0, s) 0])]
theorem line2_spec (s s1 s2 s3 s4 nx : Nat) (a b c : AV) (nm w : ByteArray) (k : Int) (hn : nameB nm.data.toList = true) (hs : nm.size ≤ 1000) (hr : Tells Tryz.prog 225 [strsA [w]] (.tup [act k 0, int 1, int 0])) :
    ECall Tryz.prog 140 [.bp (1, s1) 0, .bp (3, s3) 0] ⟨outerB s s1 s2 s3 s4 nm ++ rdrB s a b c nilA (strsA [w]) 1, [], nx, 5⟩ fun r h' => r = .tup [] ∧ ∃ st nx', h' = ⟨outerB s s1 s2 s3 s4 nm ++ rdrB s a b c (.os 4 1 (fun _ => rulA ⟨nm, (k, 0), []⟩) (some (0, st))) (strsA []) 1, [((0, st), 4)], nx', 5⟩ := by
  refine ecall_of_aw Tryz.func140 rfl rfl ?_
  (repeat((conv=>whnf);first|apply ω0|apply ω1|apply ω2|refine τ3 rfl ?_|refine τ4 rfl ?_|refine ⟨rfl,?_⟩|apply τa|refine τb rfl ?_|refine ⟨⟨by kernel_rfl,by kernel_rfl⟩,?_⟩|refine ⟨by decide,?_⟩|apply τt|apply τf))
  refine aop_callF (xs := [.bp (0, s) 0, strA nm]) (bx1 := rdrB s a b c nilA (strsA [w]) 1) (pm1 := []) (outerB s s1 s2 s3 s4 nm) [] 5 rfl rfl rfl rfl ⟨AVle.refl _, AVle.refl _, trivial⟩ (rule_spec s a b c nm w k nx hn hs hr) (BxLe.refl _) (PmEq.refl _) rfl fun r h' hq => ?_
  obtain ⟨rfl, st, nx2, rfl⟩ := hq
  (repeat((conv=>whnf);first|apply ω0|apply ω1|apply ω2|refine τ3 rfl ?_|refine τ4 rfl ?_|refine ⟨rfl,?_⟩|apply τa|refine τb rfl ?_|refine ⟨⟨by kernel_rfl,by kernel_rfl⟩,?_⟩|refine ⟨by decide,?_⟩|apply τt|apply τf))
  exact ret_is rfl ⟨rfl, st, nx2, rfl⟩
set_option maxHeartbeats 4000000 in
theorem line_first (s : Nat) (nx : Nat) : ECall Tryz.prog 90 [.bp (0, s) 0, strsA [wDefault, wKill]] ⟨rdrB s (int 0) (int 0) (boolA false) nilA nilA 0, [], nx, 1⟩ fun r h' => r = int 0 ∧ ∃ nx', h' = ⟨rdrB1 s (int 1) (int 0) (boolA false) nilA (strsA []) 1, [], nx', 1⟩ := by
  refine ECall.wk (ecall_of_aw Tryz.func90 rfl rfl ?_)
  (repeat((conv=>whnf);first|apply ω0|apply ω1|apply ω2|refine τ3 rfl ?_|refine τ4 rfl ?_|refine ⟨rfl,?_⟩|apply τa|refine τb rfl ?_|refine ⟨⟨by kernel_rfl,by kernel_rfl⟩,?_⟩|refine ⟨by decide,?_⟩|apply τt|apply τf))
  refine aop_defer rfl rfl rfl ?_
  (repeat((conv=>whnf);first|apply ω0|apply ω1|apply ω2|refine τ3 rfl ?_|refine τ4 rfl ?_|refine ⟨rfl,?_⟩|apply τa|refine τb rfl ?_|refine ⟨⟨by kernel_rfl,by kernel_rfl⟩,?_⟩|refine ⟨by decide,?_⟩|apply τt|apply τf))
  refine aop_callF (xs := [.bp (0, s) 0]) (bx1 := rdrB s (int 0) (int 0) (boolA false) nilA (strsA [wDefault, wKill]) 0) (pm1 := []) [((2, nx + 1), .c [int 0]), ((1, nx), .c [.bp (0, s) 0])] [] 3 rfl rfl rfl rfl ⟨AVle.refl _, trivial⟩ (next_spec s (int 0) (int 0) (boolA false) nilA wDefault wKill 0 (nx + 2)) (BxLe.refl _) (PmEq.refl _) rfl fun r h' hq => ?_
  obtain ⟨rfl, rfl⟩ := hq
  (repeat((conv=>whnf);first|apply ω0|apply ω1|apply ω2|refine τ3 rfl ?_|refine τ4 rfl ?_|refine ⟨rfl,?_⟩|apply τa|refine τb rfl ?_|refine ⟨⟨by kernel_rfl,by kernel_rfl⟩,?_⟩|refine ⟨by decide,?_⟩|apply τt|apply τf))
  refine forceM_eq (l' := doM s) (by kernel_rfl) ?_
  (repeat((conv=>whnf);first|apply ω0|apply ω1|apply ω2|refine τ3 rfl ?_|refine τ4 rfl ?_|refine ⟨rfl,?_⟩|apply τa|refine τb rfl ?_|refine ⟨⟨by kernel_rfl,by kernel_rfl⟩,?_⟩|refine ⟨by decide,?_⟩|apply τt|apply τf))
  refine splitO_eq (b := .fn (.func 138) [.bp (0, s) 0] []) (by kernel_rfl) ?_
  (repeat((conv=>whnf);first|apply ω0|apply ω1|apply ω2|refine τ3 rfl ?_|refine τ4 rfl ?_|refine ⟨rfl,?_⟩|apply τa|refine τb rfl ?_|refine ⟨⟨by kernel_rfl,by kernel_rfl⟩,?_⟩|refine ⟨by decide,?_⟩|apply τt|apply τf))
  refine aop_callF (xs := [.bp (0, s) 0]) (bx1 := rdrB s (int 0) (int 0) (boolA false) nilA (strsA [wKill]) 0) (pm1 := []) [((4, nx + 3), .mp (doM s)), ((3, nx + 2), .c [strA wDefault]), ((2, nx + 1), .c [int 0]), ((1, nx), .c [.bp (0, s) 0])] [] 5 rfl rfl rfl rfl ⟨AVle.refl _, trivial⟩ (first_spec s (int 0) (int 0) (boolA false) nilA wKill 1 (nx + 4) read_kill) (BxLe.refl _) (PmEq.refl _) rfl fun r h' hq => ?_
  obtain ⟨rfl, nx2, rfl⟩ := hq
  (repeat((conv=>whnf);first|apply ω0|apply ω1|apply ω2|refine τ3 rfl ?_|refine τ4 rfl ?_|refine ⟨rfl,?_⟩|apply τa|refine τb rfl ?_|refine ⟨⟨by kernel_rfl,by kernel_rfl⟩,?_⟩|refine ⟨by decide,?_⟩|apply τt|apply τf))
  refine DCall.mono (catch0 _ _) fun u h' hq => ?_
  obtain ⟨rfl, rfl⟩ := hq
  refine ret_all rfl ⟨⟨rfl, Nat.zero_lt_one⟩, trivial⟩ ⟨int 0, ⟨rdrB1 s (int 1) (int 0) (boolA false) nilA (strsA []) 1, [], nx2, 1⟩, AVle.refl _, ?_, rfl, nx2, rfl⟩
  exact hle_tell (rdrB s (int 1) (int 0) (boolA false) nilA (strsA []) 1) [] rfl (.cons _ (.cons _ (.cons _ (.cons _ (List.Sublist.refl _))))) (List.Sublist.refl _) ⟨rfl, OwnLe.refl _, trivial⟩ (PmEq.refl _)
set_option maxHeartbeats 4000000 in
theorem line_rule (s : Nat) (nx : Nat) : ECall Tryz.prog 90 [.bp (0, s) 0, strsA [wRead, wAllow]] ⟨rdrB s (int 1) (int 0) (boolA false) nilA (strsA []) 1, [], nx, 1⟩ fun r h' => r = int 0 ∧ ∃ st nx', h' = ⟨rdrB1 s (int 1) (int 0) (boolA false) (.os 4 1 (fun _ => rulA ⟨wRead, (8, 0), []⟩) (some (0, st))) (strsA []) 2, [((0, st), 4)], nx', 1⟩ := by
  refine ECall.wk (ecall_of_aw Tryz.func90 rfl rfl ?_)
  (repeat((conv=>whnf);first|apply ω0|apply ω1|apply ω2|refine τ3 rfl ?_|refine τ4 rfl ?_|refine ⟨rfl,?_⟩|apply τa|refine τb rfl ?_|refine ⟨⟨by kernel_rfl,by kernel_rfl⟩,?_⟩|refine ⟨by decide,?_⟩|apply τt|apply τf))
  refine aop_defer rfl rfl rfl ?_
  (repeat((conv=>whnf);first|apply ω0|apply ω1|apply ω2|refine τ3 rfl ?_|refine τ4 rfl ?_|refine ⟨rfl,?_⟩|apply τa|refine τb rfl ?_|refine ⟨⟨by kernel_rfl,by kernel_rfl⟩,?_⟩|refine ⟨by decide,?_⟩|apply τt|apply τf))
  refine aop_callF (xs := [.bp (0, s) 0]) (bx1 := rdrB s (int 1) (int 0) (boolA false) nilA (strsA [wRead, wAllow]) 1) (pm1 := []) [((2, nx + 1), .c [int 0]), ((1, nx), .c [.bp (0, s) 0])] [] 3 rfl rfl rfl rfl ⟨AVle.refl _, trivial⟩ (next_spec s (int 1) (int 0) (boolA false) nilA wRead wAllow 1 (nx + 2)) (BxLe.refl _) (PmEq.refl _) rfl fun r h' hq => ?_
  obtain ⟨rfl, rfl⟩ := hq
  (repeat((conv=>whnf);first|apply ω0|apply ω1|apply ω2|refine τ3 rfl ?_|refine τ4 rfl ?_|refine ⟨rfl,?_⟩|apply τa|refine τb rfl ?_|refine ⟨⟨by kernel_rfl,by kernel_rfl⟩,?_⟩|refine ⟨by decide,?_⟩|apply τt|apply τf))
  refine forceM_eq (l' := doM s) (by kernel_rfl) ?_
  (repeat((conv=>whnf);first|apply ω0|apply ω1|apply ω2|refine τ3 rfl ?_|refine τ4 rfl ?_|refine ⟨rfl,?_⟩|apply τa|refine τb rfl ?_|refine ⟨⟨by kernel_rfl,by kernel_rfl⟩,?_⟩|refine ⟨by decide,?_⟩|apply τt|apply τf))
  refine splitO_eq (b := .v .nilFunc) (by kernel_rfl) ?_
  (repeat((conv=>whnf);first|apply ω0|apply ω1|apply ω2|refine τ3 rfl ?_|refine τ4 rfl ?_|refine ⟨rfl,?_⟩|apply τa|refine τb rfl ?_|refine ⟨⟨by kernel_rfl,by kernel_rfl⟩,?_⟩|refine ⟨by decide,?_⟩|apply τt|apply τf))
  refine aop_callF (xs := [.bp (1, nx) 0, .bp (3, nx + 2) 0]) (bx1 := outerB s nx (nx + 1) (nx + 2) (nx + 3) wRead ++ rdrB s (int 1) (int 0) (boolA false) nilA (strsA [wAllow]) 1) (pm1 := []) [] [] 5 rfl rfl rfl rfl ⟨AVle.refl _, AVle.refl _, trivial⟩ (line2_spec s nx (nx + 1) (nx + 2) (nx + 3) (nx + 4) (int 1) (int 0) (boolA false) wRead wAllow 8 (by decide +kernel) (by decide) read_allow) (BxLe.refl _) (PmEq.refl _) rfl fun r h' hq => ?_
  obtain ⟨rfl, st, nx2, rfl⟩ := hq
  (repeat((conv=>whnf);first|apply ω0|apply ω1|apply ω2|refine τ3 rfl ?_|refine τ4 rfl ?_|refine ⟨rfl,?_⟩|apply τa|refine τb rfl ?_|refine ⟨⟨by kernel_rfl,by kernel_rfl⟩,?_⟩|refine ⟨by decide,?_⟩|apply τt|apply τf))
  refine DCall.mono (catch0 _ _) fun u h' hq => ?_
  obtain ⟨rfl, rfl⟩ := hq
  refine ret_all rfl ⟨⟨rfl, Nat.zero_lt_one⟩, trivial⟩ ⟨int 0, ⟨rdrB1 s (int 1) (int 0) (boolA false) (.os 4 1 (fun _ => rulA ⟨wRead, (8, 0), []⟩) (some (0, st))) (strsA []) 2, [((0, st), 4)], nx2, 1⟩, AVle.refl _, ?_, rfl, st, nx2, rfl⟩
  exact hle_tell (rdrB s (int 1) (int 0) (boolA false) (.os 4 1 (fun _ => rulA ⟨wRead, (8, 0), []⟩) (some (0, st))) (strsA []) 2) [((0, st), 4)] rfl (.cons _ (.cons _ (.cons _ (.cons _ (List.Sublist.refl _))))) (List.Sublist.refl _) ⟨rfl, OwnLe.refl _, trivial⟩ (PmEq.refl _)
end Go.Proofs.W

namespace Go.Proofs.W
open Go.Vl
set_option maxRecDepth 100000

def pAw : Pol := ⟨(1, 0), false, [⟨wRead, (8, 0), []⟩]⟩
def LL : List (Nat × List ByteArray) := [(1, [wDefault, wKill]), (2, [wRead, wAllow])]
theorem outLL : outL [(lineA, 1), (lineB, 2)] = LL := by
  show [(1, fieldsL lineA), (2, fieldsL lineB)] = _
  rw [fieldsA, fieldsB]; rfl
/-- The reader behind so many lines. -/
def rdrC (k st : Nat) : List AV := match k with
  | 0 => [int 0, int 0, boolA false, nilA, nilA, int 0]
  | 1 => [int 1, int 0, boolA false, nilA, strsA [], int 1]
  | _ => [int 1, int 0, boolA false, .os 4 1 (fun _ => rulA ⟨wRead, (8, 0), []⟩) (some (0, st)), strsA [], int 2]
def rdrP (k st : Nat) : List (Vl.Id × Nat) := match k with
  | 2 => [((0, st), 4)]
  | _ => []
set_option maxHeartbeats 4000000 in
theorem parse_spec : Tells Tryz.prog 42 [strA textAB] (.tup [polA pAw, int 0, int 0]) := by
  have hl := lexlines_spec
  rw [outLL] at hl
  refine tells_of_aw Tryz.func42 rfl rfl fun nx => ?_
  (repeat((conv=>whnf);first|apply ω0|apply ω1|apply ω2|refine τ3 rfl ?_|refine τ4 rfl ?_|refine ⟨rfl,?_⟩|apply τa|refine τb rfl ?_|refine ⟨⟨by kernel_rfl,by kernel_rfl⟩,?_⟩|refine ⟨by decide,?_⟩|apply τt|apply τf))
  refine aop_tells rfl rfl hl ⟨AVle.refl _, trivial⟩ fun nx2 => ?_
  (repeat((conv=>whnf);first|apply ω0|apply ω1|apply ω2|refine τ3 rfl ?_|refine τ4 rfl ?_|refine ⟨rfl,?_⟩|apply τa|refine τb rfl ?_|refine ⟨⟨by kernel_rfl,by kernel_rfl⟩,?_⟩|refine ⟨by decide,?_⟩|apply τt|apply τf))
  refine aw_loop (fun y : Nat × Nat × Nat => mk 52 [(2, .bp (0, nx) 0), (3, int 0), (4, int 0), (8, .bp (1, nx2) 0), (31, linesA LL), (32, int 2), (33, int y.1)] ⟨[((1, nx2), .c (rdrC y.1 y.2.1)), ((0, nx), .c [int 0, int 0, boolA false, nilA])], rdrP y.1 y.2.1, y.2.2, 2⟩) (fun y => y.1 ≤ 2) (fun y => 2 - y.1) ?_ ?_
  · exact ⟨(0, 0, nx2 + 1), Nat.zero_le _, ele_tell (pm := []) (bx := [((1, nx2), .c (rdrC 0 0)), ((0, nx), .c [int 0, int 0, boolA false, nilA])]) _ _ rfl rfl (List.Sublist.refl _) (List.Sublist.refl _) (BxLe.refl _) trivial ⟨AVle.refl _, AVle.refl _, AVle.refl _, AVle.refl _, AVle.refl _, AVle.refl _, AVle.refl _, trivial⟩⟩
  · rintro ⟨k, st, nx3⟩ h1
    dsimp only at h1
    obtain rfl | rfl | rfl : k = 0 ∨ k = 1 ∨ k = 2 := by omega
    · (repeat((conv=>whnf);first|apply ω0|apply ω1|apply ω2|refine τ3 rfl ?_|refine τ4 rfl ?_|refine ⟨rfl,?_⟩|apply τa|refine τb rfl ?_|refine ⟨⟨by kernel_rfl,by kernel_rfl⟩,?_⟩|refine ⟨by decide,?_⟩|apply τt|apply τf))
      refine ⟨⟨(by decide : (0 : Int) ≤ 0), (by decide : (0 : Int) < 2)⟩, splitO_eq (b := .rp [int 1, strsA [wDefault, wKill]]) rfl ?_⟩
      (repeat((conv=>whnf);first|apply ω0|apply ω1|apply ω2|refine τ3 rfl ?_|refine τ4 rfl ?_|refine ⟨rfl,?_⟩|apply τa|refine τb rfl ?_|refine ⟨⟨by kernel_rfl,by kernel_rfl⟩,?_⟩|refine ⟨by decide,?_⟩|apply τt|apply τf))
      refine aop_callM (xs := [.bp (0, nx2) 0, strsA [wDefault, wKill]]) (bx1 := [((1, nx2), .c (rdrC 0 st))]) (pm1 := []) [((2, nx3), .c [int 1, strsA [wDefault, wKill]])] [((0, nx), .c [int 0, int 0, boolA false, nilA])] [] 3 rfl rfl rfl rfl ⟨AVle.bp_nm rfl, AVle.refl _, trivial⟩ (line_first nx2 (nx3 + 1)) ⟨rfl, OwnLe.refl _, trivial⟩ (PmEq.refl _) rfl fun r h' hq => ?_
      obtain ⟨rfl, nx4, rfl⟩ := hq
      (repeat((conv=>whnf);first|apply ω0|apply ω1|apply ω2|refine τ3 rfl ?_|refine τ4 rfl ?_|refine ⟨rfl,?_⟩|apply τa|refine τb rfl ?_|refine ⟨⟨by kernel_rfl,by kernel_rfl⟩,?_⟩|refine ⟨by decide,?_⟩|apply τt|apply τf))
      exact back (1, 0, nx4) (by dsimp only; omega) (by dsimp only; omega) (ele_tell (pm := rdrP 1 0) (bx := [((1, nx2), .c (rdrC 1 0)), ((0, nx), .c [int 0, int 0, boolA false, nilA])]) _ _ rfl rfl (.cons _ (List.Sublist.refl _)) (List.Sublist.refl _) (BxLe.refl _) (PmEq.refl _) ⟨AVle.refl _, AVle.refl _, AVle.refl _, AVle.refl _, AVle.refl _, AVle.refl _, AVle.refl _, trivial⟩)
    · (repeat((conv=>whnf);first|apply ω0|apply ω1|apply ω2|refine τ3 rfl ?_|refine τ4 rfl ?_|refine ⟨rfl,?_⟩|apply τa|refine τb rfl ?_|refine ⟨⟨by kernel_rfl,by kernel_rfl⟩,?_⟩|refine ⟨by decide,?_⟩|apply τt|apply τf))
      refine ⟨⟨(by decide : (0 : Int) ≤ 1), (by decide : (1 : Int) < 2)⟩, splitO_eq (b := .rp [int 2, strsA [wRead, wAllow]]) rfl ?_⟩
      (repeat((conv=>whnf);first|apply ω0|apply ω1|apply ω2|refine τ3 rfl ?_|refine τ4 rfl ?_|refine ⟨rfl,?_⟩|apply τa|refine τb rfl ?_|refine ⟨⟨by kernel_rfl,by kernel_rfl⟩,?_⟩|refine ⟨by decide,?_⟩|apply τt|apply τf))
      refine aop_callM (xs := [.bp (0, nx2) 0, strsA [wRead, wAllow]]) (bx1 := [((1, nx2), .c (rdrC 1 st))]) (pm1 := []) [((2, nx3), .c [int 2, strsA [wRead, wAllow]])] [((0, nx), .c [int 0, int 0, boolA false, nilA])] [] 3 rfl rfl rfl rfl ⟨AVle.bp_nm rfl, AVle.refl _, trivial⟩ (line_rule nx2 (nx3 + 1)) ⟨rfl, OwnLe.refl _, trivial⟩ (PmEq.refl _) rfl fun r h' hq => ?_
      obtain ⟨rfl, st', nx4, rfl⟩ := hq
      (repeat((conv=>whnf);first|apply ω0|apply ω1|apply ω2|refine τ3 rfl ?_|refine τ4 rfl ?_|refine ⟨rfl,?_⟩|apply τa|refine τb rfl ?_|refine ⟨⟨by kernel_rfl,by kernel_rfl⟩,?_⟩|refine ⟨by decide,?_⟩|apply τt|apply τf))
      exact back (2, st', nx4) (by dsimp only; omega) (by dsimp only; omega) (ele_tell (pm := rdrP 2 st') (bx := [((1, nx2), .c (rdrC 2 st')), ((0, nx), .c [int 0, int 0, boolA false, nilA])]) _ _ rfl rfl (.cons _ (List.Sublist.refl _)) (List.Sublist.refl _) (BxLe.refl _) (PmEq.refl _) ⟨AVle.refl _, AVle.refl _, AVle.refl _, AVle.refl _, AVle.refl _, AVle.refl _, AVle.refl _, trivial⟩)
    · (repeat((conv=>whnf);first|apply ω0|apply ω1|apply ω2|refine τ3 rfl ?_|refine τ4 rfl ?_|refine ⟨rfl,?_⟩|apply τa|refine τb rfl ?_|refine ⟨⟨by kernel_rfl,by kernel_rfl⟩,?_⟩|refine ⟨by decide,?_⟩|apply τt|apply τf))
      exact ret_tells_all rfl ⟨rfl, trivial⟩ (AVle.tups (cs := [_, _, _]) ⟨AVle.ags (cs := [_, _, _, _]) ⟨AVle.refl _, AVle.refl _, AVle.refl _, (AVle.os_fun (fun i hi => by obtain rfl : i = 0 := Nat.lt_one_iff.1 hi; rfl)).trans AVle.os_sl, trivial⟩, AVle.refl _, AVle.refl _, trivial⟩)
end Go.Proofs.W

namespace Go.Proofs.W
open Go.Vl
set_option maxRecDepth 100000

end Go.Proofs.W

namespace Go.Proofs.W
open Go.Vl
set_option maxRecDepth 100000

structure Ct where
  name : ByteArray
  many : Nat
deriving DecidableEq
end Go.Proofs.W

namespace Go.Proofs.W
open Go.Vl
set_option maxRecDepth 100000

end Go.Proofs.W

namespace Go.Proofs.W
open Go.Vl
set_option maxRecDepth 100000

end Go.Proofs.W

namespace Go.Proofs.W
open Go.Vl
set_option maxRecDepth 100000

theorem le_u32' {a b : Int} (h : a = b) : AVle (.v (.int .u32 a)) (u32 b) := h ▸ AVle.refl _
theorem code_spec9 (k n : Nat) (hk : k < 8) (hn : n ≤ km k) : Tells Tryz.prog 52 [act (k + 1 : Nat) n] (.tup [u32 (kb k + n : Nat), int 0]) := by
  obtain ⟨s, m, hr1, hr2⟩ := row_kb k hk
  obtain ⟨s', c', m', h3, h4, _⟩ := row_most k hk
  have hm : m = m' := by
    rw [hr1] at h3
    have := AV.ag.inj h3
    simp at this
    exact this.2.2
  rw [← hm] at h4
  clear h3
  have hle := kb_le hk
  have ho := f26_in k hk
  rw [hr1] at ho
  have hR := f22_spec ((k + 1 : Nat) : Int) (n : Int)
  have hkm : ((km k : Nat) : Int) = most9 ((k + 1 : Nat) : Int) := by
    clear hr1 hr2 h4 hle ho hR hn
    rcases k with _ | _ | _ | _ | _ | _ | _ | _ | k
    all_goals first | decide | omega
  rw [show right9 ((k + 1 : Nat) : Int) (n : Int) = true by unfold right9; rw [← hkm]; simp; omega] at hR
  have e1 : IntKind.u32.wrap (n : Int) = (n : Int) := by simp [IntKind.wrap, IntKind.signed, IntKind.bits]; omega
  have e2 : IntKind.u32.wrap ((kb k : Int) + (n : Int)) = ((kb k + n : Nat) : Int) := by
    rw [show (kb k : Int) + (n : Int) = ((kb k + n : Nat) : Int) by omega]
    simp [IntKind.wrap, IntKind.signed, IntKind.bits]; omega
  rcases h4 with rfl | ⟨n', rfl⟩
  all_goals
    refine tells_of_aw Tryz.func52 rfl rfl fun nx => ?_
    (repeat((conv=>whnf);first|apply ω0|apply ω1|apply ω2|refine τ3 rfl ?_|refine τ4 rfl ?_|refine ⟨rfl,?_⟩|apply τa|refine τb rfl ?_|refine ⟨⟨by kernel_rfl,by kernel_rfl⟩,?_⟩|refine ⟨by decide,?_⟩|apply τt|apply τf))
    refine aop_tells rfl rfl hR ⟨AVle.refl _, trivial⟩ fun nx1 => ?_
    (repeat((conv=>whnf);first|apply ω0|apply ω1|apply ω2|refine τ3 rfl ?_|refine τ4 rfl ?_|refine ⟨rfl,?_⟩|apply τa|refine τb rfl ?_|refine ⟨⟨by kernel_rfl,by kernel_rfl⟩,?_⟩|refine ⟨by decide,?_⟩|apply τt|apply τf))
    refine aop_tells rfl rfl ho ⟨AVle.refl _, trivial⟩ fun nx2 => ?_
    (repeat((conv=>whnf);first|apply ω0|apply ω1|apply ω2|refine τ3 rfl ?_|refine τ4 rfl ?_|refine ⟨rfl,?_⟩|apply τa|refine τb rfl ?_|refine ⟨⟨by kernel_rfl,by kernel_rfl⟩,?_⟩|refine ⟨by decide,?_⟩|apply τt|apply τf))
    refine ret_tells rfl (AVle.tups ⟨le_u32' ?_, AVle.refl _, trivial⟩)
    show IntKind.u32.wrap ((kb k : Int) + IntKind.u32.wrap (n : Int)) = _
    rw [e1, e2]
end Go.Proofs.W

namespace Go.Proofs.W
open Go.Vl
set_option maxRecDepth 100000

def hB (x : Nat → Nat) (c : Cnd) : Bool := rightC c && holdsC c ([x 0, x 1, x 2, x 3, x 4, x 5].getD c.arg.toNat 0)
def letB (x : Nat → Nat) (r : Rul) : Bool := r.conds.all (hB x)
theorem six_lt {x : Nat → Nat} (hx : ∀ i, x i < 18446744073709551616) (i : Nat) : [x 0, x 1, x 2, x 3, x 4, x 5].getD i 0 < 18446744073709551616 := by
  rcases i with _ | _ | _ | _ | _ | _ | i
  · exact hx 0
  · exact hx 1
  · exact hx 2
  · exact hx 3
  · exact hx 4
  · exact hx 5
  · exact Nat.zero_lt_succ _
theorem hold_spec (x : Nat → Nat) (hx : ∀ i, x i < 18446744073709551616) (c : Cnd) (hc : c.ok) : Tells Tryz.prog 96 [cndA c, arrA x] (boolA (hB x c)) := holds_spec c (x 0) (x 1) (x 2) (x 3) (x 4) (x 5) hc (six_lt hx)
def arrP (x : Nat → Nat) : AV := .rp [u64 (x 0), u64 (x 1), u64 (x 2), u64 (x 3), u64 (x 4), u64 (x 5)]
theorem all1_spec (x : Nat → Nat) (hx : ∀ i, x i < 18446744073709551616) (c : Cnd) (hc : c.ok) : Tells Tryz.prog 95 [cndA c, arrP x] (boolA (!hB x c)) := by
  have hh := hold_spec x hx c hc
  generalize hB x c = b at hh
  refine tells_of_aw Tryz.func95 rfl rfl fun nx => ?_
  (repeat((conv=>whnf);first|apply ω0|apply ω1|apply ω2|refine τ3 rfl ?_|refine τ4 rfl ?_|refine ⟨rfl,?_⟩|apply τa|refine τb rfl ?_|refine ⟨⟨by kernel_rfl,by kernel_rfl⟩,?_⟩|refine ⟨by decide,?_⟩|apply τt|apply τf))
  refine splitO_eq (b := cndA c) rfl ?_
  (repeat((conv=>whnf);first|apply ω0|apply ω1|apply ω2|refine τ3 rfl ?_|refine τ4 rfl ?_|refine ⟨rfl,?_⟩|apply τa|refine τb rfl ?_|refine ⟨⟨by kernel_rfl,by kernel_rfl⟩,?_⟩|refine ⟨by decide,?_⟩|apply τt|apply τf))
  refine aop_tells rfl rfl hh ⟨AVle.refl _, AVle.refl _, trivial⟩ fun nx2 => ?_
  cases b
  · (repeat((conv=>whnf);first|apply ω0|apply ω1|apply ω2|refine τ3 rfl ?_|refine τ4 rfl ?_|refine ⟨rfl,?_⟩|apply τa|refine τb rfl ?_|refine ⟨⟨by kernel_rfl,by kernel_rfl⟩,?_⟩|refine ⟨by decide,?_⟩|apply τt|apply τf))
    exact ret_tells rfl (AVle.refl _)
  · (repeat((conv=>whnf);first|apply ω0|apply ω1|apply ω2|refine τ3 rfl ?_|refine τ4 rfl ?_|refine ⟨rfl,?_⟩|apply τa|refine τb rfl ?_|refine ⟨⟨by kernel_rfl,by kernel_rfl⟩,?_⟩|refine ⟨by decide,?_⟩|apply τt|apply τf))
    exact ret_tells rfl (AVle.refl _)
theorem idxc_cnd (l : List Cnd) (p : Cnd → Bool) (f : Nat) (x : Nat → Nat) (hl : l.length ≤ 1000000000) (hp : ∀ i, i < l.length → Tells Tryz.prog f (cndA (l.getD i cnd0) :: [arrP x]) (boolA (p (l.getD i cnd0)))) :
    Tells Tryz.prog 143 [slOf 4 cndA cnd0 l, (.fn (.func f) [] [arrP x])] (int (optI (l.findIdx? p))) := by
  refine tells_of_aw Tryz.func143 rfl rfl fun nx => ?_
  (repeat((conv=>whnf);first|apply ω0|apply ω1|apply ω2|refine τ3 rfl ?_|refine τ4 rfl ?_|refine ⟨rfl,?_⟩|apply τa|refine τb rfl ?_|refine ⟨⟨by kernel_rfl,by kernel_rfl⟩,?_⟩|refine ⟨by decide,?_⟩|apply τt|apply τf))
  refine aw_loop (fun s : Nat × Nat => mk 19 [(0, slOf 4 cndA cnd0 l), (1, (.fn (.func f) [] [arrP x])), (7, int l.length), (8, int s.1)] ⟨[], [], s.2, 0⟩) (fun s => s.1 ≤ l.length ∧ ∀ j, j < s.1 → p (l.getD j cnd0) = false) (fun s => l.length - s.1) ?_ ?_
  · exact ⟨(0, nx), ⟨by simp, by intro j hj; simp at hj⟩, ele_mk rfl rfl ⟨AVle.refl _, AVle.refl _, AVle.refl _, AVle.refl _, trivial⟩⟩
  · rintro ⟨i, nx⟩ ⟨h1, h2⟩
    dsimp only at h1 h2
    (repeat((conv=>whnf);first|apply ω0|apply ω1|apply ω2|refine τ3 rfl ?_|refine τ4 rfl ?_|refine ⟨rfl,?_⟩|apply τa|refine τb rfl ?_|refine ⟨⟨by kernel_rfl,by kernel_rfl⟩,?_⟩|refine ⟨by decide,?_⟩|apply τt|apply τf))
    intro c h3; cases c
    · have h3 := not_of h3
      dsimp only at h3
      (repeat((conv=>whnf);first|apply ω0|apply ω1|apply ω2|refine τ3 rfl ?_|refine τ4 rfl ?_|refine ⟨rfl,?_⟩|apply τa|refine τb rfl ?_|refine ⟨⟨by kernel_rfl,by kernel_rfl⟩,?_⟩|refine ⟨by decide,?_⟩|apply τt|apply τf))
      refine ret_tells rfl (le_int ?_)
      rw [idx_none cnd0 (fun j hj => h2 j (by omega))]; rfl
    · have h3 := yes_of h3
      dsimp only at h3
      have hi : i < l.length := by omega
      (repeat((conv=>whnf);first|apply ω0|apply ω1|apply ω2|refine τ3 rfl ?_|refine τ4 rfl ?_|refine ⟨rfl,?_⟩|apply τa|refine τb rfl ?_|refine ⟨⟨by kernel_rfl,by kernel_rfl⟩,?_⟩|refine ⟨by decide,?_⟩|apply τt|apply τf))
      refine ⟨⟨by dsimp only; omega, by dsimp only; omega⟩, ?_⟩
      (repeat((conv=>whnf);first|apply ω0|apply ω1|apply ω2|refine τ3 rfl ?_|refine τ4 rfl ?_|refine ⟨rfl,?_⟩|apply τa|refine τb rfl ?_|refine ⟨⟨by kernel_rfl,by kernel_rfl⟩,?_⟩|refine ⟨by decide,?_⟩|apply τt|apply τf))
      refine aop_tells rfl rfl (hp i hi) ⟨AVle.refl _, AVle.refl _, trivial⟩ fun nx' => ?_
      intro c h4; cases c
      · (repeat((conv=>whnf);first|apply ω0|apply ω1|apply ω2|refine τ3 rfl ?_|refine τ4 rfl ?_|refine ⟨rfl,?_⟩|apply τa|refine τb rfl ?_|refine ⟨⟨by kernel_rfl,by kernel_rfl⟩,?_⟩|refine ⟨by decide,?_⟩|apply τt|apply τf))
        refine back (i + 1, nx') ⟨by dsimp only; omega, fun j hj => ?_⟩ (by dsimp only; omega) (ele_mk rfl rfl ⟨AVle.refl _, AVle.refl _, AVle.refl _, le_int (wrap_succ (by dsimp only; omega)), trivial⟩)
        dsimp only at hj
        rcases Nat.lt_or_ge j i with h | h
        · exact h2 j h
        · obtain rfl : j = i := by omega
          exact h4.symm
      · (repeat((conv=>whnf);first|apply ω0|apply ω1|apply ω2|refine τ3 rfl ?_|refine τ4 rfl ?_|refine ⟨rfl,?_⟩|apply τa|refine τb rfl ?_|refine ⟨⟨by kernel_rfl,by kernel_rfl⟩,?_⟩|refine ⟨by decide,?_⟩|apply τt|apply τf))
        refine ret_tells rfl (le_int ?_)
        rw [idx_at cnd0 hi h2 h4.symm]; rfl
theorem cntc_cnd (l : List Cnd) (p : Cnd → Bool) (f : Nat) (x : Nat → Nat) (hl : l.length ≤ 1000000000) (hp : ∀ i, i < l.length → Tells Tryz.prog f (cndA (l.getD i cnd0) :: [arrP x]) (boolA (p (l.getD i cnd0)))) :
    Tells Tryz.prog 94 [slOf 4 cndA cnd0 l, (.fn (.func f) [] [arrP x])] (boolA (l.any p)) := by
  refine tells_of_aw Tryz.func94 rfl rfl fun nx => ?_
  (repeat((conv=>whnf);first|apply ω0|apply ω1|apply ω2|refine τ3 rfl ?_|refine τ4 rfl ?_|refine ⟨rfl,?_⟩|apply τa|refine τb rfl ?_|refine ⟨⟨by kernel_rfl,by kernel_rfl⟩,?_⟩|refine ⟨by decide,?_⟩|apply τt|apply τf))
  refine aop_tells rfl rfl (idxc_cnd l p f x hl hp) ⟨AVle.refl _, AVle.refl _, trivial⟩ fun nx' => ?_
  (repeat((conv=>whnf);first|apply ω0|apply ω1|apply ω2|refine τ3 rfl ?_|refine τ4 rfl ?_|refine ⟨rfl,?_⟩|apply τa|refine τb rfl ?_|refine ⟨⟨by kernel_rfl,by kernel_rfl⟩,?_⟩|refine ⟨by decide,?_⟩|apply τt|apply τf))
  intro c h; cases c
  all_goals
    (repeat((conv=>whnf);first|apply ω0|apply ω1|apply ω2|refine τ3 rfl ?_|refine τ4 rfl ?_|refine ⟨rfl,?_⟩|apply τa|refine τb rfl ?_|refine ⟨⟨by kernel_rfl,by kernel_rfl⟩,?_⟩|refine ⟨by decide,?_⟩|apply τt|apply τf))
    refine ret_tells rfl (le_bool ?_)
    rw [h, ← List.findIdx?_isSome]
    exact optI_nonneg _
theorem all_spec (x : Nat → Nat) (hx : ∀ i, x i < 18446744073709551616) (l : List Cnd) (hl : l.length ≤ 1000000000) (hc : ∀ c ∈ l, c.ok) : Tells Tryz.prog 46 [cnds l, arrA x] (boolA (l.all (hB x))) := by
  have hcn := cntc_cnd l (fun c => !hB x c) 95 x hl (fun i hi => all1_spec x hx _ (hc _ (by simp [List.getD, hi])))
  have he : (l.any fun c => !hB x c) = !(l.all (hB x)) := by rw [List.all_eq_not_any_not, Bool.not_not]
  rw [he] at hcn
  generalize l.all (hB x) = b at hcn
  refine tells_of_aw Tryz.func46 rfl rfl fun nx => ?_
  ((repeat((conv=>whnf);first|apply ω0|apply ω2|refine τ3 rfl ?_|refine τ4 rfl ?_|refine ⟨rfl,?_⟩|apply τa|refine τb rfl ?_|refine ⟨⟨by kernel_rfl,by kernel_rfl⟩,?_⟩|refine ⟨by decide,?_⟩|apply τt|apply τf)); refine aw_region ?_; (repeat((conv=>whnf);first|apply ω0|apply ω2|refine τ3 rfl ?_|refine τ4 rfl ?_|refine ⟨rfl,?_⟩|apply τa|refine τb rfl ?_|refine ⟨⟨by kernel_rfl,by kernel_rfl⟩,?_⟩|refine ⟨by decide,?_⟩|apply τt|apply τf)))
  refine aw_freeze (n := 9) (nx := nx + 1) (nn := 1) (pm := []) (bx := []) (L := [(0, cnds l), (3, arrP x), (4, boolA false)]) (df := some []) [((0, nx), .c [u64 (x 0), u64 (x 1), u64 (x 2), u64 (x 3), u64 (x 4), u64 (x 5)])] rfl rfl rfl (List.Perm.refl _) (List.Sublist.refl _) ⟨Frz.refl _, Frz.bp (.head _) rfl, Frz.refl _, trivial⟩ ?_
  (repeat((conv=>whnf);first|apply ω0|apply ω1|apply ω2|refine τ3 rfl ?_|refine τ4 rfl ?_|refine ⟨rfl,?_⟩|apply τa|refine τb rfl ?_|refine ⟨⟨by kernel_rfl,by kernel_rfl⟩,?_⟩|refine ⟨by decide,?_⟩|apply τt|apply τf))
  refine aop_tells rfl rfl hcn ⟨AVle.refl _, AVle.refl _, trivial⟩ fun nx2 => ?_
  cases b
  · (repeat((conv=>whnf);first|apply ω0|apply ω1|apply ω2|refine τ3 rfl ?_|refine τ4 rfl ?_|refine ⟨rfl,?_⟩|apply τa|refine τb rfl ?_|refine ⟨⟨by kernel_rfl,by kernel_rfl⟩,?_⟩|refine ⟨by decide,?_⟩|apply τt|apply τf))
    exact ret_tells rfl (AVle.refl _)
  · (repeat((conv=>whnf);first|apply ω0|apply ω1|apply ω2|refine τ3 rfl ?_|refine τ4 rfl ?_|refine ⟨rfl,?_⟩|apply τa|refine τb rfl ?_|refine ⟨⟨by kernel_rfl,by kernel_rfl⟩,?_⟩|refine ⟨by decide,?_⟩|apply τt|apply τf))
    exact ret_tells rfl (AVle.refl _)
theorem let_spec (x : Nat → Nat) (hx : ∀ i, x i < 18446744073709551616) (r : Rul) (hl : r.conds.length ≤ 1000000000) (hc : ∀ c ∈ r.conds, c.ok) : Tells Tryz.prog 45 [rulA r, arrP x] (boolA (letB x r)) := by
  have ha := all_spec x hx r.conds hl hc
  unfold letB
  generalize r.conds.all (hB x) = b at ha
  refine tells_of_aw Tryz.func45 rfl rfl fun nx => ?_
  (repeat((conv=>whnf);first|apply ω0|apply ω1|apply ω2|refine τ3 rfl ?_|refine τ4 rfl ?_|refine ⟨rfl,?_⟩|apply τa|refine τb rfl ?_|refine ⟨⟨by kernel_rfl,by kernel_rfl⟩,?_⟩|refine ⟨by decide,?_⟩|apply τt|apply τf))
  refine aop_tells rfl rfl ha ⟨AVle.refl _, AVle.refl _, trivial⟩ fun nx2 => ?_
  cases b
  · (repeat((conv=>whnf);first|apply ω0|apply ω1|apply ω2|refine τ3 rfl ?_|refine τ4 rfl ?_|refine ⟨rfl,?_⟩|apply τa|refine τb rfl ?_|refine ⟨⟨by kernel_rfl,by kernel_rfl⟩,?_⟩|refine ⟨by decide,?_⟩|apply τt|apply τf))
    exact ret_tells rfl (AVle.refl _)
  · (repeat((conv=>whnf);first|apply ω0|apply ω1|apply ω2|refine τ3 rfl ?_|refine τ4 rfl ?_|refine ⟨rfl,?_⟩|apply τa|refine τb rfl ?_|refine ⟨⟨by kernel_rfl,by kernel_rfl⟩,?_⟩|refine ⟨by decide,?_⟩|apply τt|apply τf))
    exact ret_tells rfl (AVle.refl _)
theorem find_first {l : List Rul} {q : Rul → Bool} {i : Nat} (hi : i < l.length) (h : ∀ j, j < i → q (l.getD j rul0) = false) (hq : q (l.getD i rul0) = true) : l.find? q = some (l.getD i rul0) := by
  have e : l.getD i rul0 = l[i] := by simp [List.getD, hi]
  rw [e] at hq ⊢
  rw [List.find?_eq_some_iff_getElem]
  refine ⟨hq, i, hi, rfl, fun j hj => ?_⟩
  have := h j hj
  rw [show l.getD j rul0 = l[j] by simp [List.getD, show j < l.length by omega]] at this
  rw [this]; rfl
def decP (p : Pol) (nm : ByteArray) (x : Nat → Nat) : A2 := match p.rules.find? (fun r => kS r.name nm && letB x r) with
  | some r => r.act
  | none => p.dflt
set_option maxHeartbeats 4000000 in
theorem first_dec (p : Pol) (nm : ByteArray) (x : Nat → Nat) (hl : p.rules.length ≤ 1000000) (hp : ∀ r ∈ p.rules, Tells Tryz.prog 45 [rulA r, arrP x] (boolA (letB x r))) : Tells Tryz.prog 44 [polA p, strA nm, .fn (.func 45) [] [arrP x]] (actP (decP p nm x)) := by
  obtain ⟨⟨k, n⟩, x32, rs⟩ := p
  dsimp only at hl hp
  refine tells_of_aw Tryz.func44 rfl rfl fun nx => ?_
  (repeat((conv=>whnf);first|apply ω0|apply ω1|apply ω2|refine τ3 rfl ?_|refine τ4 rfl ?_|refine ⟨rfl,?_⟩|apply τa|refine τb rfl ?_|refine ⟨⟨by kernel_rfl,by kernel_rfl⟩,?_⟩|refine ⟨by decide,?_⟩|apply τt|apply τf))
  refine aw_scope ?_
  (repeat((conv=>whnf);first|apply ω0|apply ω1|apply ω2|refine τ3 rfl ?_|refine τ4 rfl ?_|refine ⟨rfl,?_⟩|apply τa|refine τb rfl ?_|refine ⟨⟨by kernel_rfl,by kernel_rfl⟩,?_⟩|refine ⟨by decide,?_⟩|apply τt|apply τf))
  refine aw_loop (fun y : Nat × Nat => mk 30 [(1, strA nm), (2, .fn (.func 45) [] [arrP x]), (3, .bp (0, nx) 0), (6, .bp (1, nx + 1) 0), (10, ruls rs), (11, int rs.length), (12, int y.1)] ⟨[((1, nx + 1), .c [int 0, int 0]), ((0, nx), .c [int k, int n, boolA x32, ruls rs])], [], y.2, 2⟩) (fun y => y.1 ≤ rs.length ∧ ∀ j, j < y.1 → (kS (rs.getD j rul0).name nm && letB x (rs.getD j rul0)) = false) (fun y => rs.length - y.1) ?_ ?_
  · exact ⟨(0, nx + 2), ⟨Nat.zero_le _, fun j h => absurd h (Nat.not_lt_zero _)⟩, ele_tell (pm := []) (bx := [((1, nx + 1), .c [int 0, int 0]), ((0, nx), .c [int k, int n, boolA x32, ruls rs])]) _ _ rfl rfl (List.Sublist.refl _) (List.Sublist.refl _) (BxLe.refl _) trivial ⟨AVle.refl _, AVle.refl _, AVle.refl _, AVle.refl _, AVle.refl _, AVle.refl _, AVle.refl _, trivial⟩⟩
  · rintro ⟨i, nx1⟩ ⟨h1, h2⟩
    dsimp only at h1 h2
    (repeat((conv=>whnf);first|apply ω0|apply ω1|apply ω2|refine τ3 rfl ?_|refine τ4 rfl ?_|refine ⟨rfl,?_⟩|apply τa|refine τb rfl ?_|refine ⟨⟨by kernel_rfl,by kernel_rfl⟩,?_⟩|refine ⟨by decide,?_⟩|apply τt|apply τf))
    intro c g1; cases c
    · have g1 := not_of g1
      try dsimp only at g1
      have hi : i = rs.length := by omega
      subst hi
      have hd : decP ⟨(k, n), x32, rs⟩ nm x = (k, n) := by
        unfold decP
        rw [List.find?_eq_none.2 fun r hr => ?_]
        obtain ⟨j, hj, rfl⟩ := List.mem_iff_getElem.1 hr
        have := h2 j hj
        rw [show rs.getD j rul0 = rs[j] by simp [List.getD, hj]] at this
        rw [this]; decide
      (repeat((conv=>whnf);first|apply ω0|apply ω1|apply ω2|refine τ3 rfl ?_|refine τ4 rfl ?_|refine ⟨rfl,?_⟩|apply τa|refine τb rfl ?_|refine ⟨⟨by kernel_rfl,by kernel_rfl⟩,?_⟩|refine ⟨by decide,?_⟩|apply τt|apply τf))
      exact ret_tells_all rfl ⟨rfl, trivial⟩ (AVle.of_eq (by rw [hd]; rfl))
    · have g1 := yes_of g1
      try dsimp only at g1
      have hi : i < rs.length := by omega
      have hlet := hp (rs.getD i rul0) (by simp [List.getD, hi])
      generalize hr : rs.getD i rul0 = r at hlet
      (repeat((conv=>whnf);first|apply ω0|apply ω1|apply ω2|refine τ3 rfl ?_|refine τ4 rfl ?_|refine ⟨rfl,?_⟩|apply τa|refine τb rfl ?_|refine ⟨⟨by kernel_rfl,by kernel_rfl⟩,?_⟩|refine ⟨by decide,?_⟩|apply τt|apply τf))
      refine ⟨⟨by first | omega | (dsimp only; omega), by first | omega | (dsimp only; omega)⟩, splitO_eq (b := .rp [strA r.name, int r.act.1, int r.act.2, cnds r.conds]) (by rw [← hr]; rfl) ?_⟩
      (repeat((conv=>whnf);first|apply ω0|apply ω1|apply ω2|refine τ3 rfl ?_|refine τ4 rfl ?_|refine ⟨rfl,?_⟩|apply τa|refine τb rfl ?_|refine ⟨⟨by kernel_rfl,by kernel_rfl⟩,?_⟩|refine ⟨by decide,?_⟩|apply τt|apply τf))
      intro c hc
      have hc2 : kS r.name nm = !c := by rw [show c = (r.name.toList != nm.toList) from hc]; unfold kS; rw [bne, Bool.not_not]
      clear hc
      cases c
      · (repeat((conv=>whnf);first|apply ω0|apply ω1|apply ω2|refine τ3 rfl ?_|refine τ4 rfl ?_|refine ⟨rfl,?_⟩|apply τa|refine τb rfl ?_|refine ⟨⟨by kernel_rfl,by kernel_rfl⟩,?_⟩|refine ⟨by decide,?_⟩|apply τt|apply τf))
        refine splitO_eq (b := rulA r) rfl ?_
        (repeat((conv=>whnf);first|apply ω0|apply ω1|apply ω2|refine τ3 rfl ?_|refine τ4 rfl ?_|refine ⟨rfl,?_⟩|apply τa|refine τb rfl ?_|refine ⟨⟨by kernel_rfl,by kernel_rfl⟩,?_⟩|refine ⟨by decide,?_⟩|apply τt|apply τf))
        generalize hlb : letB x r = bb at hlet
        refine aop_tells rfl rfl hlet ⟨AVle.refl _, AVle.refl _, trivial⟩ fun nx2 => ?_
        cases bb
        · have hno : (kS r.name nm && letB x r) = false := by rw [hlb, Bool.and_false]
          (repeat((conv=>whnf);first|apply ω0|apply ω1|apply ω2|refine τ3 rfl ?_|refine τ4 rfl ?_|refine ⟨rfl,?_⟩|apply τa|refine τb rfl ?_|refine ⟨⟨by kernel_rfl,by kernel_rfl⟩,?_⟩|refine ⟨by decide,?_⟩|apply τt|apply τf))
          exact back (i + 1, nx2) ⟨hi, fun j hj => by dsimp only at hj; rcases Nat.lt_or_ge j i with q | q; exact h2 j q; rw [show j = i by omega, hr]; exact hno⟩ (by dsimp only; omega) (ele_tell (pm := []) (bx := [((1, nx + 1), .c [int 0, int 0]), ((0, nx), .c [int k, int n, boolA x32, ruls rs])]) _ _ rfl rfl (.cons _ (List.Sublist.refl _)) (List.Sublist.refl _) (BxLe.refl _) trivial ⟨AVle.refl _, AVle.refl _, AVle.refl _, AVle.refl _, AVle.refl _, AVle.refl _, le_int (wrap_succ (by first | omega | (dsimp only; omega))), trivial⟩)
        · have hd : decP ⟨(k, n), x32, rs⟩ nm x = r.act := by
            unfold decP
            rw [find_first hi h2 (by rw [hr, hc2, hlb]; rfl), hr]
          (repeat((conv=>whnf);first|apply ω0|apply ω1|apply ω2|refine τ3 rfl ?_|refine τ4 rfl ?_|refine ⟨rfl,?_⟩|apply τa|refine τb rfl ?_|refine ⟨⟨by kernel_rfl,by kernel_rfl⟩,?_⟩|refine ⟨by decide,?_⟩|apply τt|apply τf))
          exact ret_tells_all rfl ⟨rfl, trivial⟩ (AVle.of_eq (by rw [hd]; rfl))
      · have hno : (kS r.name nm && letB x r) = false := by rw [hc2]; rfl
        (repeat((conv=>whnf);first|apply ω0|apply ω1|apply ω2|refine τ3 rfl ?_|refine τ4 rfl ?_|refine ⟨rfl,?_⟩|apply τa|refine τb rfl ?_|refine ⟨⟨by kernel_rfl,by kernel_rfl⟩,?_⟩|refine ⟨by decide,?_⟩|apply τt|apply τf))
        exact back (i + 1, nx1 + 1) ⟨hi, fun j hj => by dsimp only at hj; rcases Nat.lt_or_ge j i with q | q; exact h2 j q; rw [show j = i by omega, hr]; exact hno⟩ (by dsimp only; omega) (ele_tell (pm := []) (bx := [((1, nx + 1), .c [int 0, int 0]), ((0, nx), .c [int k, int n, boolA x32, ruls rs])]) _ _ rfl rfl (.cons _ (List.Sublist.refl _)) (List.Sublist.refl _) (BxLe.refl _) trivial ⟨AVle.refl _, AVle.refl _, AVle.refl _, AVle.refl _, AVle.refl _, AVle.refl _, le_int (wrap_succ (by first | omega | (dsimp only; omega))), trivial⟩)
theorem decide_spec (p : Pol) (nm : ByteArray) (x : Nat → Nat) (hl : p.rules.length ≤ 1000000) (hp : ∀ r ∈ p.rules, Tells Tryz.prog 45 [rulA r, arrP x] (boolA (letB x r))) : Tells Tryz.prog 12 [polA p, strA nm, arrA x] (actP (decP p nm x)) := by
  have hf := first_dec p nm x hl hp
  generalize decP p nm x = a at hf
  obtain ⟨k', n'⟩ := a
  obtain ⟨⟨k, n⟩, x32, rs⟩ := p
  refine tells_of_aw Tryz.func12 rfl rfl fun nx => ?_
  ((repeat((conv=>whnf);first|apply ω0|apply ω2|refine τ3 rfl ?_|refine τ4 rfl ?_|refine ⟨rfl,?_⟩|apply τa|refine τb rfl ?_|refine ⟨⟨by kernel_rfl,by kernel_rfl⟩,?_⟩|refine ⟨by decide,?_⟩|apply τt|apply τf)); refine aw_region ?_; (repeat((conv=>whnf);first|apply ω0|apply ω2|refine τ3 rfl ?_|refine τ4 rfl ?_|refine ⟨rfl,?_⟩|apply τa|refine τb rfl ?_|refine ⟨⟨by kernel_rfl,by kernel_rfl⟩,?_⟩|refine ⟨by decide,?_⟩|apply τt|apply τf)))
  refine aw_freeze (n := 11) (nx := nx + 3) (nn := 3) (pm := []) (bx := [((2, nx + 2), .c [int 0, int 0]), ((0, nx), .c [int k, int n, boolA x32, ruls rs])]) (L := [(1, strA nm), (3, .bp (0, nx) 0), (5, arrP x), (6, .bp (2, nx + 2) 0)]) (df := some []) [((1, nx + 1), .c [u64 (x 0), u64 (x 1), u64 (x 2), u64 (x 3), u64 (x 4), u64 (x 5)])] rfl rfl rfl (List.Perm.swap _ _ _) (List.Sublist.refl _) ⟨Frz.refl _, Frz.refl _, Frz.bp (.head _) rfl, Frz.refl _, trivial⟩ ?_
  (repeat((conv=>whnf);first|apply ω0|apply ω1|apply ω2|refine τ3 rfl ?_|refine τ4 rfl ?_|refine ⟨rfl,?_⟩|apply τa|refine τb rfl ?_|refine ⟨⟨by kernel_rfl,by kernel_rfl⟩,?_⟩|refine ⟨by decide,?_⟩|apply τt|apply τf))
  refine aop_tells rfl rfl hf ⟨AVle.refl _, AVle.refl _, AVle.refl _, trivial⟩ fun nx2 => ?_
  (repeat((conv=>whnf);first|apply ω0|apply ω1|apply ω2|refine τ3 rfl ?_|refine τ4 rfl ?_|refine ⟨rfl,?_⟩|apply τa|refine τb rfl ?_|refine ⟨⟨by kernel_rfl,by kernel_rfl⟩,?_⟩|refine ⟨by decide,?_⟩|apply τt|apply τf))
  exact ret_tells_all rfl ⟨rfl, trivial⟩ (AVle.refl _)
def blindP (p : Pol) (nm : ByteArray) : A2 := match p.rules.find? (fun r => kS r.name nm) with
  | some r => if r.conds.length = 0 then r.act else p.dflt
  | none => p.dflt
def metB (s : Nat) (m : Bool) : List (Vl.Id × Own) := [((0, s), .c [boolA m])]
theorem blind1_spec (s : Nat) (m : Bool) (r : Rul) (nx : Nat) : ECall Tryz.prog 48 [rulA r, .bp (0, s) 0] ⟨metB s m, [], nx, 1⟩ fun v h' => v = boolA (!m && decide (r.conds.length = 0)) ∧ ∃ nx', h' = ⟨metB s true, [], nx', 1⟩ := by
  refine ECall.wk (ecall_of_aw Tryz.func48 rfl rfl ?_)
  cases m
  · (repeat((conv=>whnf);first|apply ω0|apply ω1|apply ω2|refine τ3 rfl ?_|refine τ4 rfl ?_|refine ⟨rfl,?_⟩|apply τa|refine τb rfl ?_|refine ⟨⟨by kernel_rfl,by kernel_rfl⟩,?_⟩|refine ⟨by decide,?_⟩|apply τt|apply τf))
    intro c hc
    have hc2 : c = decide (r.conds.length = 0) := hc.trans (by rw [Bool.eq_iff_iff]; simp)
    clear hc
    rw [← hc2]
    clear hc2
    (repeat((conv=>whnf);first|apply ω0|apply ω1|apply ω2|refine τ3 rfl ?_|refine τ4 rfl ?_|refine ⟨rfl,?_⟩|apply τa|refine τb rfl ?_|refine ⟨⟨by kernel_rfl,by kernel_rfl⟩,?_⟩|refine ⟨by decide,?_⟩|apply τt|apply τf))
    refine ret_all rfl trivial ⟨boolA c, ⟨metB s true, [], nx + 1, 1⟩, AVle.refl _, ?_, by cases c <;> rfl, nx + 1, rfl⟩
    exact hle_tell (metB s true) [] rfl (.cons _ (List.Sublist.refl _)) (List.Sublist.refl _) (BxLe.refl _) (PmEq.refl _)
  · (repeat((conv=>whnf);first|apply ω0|apply ω1|apply ω2|refine τ3 rfl ?_|refine τ4 rfl ?_|refine ⟨rfl,?_⟩|apply τa|refine τb rfl ?_|refine ⟨⟨by kernel_rfl,by kernel_rfl⟩,?_⟩|refine ⟨by decide,?_⟩|apply τt|apply τf))
    refine ret_all rfl trivial ⟨boolA false, ⟨metB s true, [], nx + 1, 1⟩, AVle.refl _, ?_, rfl, nx + 1, rfl⟩
    exact hle_tell (metB s true) [] rfl (.cons _ (List.Sublist.refl _)) (List.Sublist.refl _) (BxLe.refl _) (PmEq.refl _)
end Go.Proofs.W

namespace Go.Proofs.W
open Go.Vl
set_option maxRecDepth 100000

set_option maxHeartbeats 4000000 in
theorem first_blind (p : Pol) (nm : ByteArray) (hl : p.rules.length ≤ 1000000) (s nx : Nat) : ECall Tryz.prog 44 [polA p, strA nm, .fn (.func 48) [] [.bp (0, s) 0]] ⟨metB s false, [], nx, 1⟩ fun v h' => v = actP (blindP p nm) ∧ ∃ m nx', h' = ⟨metB s m, [], nx', 1⟩ := by
  obtain ⟨⟨k, n⟩, x32, rs⟩ := p
  dsimp only at hl
  refine ECall.wk (ecall_of_aw Tryz.func44 rfl rfl ?_)
  (repeat((conv=>whnf);first|apply ω0|apply ω1|apply ω2|refine τ3 rfl ?_|refine τ4 rfl ?_|refine ⟨rfl,?_⟩|apply τa|refine τb rfl ?_|refine ⟨⟨by kernel_rfl,by kernel_rfl⟩,?_⟩|refine ⟨by decide,?_⟩|apply τt|apply τf))
  refine aw_scope ?_
  (repeat((conv=>whnf);first|apply ω0|apply ω1|apply ω2|refine τ3 rfl ?_|refine τ4 rfl ?_|refine ⟨rfl,?_⟩|apply τa|refine τb rfl ?_|refine ⟨⟨by kernel_rfl,by kernel_rfl⟩,?_⟩|refine ⟨by decide,?_⟩|apply τt|apply τf))
  refine aw_loop (fun y : Nat × Bool × Nat => mk 30 [(1, strA nm), (2, .fn (.func 48) [] [.bp (0, s) 0]), (3, .bp (1, nx) 0), (6, .bp (2, nx + 1) 0), (10, ruls rs), (11, int rs.length), (12, int y.1)] ⟨[((2, nx + 1), .c [int 0, int 0]), ((1, nx), .c [int k, int n, boolA x32, ruls rs]), ((0, s), .c [boolA y.2.1])], [], y.2.2, 3⟩) (fun y => y.1 ≤ rs.length ∧ (y.2.1 = false → ∀ j, j < y.1 → kS (rs.getD j rul0).name nm = false) ∧ (y.2.1 = true → blindP ⟨(k, n), x32, rs⟩ nm = (k, n))) (fun y => rs.length - y.1) ?_ ?_
  · exact ⟨(0, false, nx + 2), ⟨Nat.zero_le _, fun _ j h => absurd h (Nat.not_lt_zero _), fun h => by cases h⟩, ele_tell (pm := []) (bx := [((2, nx + 1), .c [int 0, int 0]), ((1, nx), .c [int k, int n, boolA x32, ruls rs]), ((0, s), .c [boolA false])]) _ _ rfl rfl (List.Sublist.refl _) (List.Sublist.refl _) (BxLe.refl _) trivial ⟨AVle.refl _, AVle.refl _, AVle.refl _, AVle.refl _, AVle.refl _, AVle.refl _, AVle.refl _, trivial⟩⟩
  · rintro ⟨i, m, nx1⟩ ⟨h1, h2, h3⟩
    dsimp only at h1 h2 h3
    (repeat((conv=>whnf);first|apply ω0|apply ω1|apply ω2|refine τ3 rfl ?_|refine τ4 rfl ?_|refine ⟨rfl,?_⟩|apply τa|refine τb rfl ?_|refine ⟨⟨by kernel_rfl,by kernel_rfl⟩,?_⟩|refine ⟨by decide,?_⟩|apply τt|apply τf))
    intro c g1; cases c
    · have g1 := not_of g1
      try dsimp only at g1
      have hi : i = rs.length := by omega
      subst hi
      have hd : blindP ⟨(k, n), x32, rs⟩ nm = (k, n) := by
        cases m with
        | true => exact h3 rfl
        | false =>
          unfold blindP
          rw [List.find?_eq_none.2 fun r hr => ?_]
          obtain ⟨j, hj, rfl⟩ := List.mem_iff_getElem.1 hr
          have := h2 rfl j hj
          rw [show rs.getD j rul0 = rs[j] by simp [List.getD, hj]] at this
          rw [this]; decide
      (repeat((conv=>whnf);first|apply ω0|apply ω1|apply ω2|refine τ3 rfl ?_|refine τ4 rfl ?_|refine ⟨rfl,?_⟩|apply τa|refine τb rfl ?_|refine ⟨⟨by kernel_rfl,by kernel_rfl⟩,?_⟩|refine ⟨by decide,?_⟩|apply τt|apply τf))
      refine ret_all rfl ⟨rfl, trivial⟩ ⟨act k n, ⟨metB s m, [], nx1, 1⟩, AVle.refl _, ?_, by rw [hd]; rfl, m, nx1, rfl⟩
      exact hle_tell (metB s m) [] rfl (.cons _ (.cons _ (List.Sublist.refl _))) (List.Sublist.refl _) (BxLe.refl _) (PmEq.refl _)
    · have g1 := yes_of g1
      try dsimp only at g1
      have hi : i < rs.length := by omega
      generalize hr : rs.getD i rul0 = r
      (repeat((conv=>whnf);first|apply ω0|apply ω1|apply ω2|refine τ3 rfl ?_|refine τ4 rfl ?_|refine ⟨rfl,?_⟩|apply τa|refine τb rfl ?_|refine ⟨⟨by kernel_rfl,by kernel_rfl⟩,?_⟩|refine ⟨by decide,?_⟩|apply τt|apply τf))
      refine ⟨⟨by first | omega | (dsimp only; omega), by first | omega | (dsimp only; omega)⟩, splitO_eq (b := .rp [strA r.name, int r.act.1, int r.act.2, cnds r.conds]) (by rw [← hr]; rfl) ?_⟩
      (repeat((conv=>whnf);first|apply ω0|apply ω1|apply ω2|refine τ3 rfl ?_|refine τ4 rfl ?_|refine ⟨rfl,?_⟩|apply τa|refine τb rfl ?_|refine ⟨⟨by kernel_rfl,by kernel_rfl⟩,?_⟩|refine ⟨by decide,?_⟩|apply τt|apply τf))
      intro c hc
      have hc2 : kS r.name nm = !c := by rw [show c = (r.name.toList != nm.toList) from hc]; unfold kS; rw [bne, Bool.not_not]
      clear hc
      cases c
      · (repeat((conv=>whnf);first|apply ω0|apply ω1|apply ω2|refine τ3 rfl ?_|refine τ4 rfl ?_|refine ⟨rfl,?_⟩|apply τa|refine τb rfl ?_|refine ⟨⟨by kernel_rfl,by kernel_rfl⟩,?_⟩|refine ⟨by decide,?_⟩|apply τt|apply τf))
        refine splitO_eq (b := rulA r) rfl ?_
        (repeat((conv=>whnf);first|apply ω0|apply ω1|apply ω2|refine τ3 rfl ?_|refine τ4 rfl ?_|refine ⟨rfl,?_⟩|apply τa|refine τb rfl ?_|refine ⟨⟨by kernel_rfl,by kernel_rfl⟩,?_⟩|refine ⟨by decide,?_⟩|apply τt|apply τf))
        refine aop_callF (xs := [rulA r, .bp (0, s) 0]) (bx1 := metB s m) (pm1 := []) [((3, nx1), .c [strA r.name, int r.act.1, int r.act.2, cnds r.conds]), ((2, nx + 1), .c [int 0, int 0]), ((1, nx), .c [int k, int n, boolA x32, ruls rs])] [] 4 rfl rfl rfl rfl ⟨AVle.refl _, AVle.refl _, trivial⟩ (blind1_spec s m r (nx1 + 1)) (BxLe.refl _) (PmEq.refl _) rfl fun v h' hq => ?_
        obtain ⟨rfl, nx2, rfl⟩ := hq
        cases m with
        | true =>
          (repeat((conv=>whnf);first|apply ω0|apply ω1|apply ω2|refine τ3 rfl ?_|refine τ4 rfl ?_|refine ⟨rfl,?_⟩|apply τa|refine τb rfl ?_|refine ⟨⟨by kernel_rfl,by kernel_rfl⟩,?_⟩|refine ⟨by decide,?_⟩|apply τt|apply τf))
          exact back (i + 1, true, nx2) ⟨hi, (fun h => by cases h), fun _ => h3 rfl⟩ (by dsimp only; omega) (ele_tell (pm := []) (bx := [((2, nx + 1), .c [int 0, int 0]), ((1, nx), .c [int k, int n, boolA x32, ruls rs]), ((0, s), .c [boolA true])]) _ _ rfl rfl (.cons _ (List.Sublist.refl _)) (List.Sublist.refl _) (BxLe.refl _) trivial ⟨AVle.refl _, AVle.refl _, AVle.refl _, AVle.refl _, AVle.refl _, AVle.refl _, le_int (wrap_succ (by first | omega | (dsimp only; omega))), trivial⟩)
        | false =>
          have hfnd : rs.find? (fun r => kS r.name nm) = some r := by
            have := find_first (q := fun r => kS r.name nm) hi (h2 rfl) (by rw [hr]; exact hc2)
            rw [hr] at this
            exact this
          generalize hd0 : decide (r.conds.length = 0) = dd
          cases dd with
          | true =>
            have hd : blindP ⟨(k, n), x32, rs⟩ nm = r.act := by unfold blindP; rw [hfnd]; exact if_pos (of_decide_eq_true hd0)
            (repeat((conv=>whnf);first|apply ω0|apply ω1|apply ω2|refine τ3 rfl ?_|refine τ4 rfl ?_|refine ⟨rfl,?_⟩|apply τa|refine τb rfl ?_|refine ⟨⟨by kernel_rfl,by kernel_rfl⟩,?_⟩|refine ⟨by decide,?_⟩|apply τt|apply τf))
            refine ret_all rfl ⟨rfl, trivial⟩ ⟨actP r.act, ⟨metB s true, [], nx2, 1⟩, AVle.refl _, ?_, by rw [hd], true, nx2, rfl⟩
            exact hle_tell (metB s true) [] rfl (.cons _ (.cons _ (.cons _ (List.Sublist.refl _)))) (List.Sublist.refl _) (BxLe.refl _) (PmEq.refl _)
          | false =>
            have hd : blindP ⟨(k, n), x32, rs⟩ nm = (k, n) := by unfold blindP; rw [hfnd]; exact if_neg (of_decide_eq_false hd0)
            (repeat((conv=>whnf);first|apply ω0|apply ω1|apply ω2|refine τ3 rfl ?_|refine τ4 rfl ?_|refine ⟨rfl,?_⟩|apply τa|refine τb rfl ?_|refine ⟨⟨by kernel_rfl,by kernel_rfl⟩,?_⟩|refine ⟨by decide,?_⟩|apply τt|apply τf))
            exact back (i + 1, true, nx2) ⟨hi, (fun h => by cases h), fun _ => hd⟩ (by dsimp only; omega) (ele_tell (pm := []) (bx := [((2, nx + 1), .c [int 0, int 0]), ((1, nx), .c [int k, int n, boolA x32, ruls rs]), ((0, s), .c [boolA true])]) _ _ rfl rfl (.cons _ (List.Sublist.refl _)) (List.Sublist.refl _) (BxLe.refl _) trivial ⟨AVle.refl _, AVle.refl _, AVle.refl _, AVle.refl _, AVle.refl _, AVle.refl _, le_int (wrap_succ (by first | omega | (dsimp only; omega))), trivial⟩)
      · (repeat((conv=>whnf);first|apply ω0|apply ω1|apply ω2|refine τ3 rfl ?_|refine τ4 rfl ?_|refine ⟨rfl,?_⟩|apply τa|refine τb rfl ?_|refine ⟨⟨by kernel_rfl,by kernel_rfl⟩,?_⟩|refine ⟨by decide,?_⟩|apply τt|apply τf))
        exact back (i + 1, m, nx1 + 1) ⟨hi, fun hm j hj => by dsimp only at hj; rcases Nat.lt_or_ge j i with q | q; exact h2 hm j q; rw [show j = i by omega, hr]; exact hc2, h3⟩ (by dsimp only; omega) (ele_tell (pm := []) (bx := [((2, nx + 1), .c [int 0, int 0]), ((1, nx), .c [int k, int n, boolA x32, ruls rs]), ((0, s), .c [boolA m])]) _ _ rfl rfl (.cons _ (List.Sublist.refl _)) (List.Sublist.refl _) (BxLe.refl _) trivial ⟨AVle.refl _, AVle.refl _, AVle.refl _, AVle.refl _, AVle.refl _, AVle.refl _, le_int (wrap_succ (by first | omega | (dsimp only; omega))), trivial⟩)
theorem blind_spec (p : Pol) (nm : ByteArray) (hl : p.rules.length ≤ 1000000) : Tells Tryz.prog 14 [polA p, strA nm] (actP (blindP p nm)) := by
  have hf := first_blind p nm hl
  generalize blindP p nm = a at hf
  obtain ⟨k', n'⟩ := a
  obtain ⟨⟨k, n⟩, x32, rs⟩ := p
  refine tells_of_aw Tryz.func14 rfl rfl fun nx => ?_
  (repeat((conv=>whnf);first|apply ω0|apply ω1|apply ω2|refine τ3 rfl ?_|refine τ4 rfl ?_|refine ⟨rfl,?_⟩|apply τa|refine τb rfl ?_|refine ⟨⟨by kernel_rfl,by kernel_rfl⟩,?_⟩|refine ⟨by decide,?_⟩|apply τt|apply τf))
  refine aop_callP (xs := [polA ⟨(k, n), x32, rs⟩, strA nm, .fn (.func 48) [] [.bp (0, nx + 2) 0]]) (bx1 := [((2, nx + 2), .c [boolA false])]) (pm1 := []) [((1, nx + 1), .c [int 0, int 0]), ((0, nx), .c [int k, int n, boolA x32, ruls rs])] [] 3 rfl rfl rfl rfl ⟨AVle.refl _, AVle.refl _, AVle.fn_caps ⟨AVle.bp_nm rfl, trivial⟩, trivial⟩ (hf (nx + 2) (nx + 3)) ⟨rfl, OwnLe.refl _, trivial⟩ (PmEq.refl _) rfl fun v h' hq => ?_
  obtain ⟨rfl, m, nx2, rfl⟩ := hq
  (repeat((conv=>whnf);first|apply ω0|apply ω1|apply ω2|refine τ3 rfl ?_|refine τ4 rfl ?_|refine ⟨rfl,?_⟩|apply τa|refine τb rfl ?_|refine ⟨⟨by kernel_rfl,by kernel_rfl⟩,?_⟩|refine ⟨by decide,?_⟩|apply τt|apply τf))
  exact ret_tells_all rfl ⟨rfl, trivial⟩ (AVle.refl _)
end Go.Proofs.W

namespace Go.Proofs.W
open Go.Vl
set_option maxRecDepth 100000

def fewB (l : List TRow) : Bool := decide (l.length ≤ 40) && !l.any fun r => decide (60 < r.name.size)
end Go.Proofs.W

namespace Go.Proofs.W
open Go.Vl
set_option maxRecDepth 100000

end Go.Proofs.W

namespace Go.Proofs.W
open Go.Vl
set_option maxRecDepth 100000

end Go.Proofs.W

namespace Go.Proofs.W
open Go.Vl
set_option maxRecDepth 100000

def okN (n : Nat) : Bool := (decide (97 ≤ n) && decide (n ≤ 122)) || (decide (48 ≤ n) && decide (n ≤ 57)) || decide (n = 95)
theorem signs_all : ∀ n, n < 256 → signsB.data.toList.contains (UInt8.ofNat n) = okN n := by decide +kernel
theorem letters_all : ∀ n, n < 256 → lettersB.data.toList.contains (UInt8.ofNat n) = (decide (97 ≤ n) && decide (n ≤ 122)) := by decide +kernel
theorem signs_ok (b : UInt8) : signsB.data.toList.contains b = okN b.toNat := by
  have := signs_all b.toNat b.toNat_lt
  rwa [UInt8.ofNat_toNat] at this
theorem letters_ok (b : UInt8) : lettersB.data.toList.contains b = (decide (97 ≤ b.toNat) && decide (b.toNat ≤ 122)) := by
  have := letters_all b.toNat b.toNat_lt
  rwa [UInt8.ofNat_toNat] at this
/-- As the reference asks. -/
theorem nameB_ref (l : List UInt8) : nameB l = true ↔ l.length ≠ 0 ∧ l.length ≤ 30 ∧ 97 ≤ (l.headD 0).toNat ∧ (l.headD 0).toNat ≤ 122 ∧ l ≠ defaultL ∧ l ≠ x32L ∧ ∀ j, j < l.length → okN (l.getD j 0).toNat = true := by
  unfold nameB
  simp only [Bool.and_eq_true, Bool.not_eq_true', beq_eq_false_iff_ne, decide_eq_true_eq, letters_ok, List.all_eq_true, signs_ok]
  constructor
  · rintro ⟨h1, h2, h3, h4, h5, h6, h7⟩
    refine ⟨fun h => h1 (List.length_eq_zero_iff.1 h), h4, h6, h7, h2, h3, fun j hj => ?_⟩
    exact h5 _ (by simp [List.getD, hj])
  · rintro ⟨h1, h2, h3, h4, h5, h6, h7⟩
    refine ⟨fun h => h1 (by rw [h]; rfl), h5, h6, h2, fun x hx => ?_, h3, h4⟩
    obtain ⟨j, hj, rfl⟩ := List.getElem_of_mem hx
    have := h7 j hj
    simpa [List.getD, hj] using this
end Go.Proofs.W

namespace Go.Proofs.W
open Go.Vl
set_option maxRecDepth 100000

end Go.Proofs.W

namespace Go.Proofs.W
open Go.Vl
set_option maxRecDepth 100000

end Go.Proofs.W

namespace Go.Proofs.W
open Go.Vl
set_option maxRecDepth 100000

def selI (arch num : Nat) : Int := match selO arch num with
  | some a => a
  | none => -1
end Go.Proofs.W

namespace Go.Proofs.W
open Go.Vl
set_option maxRecDepth 100000

end Go.Proofs.W

namespace Go.Proofs.W
open Go.Vl
set_option maxRecDepth 100000

end Go.Proofs.W

namespace Go.Proofs.W
open Go.Vl
set_option maxRecDepth 100000

/-- The row that a record calls. -/
def atO (l : List TRow) (r : Rec) : Option Nat := match selO r.arch r.num with
  | none => none
  | some a => if 0 < kindO a r.num then l.findIdx? (subB (kindO a r.num) ((r.a0 % 4294967296 : Nat) : Int)) else l.findIdx? (nameB5 a ((ownI a r.num : Nat) : Int))
def muxB (r : Rec) : Bool := match selO r.arch r.num with
  | none => false
  | some a => decide (0 < kindO a r.num)
end Go.Proofs.W

namespace Go.Proofs.W
open Go.Vl
set_option maxRecDepth 100000

theorem arg_lt {r : Rec} (h : r.ok) (k : Nat) : r.arg k < 18446744073709551616 := by
  obtain ⟨_, _, _, h0, h1, h2, h3, h4, h5⟩ := h
  unfold Rec.arg; split <;> assumption
end Go.Proofs.W

namespace Go.Proofs.W
open Go.Vl
set_option maxRecDepth 100000

def muxBad (r : TRow) : Bool := decide (r.mux < 0) || (decide (2 < r.mux) || ((decide (r.mux = 0) && decide (r.sub ≠ 0)) || (decide (0 < r.mux) && (decide (r.sub < 1) || decide (255 < r.sub)))))
theorem ranged_eq (r : TRow) : rangedR r = (!badR r && !muxBad r) := by
  unfold rangedR
  congr 1
  unfold muxBad
  by_cases h : r.mux = 0
  · rw [if_pos h, h]; simp
  · rw [if_neg h, Bool.eq_iff_iff]; simp; omega
def clashN (r s : TRow) : Bool := [0, 1, 2, 3, 4].any fun a => decide (0 ≤ r.num a) && decide (s.num a = r.num a)
def clashM (r s : TRow) : Bool := decide (0 < r.mux) && (decide (s.mux = r.mux) && decide (s.sub = r.sub))
def clashB (l : List TRow) (i : Nat) : Bool := (l.take i).any fun s => clashN (l.getD i trow0) s || clashM (l.getD i trow0) s
def a2Bad (r : TRow) : Bool := decide (r.a2 = 102) || decide (r.a2 = 117)
def rowI (l : List TRow) (i : Nat) : Int := if nameB (l.getD i trow0).name.data.toList = false then 13 else if ordB l i then 15 else if badR (l.getD i trow0) then 16 else if muxBad (l.getD i trow0) then 16 else if a2Bad (l.getD i trow0) then 17 else if clashB l i then 15 else 0
theorem rowI_13 {l : List TRow} {i : Nat} (h : nameB (l.getD i trow0).name.data.toList = false) : rowI l i = 13 := if_pos h
theorem rowI_ord {l : List TRow} {i : Nat} (h : nameB (l.getD i trow0).name.data.toList = true) : rowI l i = if ordB l i then 15 else if badR (l.getD i trow0) then 16 else if muxBad (l.getD i trow0) then 16 else if a2Bad (l.getD i trow0) then 17 else if clashB l i then 15 else 0 := if_neg (by rw [h]; decide)
theorem clash_true {l : List TRow} {i k : Nat} {r : TRow} (hr : l.getD i trow0 = r) (hk : k < i) (hi : i < l.length) (h : (clashN r (l.getD k trow0) || clashM r (l.getD k trow0)) = true) : clashB l i = true := by
  unfold clashB
  rw [hr, List.any_eq_true]
  refine ⟨l.getD k trow0, ?_, h⟩
  rw [List.mem_iff_getElem]
  exact ⟨k, by rw [List.length_take]; omega, by rw [List.getElem_take]; simp [List.getD, show k < l.length by omega]⟩
def cN (r s : TRow) (a : Nat) : Bool := decide (r.num a ≥ 0) && decide (s.num a = r.num a)
theorem clashN_true {r s : TRow} {a : Nat} (ha : a < 5) (h : cN r s a = true) : clashN r s = true := by
  unfold clashN
  rw [List.any_eq_true]
  exact ⟨a, by simp; omega, h⟩
theorem bad_some {r : TRow} {k : Nat} (hk : k < 5) (h : true = badN (r.num k)) : badR r = true := by
  rcases (by omega : k = 0 ∨ k = 1 ∨ k = 2 ∨ k = 3 ∨ k = 4) with rfl | rfl | rfl | rfl | rfl
  all_goals
    have h' : badN (r.num _) = true := h.symm
    simp only [TRow.num] at h'
    simp [badR, h']
end Go.Proofs.W

namespace Go.Proofs.W
open Go.Vl
set_option maxRecDepth 100000

def right11 (l : List TRow) : Int × Int := if 400 < l.length then (0, 3) else match (List.range l.length).find? (fun i => decide (rowI l i ≠ 0)) with
  | some i => ((i : Int), rowI l i)
  | none => (0, 0)
theorem find_range {n : Nat} {p : Nat → Bool} {i : Nat} (hi : i < n) (h : ∀ j, j < i → p j = false) (hp : p i = true) : (List.range n).find? p = some i := by
  rw [List.find?_range_eq_some]
  exact ⟨hp, List.mem_range.2 hi, fun j hj => by rw [h j hj]; rfl⟩
theorem find_range0 {n : Nat} {p : Nat → Bool} (h : ∀ j, j < n → p j = false) : (List.range n).find? p = none := by
  rw [List.find?_eq_none]
  intro x hx
  rw [h x (List.mem_range.1 hx)]; decide
end Go.Proofs.W
