import Derived.Test.YtghikejaadkalaaGreatDoorD
import Derived.Sort.LotA
import Derived.KernelRfl
import Derived.Test.YtghikejaadkalaaGreatDoorProg
import Derived.Test.YtghikejaadkalaaGreatDoorC
import Derived.Shelf.SortM.Plain
import Derived.Shelf.SortM.SortNone
import Derived.Shelf.SlGeneric
import Derived.Ground.SlgmProg
set_option linter.unusedVariables false
set_option linter.unusedSimpArgs false
namespace Go.Proofs.W
open Go.Vl
set_option maxRecDepth 100000

/-- How numbers stand; the first that is not 0. -/
def cmpN (a b : Int) : Int := if a < b then -1 else if b < a then 1 else 0
def orL : List Int → Int
  | [] => 0
  | x :: l => if x = 0 then orL l else x
theorem cmpInt_spec (a b : Int) : Tells Tryz.prog 165 [int a, int b] (int (cmpN a b)) := by
  have hn : ∀ z : Int, Tells Tryz.prog 211 [int z] (boolA false) := fun z => by
    refine tells_of_aw Tryz.func211 rfl rfl fun nx => ?_
    (repeat((conv=>whnf);first|apply ω0|apply ω1|apply ω2|refine τ3 rfl ?_|refine τ4 rfl ?_|refine ⟨rfl,?_⟩|apply τa|refine τb rfl ?_|refine ⟨⟨by kernel_rfl,by kernel_rfl⟩,?_⟩|refine ⟨by decide,?_⟩|apply τt|apply τf))
    (intro c hc; (first | (rw [bne_self_eq_false] at hc; subst hc) | (obtain rfl : c = false := hc.trans (bne_self_eq_false _))); (repeat((conv=>whnf);first|apply ω0|apply ω1|apply ω2|refine τ3 rfl ?_|refine τ4 rfl ?_|refine ⟨rfl,?_⟩|apply τa|refine τb rfl ?_|refine ⟨⟨by kernel_rfl,by kernel_rfl⟩,?_⟩|refine ⟨by decide,?_⟩|apply τt|apply τf)))
    exact ret_tells rfl (AVle.refl _)
  refine tells_of_aw Tryz.func165 rfl rfl fun nx => ?_
  (repeat((conv=>whnf);first|apply ω0|apply ω1|apply ω2|refine τ3 rfl ?_|refine τ4 rfl ?_|refine ⟨rfl,?_⟩|apply τa|refine τb rfl ?_|refine ⟨⟨by kernel_rfl,by kernel_rfl⟩,?_⟩|refine ⟨by decide,?_⟩|apply τt|apply τf))
  refine aop_tells rfl rfl (hn a) ⟨AVle.refl _, trivial⟩ fun nx1 => ?_
  (repeat((conv=>whnf);first|apply ω0|apply ω1|apply ω2|refine τ3 rfl ?_|refine τ4 rfl ?_|refine ⟨rfl,?_⟩|apply τa|refine τb rfl ?_|refine ⟨⟨by kernel_rfl,by kernel_rfl⟩,?_⟩|refine ⟨by decide,?_⟩|apply τt|apply τf))
  refine aop_tells rfl rfl (hn b) ⟨AVle.refl _, trivial⟩ fun nx2 => ?_
  (repeat((conv=>whnf);first|apply ω0|apply ω1|apply ω2|refine τ3 rfl ?_|refine τ4 rfl ?_|refine ⟨rfl,?_⟩|apply τa|refine τb rfl ?_|refine ⟨⟨by kernel_rfl,by kernel_rfl⟩,?_⟩|refine ⟨by decide,?_⟩|apply τt|apply τf))
  intro c h; cases c
  · have h := not_of h
    (repeat((conv=>whnf);first|apply ω0|apply ω1|apply ω2|refine τ3 rfl ?_|refine τ4 rfl ?_|refine ⟨rfl,?_⟩|apply τa|refine τb rfl ?_|refine ⟨⟨by kernel_rfl,by kernel_rfl⟩,?_⟩|refine ⟨by decide,?_⟩|apply τt|apply τf))
    intro c g; cases c
    · have g := not_of g
      (repeat((conv=>whnf);first|apply ω0|apply ω1|apply ω2|refine τ3 rfl ?_|refine τ4 rfl ?_|refine ⟨rfl,?_⟩|apply τa|refine τb rfl ?_|refine ⟨⟨by kernel_rfl,by kernel_rfl⟩,?_⟩|refine ⟨by decide,?_⟩|apply τt|apply τf))
      exact ret_tells rfl (le_int (by unfold cmpN; rw [if_neg h, if_neg g]))
    · have g := yes_of g
      (repeat((conv=>whnf);first|apply ω0|apply ω1|apply ω2|refine τ3 rfl ?_|refine τ4 rfl ?_|refine ⟨rfl,?_⟩|apply τa|refine τb rfl ?_|refine ⟨⟨by kernel_rfl,by kernel_rfl⟩,?_⟩|refine ⟨by decide,?_⟩|apply τt|apply τf))
      exact ret_tells rfl (le_int (by unfold cmpN; rw [if_neg h, if_pos g]))
  · have h := yes_of h
    (repeat((conv=>whnf);first|apply ω0|apply ω1|apply ω2|refine τ3 rfl ?_|refine τ4 rfl ?_|refine ⟨rfl,?_⟩|apply τa|refine τb rfl ?_|refine ⟨⟨by kernel_rfl,by kernel_rfl⟩,?_⟩|refine ⟨by decide,?_⟩|apply τt|apply τf))
    exact ret_tells rfl (le_int (by unfold cmpN; rw [if_pos h]))
theorem cmpU64_spec (a b : Nat) : Tells Tryz.prog 166 [u64 a, u64 b] (int (cmpN a b)) := by
  have hn : ∀ z : Nat, Tells Tryz.prog 212 [u64 z] (boolA false) := fun z => by
    refine tells_of_aw Tryz.func212 rfl rfl fun nx => ?_
    (repeat((conv=>whnf);first|apply ω0|apply ω1|apply ω2|refine τ3 rfl ?_|refine τ4 rfl ?_|refine ⟨rfl,?_⟩|apply τa|refine τb rfl ?_|refine ⟨⟨by kernel_rfl,by kernel_rfl⟩,?_⟩|refine ⟨by decide,?_⟩|apply τt|apply τf))
    (intro c hc; (first | (rw [bne_self_eq_false] at hc; subst hc) | (obtain rfl : c = false := hc.trans (bne_self_eq_false _))); (repeat((conv=>whnf);first|apply ω0|apply ω1|apply ω2|refine τ3 rfl ?_|refine τ4 rfl ?_|refine ⟨rfl,?_⟩|apply τa|refine τb rfl ?_|refine ⟨⟨by kernel_rfl,by kernel_rfl⟩,?_⟩|refine ⟨by decide,?_⟩|apply τt|apply τf)))
    exact ret_tells rfl (AVle.refl _)
  refine tells_of_aw Tryz.func166 rfl rfl fun nx => ?_
  (repeat((conv=>whnf);first|apply ω0|apply ω1|apply ω2|refine τ3 rfl ?_|refine τ4 rfl ?_|refine ⟨rfl,?_⟩|apply τa|refine τb rfl ?_|refine ⟨⟨by kernel_rfl,by kernel_rfl⟩,?_⟩|refine ⟨by decide,?_⟩|apply τt|apply τf))
  refine aop_tells rfl rfl (hn a) ⟨AVle.refl _, trivial⟩ fun nx1 => ?_
  (repeat((conv=>whnf);first|apply ω0|apply ω1|apply ω2|refine τ3 rfl ?_|refine τ4 rfl ?_|refine ⟨rfl,?_⟩|apply τa|refine τb rfl ?_|refine ⟨⟨by kernel_rfl,by kernel_rfl⟩,?_⟩|refine ⟨by decide,?_⟩|apply τt|apply τf))
  refine aop_tells rfl rfl (hn b) ⟨AVle.refl _, trivial⟩ fun nx2 => ?_
  (repeat((conv=>whnf);first|apply ω0|apply ω1|apply ω2|refine τ3 rfl ?_|refine τ4 rfl ?_|refine ⟨rfl,?_⟩|apply τa|refine τb rfl ?_|refine ⟨⟨by kernel_rfl,by kernel_rfl⟩,?_⟩|refine ⟨by decide,?_⟩|apply τt|apply τf))
  intro c h; cases c
  · have h := not_of h
    (repeat((conv=>whnf);first|apply ω0|apply ω1|apply ω2|refine τ3 rfl ?_|refine τ4 rfl ?_|refine ⟨rfl,?_⟩|apply τa|refine τb rfl ?_|refine ⟨⟨by kernel_rfl,by kernel_rfl⟩,?_⟩|refine ⟨by decide,?_⟩|apply τt|apply τf))
    intro c g; cases c
    · have g := not_of g
      (repeat((conv=>whnf);first|apply ω0|apply ω1|apply ω2|refine τ3 rfl ?_|refine τ4 rfl ?_|refine ⟨rfl,?_⟩|apply τa|refine τb rfl ?_|refine ⟨⟨by kernel_rfl,by kernel_rfl⟩,?_⟩|refine ⟨by decide,?_⟩|apply τt|apply τf))
      exact ret_tells rfl (le_int (by unfold cmpN; rw [if_neg h, if_neg g]))
    · have g := yes_of g
      (repeat((conv=>whnf);first|apply ω0|apply ω1|apply ω2|refine τ3 rfl ?_|refine τ4 rfl ?_|refine ⟨rfl,?_⟩|apply τa|refine τb rfl ?_|refine ⟨⟨by kernel_rfl,by kernel_rfl⟩,?_⟩|refine ⟨by decide,?_⟩|apply τt|apply τf))
      exact ret_tells rfl (le_int (by unfold cmpN; rw [if_neg h, if_pos g]))
  · have h := yes_of h
    (repeat((conv=>whnf);first|apply ω0|apply ω1|apply ω2|refine τ3 rfl ?_|refine τ4 rfl ?_|refine ⟨rfl,?_⟩|apply τa|refine τb rfl ?_|refine ⟨⟨by kernel_rfl,by kernel_rfl⟩,?_⟩|refine ⟨by decide,?_⟩|apply τt|apply τf))
    exact ret_tells rfl (le_int (by unfold cmpN; rw [if_pos h]))
theorem orL_at {l : List Int} {i : Nat} (hi : i < l.length) (h : ∀ j, j < i → l.getD j 0 = 0) (hx : l.getD i 0 ≠ 0) : orL l = l.getD i 0 := by
  induction l generalizing i with
  | nil => cases hi
  | cons x l ih =>
    cases i with
    | zero => simp at hx; simp [orL, hx]
    | succ i =>
      have h0 : x = 0 := by simpa using h 0 (by omega)
      simp only [orL, h0, if_true]
      rw [ih (i := i) (by simpa using hi) (fun j hj => by simpa using h (j + 1) (by omega)) (by simpa using hx)]
      simp
theorem orL_none {l : List Int} (h : ∀ j, j < l.length → l.getD j 0 = 0) : orL l = 0 := by
  induction l with
  | nil => rfl
  | cons x l ih =>
    have h0 : x = 0 := by simpa using h 0 (by simp)
    simp only [orL, h0, if_true]
    exact ih (fun j hj => by simpa using h (j + 1) (by simpa using hj))
theorem or_spec (l : List Int) (hl : l.length ≤ 1000000) : Tells Tryz.prog 164 [slOf 1 int 0 l] (int (orL l)) := by
  refine tells_of_aw Tryz.func164 rfl rfl fun nx => ?_
  (repeat((conv=>whnf);first|apply ω0|apply ω1|apply ω2|refine τ3 rfl ?_|refine τ4 rfl ?_|refine ⟨rfl,?_⟩|apply τa|refine τb rfl ?_|refine ⟨⟨by kernel_rfl,by kernel_rfl⟩,?_⟩|refine ⟨by decide,?_⟩|apply τt|apply τf))
  refine aw_loop (fun s : Nat × Nat => mk 18 [(3, int 0), (6, slOf 1 int 0 l), (7, int l.length), (8, int s.1)] ⟨[], [], s.2, 0⟩) (fun s => s.1 ≤ l.length ∧ ∀ j, j < s.1 → l.getD j 0 = 0) (fun s => l.length - s.1) ?_ ?_
  · exact ⟨(0, nx), ⟨by simp, by intro j hj; simp at hj⟩, ele_mk rfl rfl ⟨AVle.refl _, AVle.refl _, AVle.refl _, AVle.refl _, trivial⟩⟩
  · rintro ⟨i, nx⟩ ⟨h1, h2⟩
    dsimp only at h1 h2
    (repeat((conv=>whnf);first|apply ω0|apply ω1|apply ω2|refine τ3 rfl ?_|refine τ4 rfl ?_|refine ⟨rfl,?_⟩|apply τa|refine τb rfl ?_|refine ⟨⟨by kernel_rfl,by kernel_rfl⟩,?_⟩|refine ⟨by decide,?_⟩|apply τt|apply τf))
    intro c h3; cases c
    · have h3 := not_of h3
      dsimp only at h3
      (repeat((conv=>whnf);first|apply ω0|apply ω1|apply ω2|refine τ3 rfl ?_|refine τ4 rfl ?_|refine ⟨rfl,?_⟩|apply τa|refine τb rfl ?_|refine ⟨⟨by kernel_rfl,by kernel_rfl⟩,?_⟩|refine ⟨by decide,?_⟩|apply τt|apply τf))
      exact ret_tells rfl (le_int (orL_none (fun j hj => h2 j (by omega))).symm)
    · have h3 := yes_of h3
      dsimp only at h3
      have hi : i < l.length := by omega
      (repeat((conv=>whnf);first|apply ω0|apply ω1|apply ω2|refine τ3 rfl ?_|refine τ4 rfl ?_|refine ⟨rfl,?_⟩|apply τa|refine τb rfl ?_|refine ⟨⟨by kernel_rfl,by kernel_rfl⟩,?_⟩|refine ⟨by decide,?_⟩|apply τt|apply τf))
      refine ⟨⟨by first | omega | (dsimp only; omega), by first | omega | (dsimp only; omega)⟩, ?_⟩
      (repeat((conv=>whnf);first|apply ω0|apply ω1|apply ω2|refine τ3 rfl ?_|refine τ4 rfl ?_|refine ⟨rfl,?_⟩|apply τa|refine τb rfl ?_|refine ⟨⟨by kernel_rfl,by kernel_rfl⟩,?_⟩|refine ⟨by decide,?_⟩|apply τt|apply τf))
      intro c h4; cases c
      · have h4 : l.getD i 0 = 0 := by simpa using h4
        (repeat((conv=>whnf);first|apply ω0|apply ω1|apply ω2|refine τ3 rfl ?_|refine τ4 rfl ?_|refine ⟨rfl,?_⟩|apply τa|refine τb rfl ?_|refine ⟨⟨by kernel_rfl,by kernel_rfl⟩,?_⟩|refine ⟨by decide,?_⟩|apply τt|apply τf))
        exact back (i + 1, nx) ⟨hi, fun j hj => by rcases Nat.lt_or_ge j i with q | q; exact h2 j q; rw [show j = i by omega]; exact h4⟩ (by dsimp only; omega) (ele_mk rfl rfl ⟨AVle.refl _, AVle.refl _, AVle.refl _, le_int (wrap_succ (by dsimp only; omega)), trivial⟩)
      · have h4 : l.getD i 0 ≠ 0 := by simpa using h4
        (repeat((conv=>whnf);first|apply ω0|apply ω1|apply ω2|refine τ3 rfl ?_|refine τ4 rfl ?_|refine ⟨rfl,?_⟩|apply τa|refine τb rfl ?_|refine ⟨⟨by kernel_rfl,by kernel_rfl⟩,?_⟩|refine ⟨by decide,?_⟩|apply τt|apply τf))
        exact ret_tells rfl (le_int (orL_at hi h2 h4).symm)
def ordC (a b : Cnd) : Int := orL [cmpN a.arg b.arg, cmpN a.op b.op, cmpN a.mask b.mask, cmpN a.value b.value]
theorem order_spec (a b : Cnd) : Tells Tryz.prog 122 [cndA a, cndA b] (int (ordC a b)) := by
  refine tells_of_aw Tryz.func122 rfl rfl fun nx => ?_
  (repeat((conv=>whnf);first|apply ω0|apply ω1|apply ω2|refine τ3 rfl ?_|refine τ4 rfl ?_|refine ⟨rfl,?_⟩|apply τa|refine τb rfl ?_|refine ⟨⟨by kernel_rfl,by kernel_rfl⟩,?_⟩|refine ⟨by decide,?_⟩|apply τt|apply τf))
  (refine aw_draw 22 ?_ ?_ ?_ ?_; (· kernel_rfl); (· kernel_rfl); (· kernel_rfl))
  (repeat((conv=>whnf);first|apply ω0|apply ω1|apply ω2|refine τ3 rfl ?_|refine τ4 rfl ?_|refine ⟨rfl,?_⟩|apply τa|refine τb rfl ?_|refine ⟨⟨by kernel_rfl,by kernel_rfl⟩,?_⟩|refine ⟨by decide,?_⟩|apply τt|apply τf))
  refine ex_yields (yields_tells rfl rfl (cmpInt_spec a.arg b.arg) ⟨AVle.refl _, AVle.refl _, trivial⟩ (NoId.v _)) ?_
  (repeat((conv=>whnf);first|apply ω0|apply ω1|apply ω2|refine τ3 rfl ?_|refine τ4 rfl ?_|refine ⟨rfl,?_⟩|apply τa|refine τb rfl ?_|refine ⟨⟨by kernel_rfl,by kernel_rfl⟩,?_⟩|refine ⟨by decide,?_⟩|apply τt|apply τf))
  refine ex_yields (yields_tells rfl rfl (cmpInt_spec a.op b.op) ⟨AVle.refl _, AVle.refl _, trivial⟩ (NoId.v _)) ?_
  (repeat((conv=>whnf);first|apply ω0|apply ω1|apply ω2|refine τ3 rfl ?_|refine τ4 rfl ?_|refine ⟨rfl,?_⟩|apply τa|refine τb rfl ?_|refine ⟨⟨by kernel_rfl,by kernel_rfl⟩,?_⟩|refine ⟨by decide,?_⟩|apply τt|apply τf))
  refine ex_yields (yields_tells rfl rfl (cmpU64_spec a.mask b.mask) ⟨AVle.refl _, AVle.refl _, trivial⟩ (NoId.v _)) ?_
  (repeat((conv=>whnf);first|apply ω0|apply ω1|apply ω2|refine τ3 rfl ?_|refine τ4 rfl ?_|refine ⟨rfl,?_⟩|apply τa|refine τb rfl ?_|refine ⟨⟨by kernel_rfl,by kernel_rfl⟩,?_⟩|refine ⟨by decide,?_⟩|apply τt|apply τf))
  refine ex_yields (yields_tells rfl rfl (cmpU64_spec a.value b.value) ⟨AVle.refl _, AVle.refl _, trivial⟩ (NoId.v _)) ?_
  (repeat((conv=>whnf);first|apply ω0|apply ω1|apply ω2|refine τ3 rfl ?_|refine τ4 rfl ?_|refine ⟨rfl,?_⟩|apply τa|refine τb rfl ?_|refine ⟨⟨by kernel_rfl,by kernel_rfl⟩,?_⟩|refine ⟨by decide,?_⟩|apply τt|apply τf))
  refine ex_yields (yields_tells rfl rfl (or_spec [cmpN a.arg b.arg, cmpN a.op b.op, cmpN a.mask b.mask, cmpN a.value b.value] (by show 4 ≤ 1000000; omega)) ⟨?_, trivial⟩ (NoId.v _)) ?_
  · (conv => arg 1; whnf)
    refine AVle.trans AVle.os_sl (AVle.sl_fun fun k hk => ?_)
    rcases (show k = 0 ∨ k = 1 ∨ k = 2 ∨ k = 3 by have hk : k < 4 := hk; omega) with rfl | rfl | rfl | rfl <;> rfl
  (repeat((conv=>whnf);first|apply ω0|apply ω1|apply ω2|refine τ3 rfl ?_|refine τ4 rfl ?_|refine ⟨rfl,?_⟩|apply τa|refine τb rfl ?_|refine ⟨⟨by kernel_rfl,by kernel_rfl⟩,?_⟩|refine ⟨by decide,?_⟩|apply τt|apply τf))
  exact ret_tells rfl (AVle.refl _)
end Go.Proofs.W

namespace Go.Proofs.W
open Go.Vl
set_option maxRecDepth 100000

instance : Inhabited Cnd := ⟨cnd0⟩
def eC (c : Cnd) : List AV := [int c.arg, int c.op, u64 c.mask, u64 c.value]
theorem eC_len (x : Cnd) : (eC x).length = 4 := rfl
theorem c_cnd : Tryz.prog.cellsOf 159 = 4 := by kernel_rfl
theorem u_cnd : (Tryz.prog.underlying 159).map agD = some true := by kernel_rfl
def rowHC (s : Nat) (d : Array Cnd) (tl : List AV) : List (Vl.Id × Own) := [((0, s), .c (rowK eC d tl))]
set_option maxHeartbeats 4000000 in
theorem ins_cnd (f : Nat) (lt : Cnd → Cnd → Bool) (cf : Cnd → Cnd → Int) (hf : ∀ a b, Tells Tryz.prog f [cndA a, cndA b] (int (cf a b))) (hlt : ∀ a b, lt a b = decide (cf a b < 0)) (d0 : Array Cnd) (tl : List AV) (n a b : Nat) (hn : d0.size = n) (hab : a ≤ b) (hb : b ≤ n) (hsz : n ≤ 1000000) (s cap nx : Nat) :
    ECall Tryz.prog 201 [.hs (0, s) 0 n cap, int a, int b, fn0 f] ⟨rowHC s d0 tl, [], nx, 1⟩ (fun r h' => ∃ nx' nn', h' = ⟨rowHC s (Go.Sort.insertionSort lt d0 a b) tl, [], nx', nn'⟩) := by
  refine ECall.wk (ecall_of_aw Tryz.func201 rfl rfl ?_)
  (repeat((conv=>whnf);first|apply ω0|apply ω1|apply ω2|refine τ3 rfl ?_|refine τ4 rfl ?_|refine ⟨rfl,?_⟩|apply τa|refine τb rfl ?_|refine ⟨⟨by kernel_rfl,by kernel_rfl⟩,?_⟩|refine ⟨by decide,?_⟩|apply τt|apply τf))
  refine aw_loop (fun y : Array Cnd × Nat × Nat => mk 53 [(0, .hs (0, s) 0 n cap), (1, int a), (2, int b), (3, fn0 f), (8, int y.2.1)] ⟨rowHC s y.1 tl, [], y.2.2, 1⟩) (fun y => y.1.size = n ∧ a + 1 ≤ y.2.1 ∧ y.2.1 ≤ b + 1 ∧ Go.Sort.insOuter lt a b y.2.1 y.1 = Go.Sort.insertionSort lt d0 a b) (fun y => b + 1 - y.2.1) ?_ ?_
  · exact ⟨(d0, a + 1, nx), ⟨hn, Nat.le_refl _, by dsimp only; omega, rfl⟩, ele_tell _ _ rfl rfl (List.Sublist.refl _) .slnil (BxLe.refl _) trivial ⟨AVle.refl _, AVle.refl _, AVle.refl _, AVle.refl _, le_int (wrap_succ (by first | omega | (dsimp only; omega))), trivial⟩⟩
  · rintro ⟨d, i, nx1⟩ ⟨h1, h2, h3, h4⟩
    dsimp only at h1 h2 h3 h4
    (repeat((conv=>whnf);first|apply ω0|apply ω1|apply ω2|refine τ3 rfl ?_|refine τ4 rfl ?_|refine ⟨rfl,?_⟩|apply τa|refine τb rfl ?_|refine ⟨⟨by kernel_rfl,by kernel_rfl⟩,?_⟩|refine ⟨by decide,?_⟩|apply τt|apply τf))
    intro c g; cases c
    · have g := not_of g
      try dsimp only at g
      rw [Go.Sort.insOuter, if_neg (by omega)] at h4
      subst h4
      (repeat((conv=>whnf);first|apply ω0|apply ω1|apply ω2|refine τ3 rfl ?_|refine τ4 rfl ?_|refine ⟨rfl,?_⟩|apply τa|refine τb rfl ?_|refine ⟨⟨by kernel_rfl,by kernel_rfl⟩,?_⟩|refine ⟨by decide,?_⟩|apply τt|apply τf))
      exact ret_is rfl ⟨_, _, AVle.refl _, hle_tell (rowHC s (Go.Sort.insertionSort lt d0 a b) tl) [] rfl (List.Sublist.refl _) .slnil (BxLe.refl _) (PmEq.refl _), _, 1, rfl⟩
    · have g := yes_of g
      try dsimp only at g
      have hi : i < b := by omega
      rw [Go.Sort.insOuter, if_pos hi] at h4
      (repeat((conv=>whnf);first|apply ω0|apply ω1|apply ω2|refine τ3 rfl ?_|refine τ4 rfl ?_|refine ⟨rfl,?_⟩|apply τa|refine τb rfl ?_|refine ⟨⟨by kernel_rfl,by kernel_rfl⟩,?_⟩|refine ⟨by decide,?_⟩|apply τt|apply τf))
      refine aw_loop (fun y : Array Cnd × Nat × Nat => mk 53 [(0, .hs (0, s) 0 n cap), (1, int a), (2, int b), (3, fn0 f), (8, int i), (9, int y.2.1)] ⟨rowHC s y.1 tl, [], y.2.2, 1⟩) (fun y => y.1.size = n ∧ y.2.1 ≤ i ∧ Go.Sort.insInner lt a y.2.1 y.1 = Go.Sort.insInner lt a i d) (fun y => y.2.1) ?_ ?_
      · exact ⟨(d, i, nx1), ⟨h1, Nat.le_refl _, rfl⟩, ele_tell _ _ rfl rfl (List.Sublist.refl _) .slnil (BxLe.refl _) trivial ⟨AVle.refl _, AVle.refl _, AVle.refl _, AVle.refl _, AVle.refl _, AVle.refl _, trivial⟩⟩
      · rintro ⟨e, j, nx2⟩ ⟨k1, k2, k3⟩
        dsimp only at k1 k2 k3
        by_cases hja : a < j
        · have hd : decide ((j : Int) > (a : Int)) = true := decide_eq_true (by omega)
          have hj1 : IntKind.i64.wrap ((j : Int) - 1) = ((j - 1 : Nat) : Int) := by rw [wrap_id (by omega) (by omega)]; omega
          (repeat((conv=>whnf);first|apply ω0|apply ω1|apply ω2|refine τ3 rfl ?_|refine τ4 rfl ?_|refine ⟨rfl,?_⟩|apply τa|refine τb rfl ?_|refine ⟨⟨by kernel_rfl,by kernel_rfl⟩,?_⟩|refine ⟨by decide,?_⟩|apply τt|apply τf))
          (refine aw_draw 16 ?_ ?_ ?_ ?_; (· kernel_rfl); (· kernel_rfl); (· kernel_rfl))
          (repeat((conv=>whnf);first|apply ω0|apply ω1|apply ω2|refine τ3 rfl ?_|refine τ4 rfl ?_|refine ⟨rfl,?_⟩|apply τa|refine τb rfl ?_|refine ⟨⟨by kernel_rfl,by kernel_rfl⟩,?_⟩|refine ⟨by decide,?_⟩|apply τt|apply τf))
          (conv => whnf)
          refine lit_eq hd ?_
          (repeat((conv=>whnf);first|apply ω0|apply ω1|apply ω2|refine τ3 rfl ?_|refine τ4 rfl ?_|refine ⟨rfl,?_⟩|apply τa|refine τb rfl ?_|refine ⟨⟨by kernel_rfl,by kernel_rfl⟩,?_⟩|refine ⟨by decide,?_⟩|apply τt|apply τf))
          refine ⟨⟨ixge (i := j) (rfl), ixlt (i := j) (rfl) (by omega)⟩, splitO_eq (b := .bp (0, s) (j * 4)) (congrArg (AV.bp (0, s)) (ixoK (i := j) c_cnd (rfl))) ?_⟩
          (conv => whnf)
          generalize hX : apure _ _ _ = X
          have hX2 : X = some (some (s = s), .ag (eC e[j]!)) := hX.symm.trans (apure_rowK eC_len (E := eC) (d := e) (tl := tl) (j := j) rfl rfl rfl rfl u_cnd c_cnd (by omega))
          clear hX; subst hX2
          refine ⟨rfl, ?_⟩
          (repeat((conv=>whnf);first|apply ω0|apply ω1|apply ω2|refine τ3 rfl ?_|refine τ4 rfl ?_|refine ⟨rfl,?_⟩|apply τa|refine τb rfl ?_|refine ⟨⟨by kernel_rfl,by kernel_rfl⟩,?_⟩|refine ⟨by decide,?_⟩|apply τt|apply τf))
          refine ⟨⟨ixge (i := j - 1) (hj1), ixlt (i := j - 1) (hj1) (by omega)⟩, splitO_eq (b := .bp (0, s) ((j - 1) * 4)) (congrArg (AV.bp (0, s)) (ixoK (i := j - 1) c_cnd (hj1))) ?_⟩
          (conv => whnf)
          generalize hX : apure _ _ _ = X
          have hX2 : X = some (some (s = s), .ag (eC e[j - 1]!)) := hX.symm.trans (apure_rowK eC_len (E := eC) (d := e) (tl := tl) (j := j - 1) rfl rfl rfl rfl u_cnd c_cnd (by omega))
          clear hX; subst hX2
          refine ⟨rfl, ?_⟩
          (repeat((conv=>whnf);first|apply ω0|apply ω1|apply ω2|refine τ3 rfl ?_|refine τ4 rfl ?_|refine ⟨rfl,?_⟩|apply τa|refine τb rfl ?_|refine ⟨⟨by kernel_rfl,by kernel_rfl⟩,?_⟩|refine ⟨by decide,?_⟩|apply τt|apply τf))
          refine ex_yields (yields_tells rfl rfl (hf e[j]! e[j - 1]!) ⟨AVle.refl _, AVle.refl _, trivial⟩ (NoId.v _)) ?_
          (repeat((conv=>whnf);first|apply ω0|apply ω1|apply ω2|refine τ3 rfl ?_|refine τ4 rfl ?_|refine ⟨rfl,?_⟩|apply τa|refine τb rfl ?_|refine ⟨⟨by kernel_rfl,by kernel_rfl⟩,?_⟩|refine ⟨by decide,?_⟩|apply τt|apply τf))
          intro c hl; cases c
          · have hl : lt e[j]! e[j - 1]! = false := (hlt _ _).trans hl.symm
            rw [insG_end hl] at k3
            subst k3
            (repeat((conv=>whnf);first|apply ω0|apply ω1|apply ω2|refine τ3 rfl ?_|refine τ4 rfl ?_|refine ⟨rfl,?_⟩|apply τa|refine τb rfl ?_|refine ⟨⟨by kernel_rfl,by kernel_rfl⟩,?_⟩|refine ⟨by decide,?_⟩|apply τt|apply τf))
            exact back (_, i + 1, nx2) ⟨k1, by dsimp only; omega, by dsimp only; omega, h4⟩ (by dsimp only; omega) (ele_tell _ _ rfl rfl (List.Sublist.refl _) .slnil (BxLe.refl _) trivial ⟨AVle.refl _, AVle.refl _, AVle.refl _, AVle.refl _, le_int (wrap_succ (by first | omega | (dsimp only; omega))), trivial⟩)
          · have hl : lt e[j]! e[j - 1]! = true := (hlt _ _).trans hl.symm
            rw [insG_go hja hl] at k3
            (repeat((conv=>whnf);first|apply ω0|apply ω1|apply ω2|refine τ3 rfl ?_|refine τ4 rfl ?_|refine ⟨rfl,?_⟩|apply τa|refine τb rfl ?_|refine ⟨⟨by kernel_rfl,by kernel_rfl⟩,?_⟩|refine ⟨by decide,?_⟩|apply τt|apply τf))
            refine aw_mix3 18 (fun i => match i with | 15 => true | 17 => true | _ => false) (fun i => match i with | 9 => true | 13 => true | _ => false) [0, 1, 2, 3, 4, 5, 6, 7, 8, 10, 11, 12, 9, 13, 14, 15, 16, 17] (by kernel_rfl) (by kernel_rfl) ?_
            (conv => whnf)
            refine ⟨⟨ixge (i := j - 1) (hj1), ixlt (i := j - 1) (hj1) (by omega)⟩, ?_⟩
            (conv => whnf)
            refine ⟨⟨ixge (i := j) (rfl), ixlt (i := j) (rfl) (by omega)⟩, ?_⟩
            (conv => whnf)
            refine ⟨.ag (eC e[j - 1]!), now_rowK eC_len (E := eC) (d := e) (tl := tl) (j := j - 1) rfl rfl rfl (ixoK (i := j - 1) c_cnd (hj1)) rfl u_cnd c_cnd (by omega), ?_⟩
            (conv => whnf)
            refine ⟨.ag (eC e[j]!), now_rowK eC_len (E := eC) (d := e) (tl := tl) (j := j) rfl rfl rfl (ixoK (i := j) c_cnd (rfl)) rfl u_cnd c_cnd (by omega), ?_⟩
            (conv => whnf)
            refine ⟨⟨ixge (i := j) (rfl), ixlt (i := j) (rfl) (by omega)⟩, ?_⟩
            (conv => whnf)
            refine ⟨_, eff_rowK eC_len (E := eC) (d := e) (tl := tl) (j := j) (z := e[j - 1]!) rfl rfl rfl rfl (ixoK (i := j) c_cnd (rfl)) rfl rfl rfl rfl (by kernel_rfl) c_cnd (by omega), fun r0 h0 hr0 => ?_⟩
            subst hr0
            (conv => whnf)
            refine ⟨⟨ixge (i := j - 1) (hj1), ixlt (i := j - 1) (hj1) (by omega)⟩, ?_⟩
            (conv => whnf)
            refine ⟨_, eff_rowK eC_len (E := eC) (d := e.setIfInBounds j e[j - 1]!) (tl := tl) (j := j - 1) (z := e[j]!) rfl rfl rfl rfl (ixoK (i := j - 1) c_cnd (hj1)) rfl rfl rfl rfl (by kernel_rfl) c_cnd (by simp; omega), fun r0 h0 hr0 => ?_⟩
            subst hr0
            (repeat((conv=>whnf);first|apply ω0|apply ω1|apply ω2|refine τ3 rfl ?_|refine τ4 rfl ?_|refine ⟨rfl,?_⟩|apply τa|refine τb rfl ?_|refine ⟨⟨by kernel_rfl,by kernel_rfl⟩,?_⟩|refine ⟨by decide,?_⟩|apply τt|apply τf))
            exact back (Go.Sort.swp e j (j - 1), j - 1, nx2) ⟨by dsimp only; rw [← k1]; simp [Go.Sort.swp], by dsimp only; omega, k3⟩ (by dsimp only; omega) (ele_tell _ _ rfl rfl (List.Sublist.refl _) .slnil (BxLe.refl _) trivial ⟨AVle.refl _, AVle.refl _, AVle.refl _, AVle.refl _, AVle.refl _, le_int hj1, trivial⟩)
        · have hd : decide ((j : Int) > (a : Int)) = false := decide_eq_false (by omega)
          rw [insG_stop hja] at k3
          subst k3
          (repeat((conv=>whnf);first|apply ω0|apply ω1|apply ω2|refine τ3 rfl ?_|refine τ4 rfl ?_|refine ⟨rfl,?_⟩|apply τa|refine τb rfl ?_|refine ⟨⟨by kernel_rfl,by kernel_rfl⟩,?_⟩|refine ⟨by decide,?_⟩|apply τt|apply τf))
          (refine aw_draw 16 ?_ ?_ ?_ ?_; (· kernel_rfl); (· kernel_rfl); (· kernel_rfl))
          (repeat((conv=>whnf);first|apply ω0|apply ω1|apply ω2|refine τ3 rfl ?_|refine τ4 rfl ?_|refine ⟨rfl,?_⟩|apply τa|refine τb rfl ?_|refine ⟨⟨by kernel_rfl,by kernel_rfl⟩,?_⟩|refine ⟨by decide,?_⟩|apply τt|apply τf))
          (conv => whnf)
          refine lit_eq hd ?_
          (repeat((conv=>whnf);first|apply ω0|apply ω1|apply ω2|refine τ3 rfl ?_|refine τ4 rfl ?_|refine ⟨rfl,?_⟩|apply τa|refine τb rfl ?_|refine ⟨⟨by kernel_rfl,by kernel_rfl⟩,?_⟩|refine ⟨by decide,?_⟩|apply τt|apply τf))
          exact back (_, i + 1, nx2) ⟨k1, by dsimp only; omega, by dsimp only; omega, h4⟩ (by dsimp only; omega) (ele_tell _ _ rfl rfl (List.Sublist.refl _) .slnil (BxLe.refl _) trivial ⟨AVle.refl _, AVle.refl _, AVle.refl _, AVle.refl _, le_int (wrap_succ (by first | omega | (dsimp only; omega))), trivial⟩)
theorem pdq_cnd (f : Nat) (lt : Cnd → Cnd → Bool) (cf : Cnd → Cnd → Int) (hf : ∀ a b, Tells Tryz.prog f [cndA a, cndA b] (int (cf a b))) (hlt : ∀ a b, lt a b = decide (cf a b < 0)) (d0 : Array Cnd) (tl : List AV) (n : Nat) (hn : d0.size = n) (hsz : n ≤ 12) (s cap nx : Nat) (z : Int) :
    ECall Tryz.prog 162 [.hs (0, s) 0 n cap, int 0, int n, int z, fn0 f] ⟨rowHC s d0 tl, [], nx, 1⟩ (fun r h' => ∃ nx' nn', h' = ⟨rowHC s (Go.Sort.insertionSort lt d0 0 n) tl, [], nx', nn'⟩) := by
  refine ECall.wk (ecall_of_aw Tryz.func162 rfl rfl ?_)
  (repeat((conv=>whnf);first|apply ω0|apply ω1|apply ω2|refine τ3 rfl ?_|refine τ4 rfl ?_|refine ⟨rfl,?_⟩|apply τa|refine τb rfl ?_|refine ⟨⟨by kernel_rfl,by kernel_rfl⟩,?_⟩|refine ⟨by decide,?_⟩|apply τt|apply τf))
  refine aw_once ?_
  have hw : IntKind.i64.wrap ((n : Int) - 0) = (n : Int) := by rw [Int.sub_zero]; exact wrap_id (by omega) (by omega)
  (repeat((conv=>whnf);first|apply ω0|apply ω1|apply ω2|refine τ3 rfl ?_|refine τ4 rfl ?_|refine ⟨rfl,?_⟩|apply τa|refine τb rfl ?_|refine ⟨⟨by kernel_rfl,by kernel_rfl⟩,?_⟩|refine ⟨by decide,?_⟩|apply τt|apply τf))
  intro c hc
  have hc2 : c = true := hc.trans (decide_eq_true (by show IntKind.i64.wrap ((n : Int) - 0) ≤ 12; rw [hw]; omega))
  clear hc; subst hc2
  (repeat((conv=>whnf);first|apply ω0|apply ω1|apply ω2|refine τ3 rfl ?_|refine τ4 rfl ?_|refine ⟨rfl,?_⟩|apply τa|refine τb rfl ?_|refine ⟨⟨by kernel_rfl,by kernel_rfl⟩,?_⟩|refine ⟨by decide,?_⟩|apply τt|apply τf))
  refine aop_callF (xs := [.hs (0, s) 0 n cap, int ((0 : Nat) : Int), int n, fn0 f]) [] [] 1 rfl rfl rfl rfl ⟨AVle.refl _, AVle.refl _, AVle.refl _, AVle.refl _, trivial⟩ (ins_cnd f lt cf hf hlt d0 tl n 0 n hn (Nat.zero_le _) (Nat.le_refl _) (by omega) s cap _) (BxLe.refl _) (PmEq.refl _) rfl fun r h' hq => ?_
  obtain ⟨nx2, nn2, rfl⟩ := hq
  (repeat((conv=>whnf);first|apply ω0|apply ω1|apply ω2|refine τ3 rfl ?_|refine τ4 rfl ?_|refine ⟨rfl,?_⟩|apply τa|refine τb rfl ?_|refine ⟨⟨by kernel_rfl,by kernel_rfl⟩,?_⟩|refine ⟨by decide,?_⟩|apply τt|apply τf))
  exact ret_is rfl ⟨_, _, AVle.refl _, hle_tell (rowHC s (Go.Sort.insertionSort lt d0 0 n) tl) [] rfl (List.Sublist.refl _) .slnil (BxLe.refl _) (PmEq.refl _), _, 1, rfl⟩
theorem sortFunc_cnd (f : Nat) (lt : Cnd → Cnd → Bool) (cf : Cnd → Cnd → Int) (hf : ∀ a b, Tells Tryz.prog f [cndA a, cndA b] (int (cf a b))) (hlt : ∀ a b, lt a b = decide (cf a b < 0)) (d0 : Array Cnd) (tl : List AV) (n : Nat) (hn : d0.size = n) (hsz : n ≤ 12) (s cap nx : Nat) :
    ECall Tryz.prog 121 [.hs (0, s) 0 n cap, fn0 f] ⟨rowHC s d0 tl, [], nx, 1⟩ (fun r h' => ∃ nx' nn', h' = ⟨rowHC s (Go.Sort.insertionSort lt d0 0 n) tl, [], nx', nn'⟩) := by
  refine ECall.wk (ecall_of_aw Tryz.func121 rfl rfl ?_)
  (repeat((conv=>whnf);first|apply ω0|apply ω1|apply ω2|refine τ3 rfl ?_|refine τ4 rfl ?_|refine ⟨rfl,?_⟩|apply τa|refine τb rfl ?_|refine ⟨⟨by kernel_rfl,by kernel_rfl⟩,?_⟩|refine ⟨by decide,?_⟩|apply τt|apply τf))
  have hw : IntKind.u64.wrap (n : Int) = (n : Int) := by simp [IntKind.wrap, IntKind.bits, IntKind.signed]; omega
  refine aop_tells rfl rfl (bitsLen_spec n (by omega)) ⟨AVle.of_eq (congrArg (fun z : Int => AV.v (.int .u64 z)) hw), trivial⟩ fun nx1 => ?_
  (repeat((conv=>whnf);first|apply ω0|apply ω1|apply ω2|refine τ3 rfl ?_|refine τ4 rfl ?_|refine ⟨rfl,?_⟩|apply τa|refine τb rfl ?_|refine ⟨⟨by kernel_rfl,by kernel_rfl⟩,?_⟩|refine ⟨by decide,?_⟩|apply τt|apply τf))
  refine aop_callF (xs := [.hs (0, s) 0 n cap, int 0, int n, int (Lib.bitLen n), fn0 f]) [] [] 1 rfl rfl rfl rfl ⟨AVle.refl _, AVle.refl _, AVle.refl _, AVle.refl _, AVle.refl _, trivial⟩ (pdq_cnd f lt cf hf hlt d0 tl n hn hsz s cap _ _) (BxLe.refl _) (PmEq.refl _) rfl fun r h' hq => ?_
  obtain ⟨nx2, nn2, rfl⟩ := hq
  (repeat((conv=>whnf);first|apply ω0|apply ω1|apply ω2|refine τ3 rfl ?_|refine τ4 rfl ?_|refine ⟨rfl,?_⟩|apply τa|refine τb rfl ?_|refine ⟨⟨by kernel_rfl,by kernel_rfl⟩,?_⟩|refine ⟨by decide,?_⟩|apply τt|apply τf))
  exact ret_is rfl ⟨_, _, AVle.refl _, hle_tell (rowHC s (Go.Sort.insertionSort lt d0 0 n) tl) [] rfl (List.Sublist.refl _) .slnil (BxLe.refl _) (PmEq.refl _), _, 1, rfl⟩
end Go.Proofs.W

namespace Go.Proofs.W
open Go.Vl
set_option maxRecDepth 100000

/-- The first m of a row, each run of equal ones once. -/
def cU (d : Array Cnd) : Nat → List Cnd
  | 0 => []
  | m + 1 => if m = 0 ∨ d[m]! ≠ d[m - 1]! then cU d m ++ [d[m]!] else cU d m
theorem cU_le (d : Array Cnd) : ∀ m, (cU d m).length ≤ m
  | 0 => Nat.le_refl _
  | m + 1 => by
    have := cU_le d m
    unfold cU
    split
    · simp; omega
    · omega
theorem cU_whole {d : Array Cnd} : ∀ {m : Nat}, m ≤ d.size → (∀ j, 1 ≤ j → j < m → d[j]! ≠ d[j - 1]!) → cU d m = d.toList.take m
  | 0, _, _ => rfl
  | m + 1, hm, h => by
    have ih := cU_whole (m := m) (by omega) fun j h1 h2 => h j h1 (by omega)
    have hc : m = 0 ∨ d[m]! ≠ d[m - 1]! := by
      rcases Nat.eq_zero_or_pos m with h0 | h0
      · exact .inl h0
      · exact .inr (h m h0 (by omega))
    rw [cU, if_pos hc, ih, List.take_add_one, show d[m]! = d[m] by simp [show m < d.size by omega]]
    simp [show m < d.size by omega]
theorem cU_same {d : Array Cnd} {m : Nat} (h0 : m ≠ 0) (h : d[m]! = d[m - 1]!) : cU d (m + 1) = cU d m := by
  rw [cU, if_neg (by intro hh; rcases hh with hh | hh; exact h0 hh; exact hh h)]
theorem cU_next {d : Array Cnd} {m : Nat} (h : d[m]! ≠ d[m - 1]!) : cU d (m + 1) = cU d m ++ [d[m]!] := by
  rw [cU, if_pos (.inr h)]
theorem setB_get {d : Array Cnd} {i j : Nat} {x : Cnd} (hi : i < d.size) : (d.setIfInBounds i x)[j]! = if j = i then x else d[j]! := by
  by_cases h : j = i
  · subst h; simp [hi]
  · rw [if_neg h]
    by_cases hj : j < d.size
    · simp [hj, Array.getElem_setIfInBounds, Ne.symm h]
    · simp [hj]
theorem setB_take {d : Array Cnd} {k : Nat} {x : Cnd} (h : k < d.size) : (d.setIfInBounds k x).toList.take (k + 1) = d.toList.take k ++ [x] := by
  rw [Array.toList_setIfInBounds, List.take_add_one]
  simp [h, List.take_set_of_le]
theorem cndB {x y : Cnd} : (x.arg == y.arg && (x.op == y.op && ((x.mask : Int) == (y.mask : Int) && ((x.value : Int) == (y.value : Int) && true)))) = decide (x = y) := cnd_eqb
theorem rowK_cut {d : Array Cnd} {tl : List AV} {k : Nat} (h : k ≤ d.size) : splice (rowK eC d tl) (k * 4) (List.replicate ((d.size - k) * 4) .any) = rowK eC (d.toList.take k).toArray (List.replicate ((d.size - k) * 4) .any ++ tl) := by
  have e : d.toList = d.toList.take k ++ d.toList.drop k := (List.take_append_drop k d.toList).symm
  have e1 : ((d.toList.take k).flatMap eC).length = k * 4 := by rw [flatE_len eC_len]; simp [h]
  have e2 : ((d.toList.drop k).flatMap eC).length = (d.size - k) * 4 := by rw [flatE_len eC_len]; simp
  unfold rowK
  conv => lhs; rw [e]
  rw [List.flatMap_append, List.append_assoc, ← e1]
  have := splice_app (a := (d.toList.take k).flatMap eC) (b := (d.toList.drop k).flatMap eC ++ tl) (off := 0) (vs := List.replicate ((d.size - k) * 4) .any)
  rw [Nat.add_zero] at this
  rw [this, splice_whole (by rw [e2]; simp)]
def CompQ (d : Array Cnd) (n s cap : Nat) (r : AV) (h' : Heap) : Prop := ∃ tl' nx' nn', r = .hs (0, s) 0 (cU d n).length cap ∧ h' = ⟨rowHC s (cU d n).toArray tl', [], nx', nn'⟩
theorem compQ_cut {d : Array Cnd} {n s cap nx nn q : Nat} {tl : List AV} (h : (cU d n).length = q) : CompQ d n s cap (.hs (0, s) 0 q cap) ⟨rowHC s (cU d n).toArray tl, [], nx, nn⟩ := ⟨tl, nx, nn, by rw [h], rfl⟩
theorem own_eq {o o' : Own} (h : o = o') : OwnLe o o' := h ▸ OwnLe.refl _
theorem ixoS {x : Int} {i c k m : Nat} (hc : c = k) (h : x = (i : Int)) : m * c + x.toNat * c = (m + i) * k := by subst hc; subst h; simp [Nat.add_mul]
theorem compQ_all {d : Array Cnd} {n s cap nx nn : Nat} {tl : List AV} (hn : d.size = n) (e : cU d n = d.toList) : CompQ d n s cap (.hs (0, s) 0 n cap) ⟨rowHC s d tl, [], nx, nn⟩ := ⟨tl, nx, nn, by rw [e]; simp [hn], by rw [e]⟩
theorem z_cnd : ∃ z, (Tryz.prog.info? 159).bind (·.zero) = some z ∧ z.cells.size = Tryz.prog.cellsOf 159 ∧ z.cells.all (·.oneCell') = true := ⟨.agg #[.int .i64 0, .int .i64 0, .int .u64 0, .int .u64 0], by kernel_rfl, by kernel_rfl, by kernel_rfl⟩
set_option maxHeartbeats 4000000 in
theorem compact_cnd (d : Array Cnd) (tl : List AV) (n : Nat) (hn : d.size = n) (hn0 : 0 < n) (hsz : n ≤ 1000000) (s cap nx : Nat) (hcap : n ≤ cap) :
    ECall Tryz.prog 123 [.hs (0, s) 0 n cap] ⟨rowHC s d tl, [], nx, 1⟩ (CompQ d n s cap) := by
  refine ECall.wk (ecall_of_aw Tryz.func123 rfl rfl ?_)
  (repeat((conv=>whnf);first|apply ω0|apply ω1|apply ω2|refine τ3 rfl ?_|refine τ4 rfl ?_|refine ⟨rfl,?_⟩|apply τa|refine τb rfl ?_|refine ⟨⟨by kernel_rfl,by kernel_rfl⟩,?_⟩|refine ⟨by decide,?_⟩|apply τt|apply τf))
  intro c g; cases c
  rotate_left
  · have g := yes_of g
    try dsimp only at g
    have hn1 : n = 1 := by omega
    subst hn1
    have e : cU d 1 = d.toList := by
      rw [cU_whole (by omega) (fun j h1 h2 => by omega), List.take_of_length_le (by simp [hn])]
    (repeat((conv=>whnf);first|apply ω0|apply ω1|apply ω2|refine τ3 rfl ?_|refine τ4 rfl ?_|refine ⟨rfl,?_⟩|apply τa|refine τb rfl ?_|refine ⟨⟨by kernel_rfl,by kernel_rfl⟩,?_⟩|refine ⟨by decide,?_⟩|apply τt|apply τf))
    exact ret_is rfl ⟨_, _, AVle.refl _, hle_tell (nn := 1) (rowHC s d tl) [] rfl (List.Sublist.refl _) .slnil (BxLe.refl _) (PmEq.refl _), compQ_all hn e⟩
  have g := not_of g
  try dsimp only at g
  have hn2 : 2 ≤ n := by omega
  (repeat((conv=>whnf);first|apply ω0|apply ω1|apply ω2|refine τ3 rfl ?_|refine τ4 rfl ?_|refine ⟨rfl,?_⟩|apply τa|refine τb rfl ?_|refine ⟨⟨by kernel_rfl,by kernel_rfl⟩,?_⟩|refine ⟨by decide,?_⟩|apply τt|apply τf))
  refine aw_loop (fun y : Nat × Nat => mk 61 [(0, .hs (0, s) 0 n cap), (3, int y.1)] ⟨rowHC s d tl, [], y.2, 1⟩) (fun y => 1 ≤ y.1 ∧ y.1 ≤ n ∧ ∀ j, 1 ≤ j → j < y.1 → d[j]! ≠ d[j - 1]!) (fun y => n - y.1) ?_ ?_
  · exact ⟨(1, nx), ⟨Nat.le_refl _, by dsimp only; omega, fun j h1 h2 => absurd h2 (by dsimp only; omega)⟩, ele_tell _ _ rfl rfl (List.Sublist.refl _) .slnil (BxLe.refl _) trivial ⟨AVle.refl _, AVle.refl _, trivial⟩⟩
  · rintro ⟨k, nx1⟩ ⟨h1, h2, h3⟩
    dsimp only at h1 h2 h3
    (repeat((conv=>whnf);first|apply ω0|apply ω1|apply ω2|refine τ3 rfl ?_|refine τ4 rfl ?_|refine ⟨rfl,?_⟩|apply τa|refine τb rfl ?_|refine ⟨⟨by kernel_rfl,by kernel_rfl⟩,?_⟩|refine ⟨by decide,?_⟩|apply τt|apply τf))
    intro c g; cases c
    · have g := not_of g
      try dsimp only at g
      have hk : k = n := by omega
      subst hk
      have e : cU d k = d.toList := by
        rw [cU_whole (by omega) h3, List.take_of_length_le (by simp [hn])]
      (repeat((conv=>whnf);first|apply ω0|apply ω1|apply ω2|refine τ3 rfl ?_|refine τ4 rfl ?_|refine ⟨rfl,?_⟩|apply τa|refine τb rfl ?_|refine ⟨⟨by kernel_rfl,by kernel_rfl⟩,?_⟩|refine ⟨by decide,?_⟩|apply τt|apply τf))
      exact ret_is rfl ⟨_, _, AVle.refl _, hle_tell (nn := 1) (rowHC s d tl) [] rfl (List.Sublist.refl _) .slnil (BxLe.refl _) (PmEq.refl _), compQ_all hn e⟩
    · have g := yes_of g
      try dsimp only at g
      have hk : k < n := by omega
      have hk1 : IntKind.i64.wrap ((k : Int) - 1) = ((k - 1 : Nat) : Int) := by rw [wrap_id (by omega) (by omega)]; omega
      (repeat((conv=>whnf);first|apply ω0|apply ω1|apply ω2|refine τ3 rfl ?_|refine τ4 rfl ?_|refine ⟨rfl,?_⟩|apply τa|refine τb rfl ?_|refine ⟨⟨by kernel_rfl,by kernel_rfl⟩,?_⟩|refine ⟨by decide,?_⟩|apply τt|apply τf))
      (refine aw_draw 10 ?_ ?_ ?_ ?_; (· kernel_rfl); (· kernel_rfl); (· kernel_rfl))
      (repeat((conv=>whnf);first|apply ω0|apply ω1|apply ω2|refine τ3 rfl ?_|refine τ4 rfl ?_|refine ⟨rfl,?_⟩|apply τa|refine τb rfl ?_|refine ⟨⟨by kernel_rfl,by kernel_rfl⟩,?_⟩|refine ⟨by decide,?_⟩|apply τt|apply τf))
      refine ⟨⟨ixge (i := k) (rfl), ixlt (i := k) (rfl) (by omega)⟩, splitO_eq (b := .bp (0, s) (k * 4)) (congrArg (AV.bp (0, s)) (ixoK (i := k) c_cnd (rfl))) ?_⟩
      (conv => whnf)
      generalize hX : apure _ _ _ = X
      have hX2 : X = some (some (s = s), .ag (eC d[k]!)) := hX.symm.trans (apure_rowK eC_len (E := eC) (d := d) (tl := tl) (j := k) rfl rfl rfl rfl u_cnd c_cnd (by omega))
      clear hX; subst hX2
      refine ⟨rfl, ?_⟩
      (repeat((conv=>whnf);first|apply ω0|apply ω1|apply ω2|refine τ3 rfl ?_|refine τ4 rfl ?_|refine ⟨rfl,?_⟩|apply τa|refine τb rfl ?_|refine ⟨⟨by kernel_rfl,by kernel_rfl⟩,?_⟩|refine ⟨by decide,?_⟩|apply τt|apply τf))
      refine ⟨⟨ixge (i := k - 1) (hk1), ixlt (i := k - 1) (hk1) (by omega)⟩, splitO_eq (b := .bp (0, s) ((k - 1) * 4)) (congrArg (AV.bp (0, s)) (ixoK (i := k - 1) c_cnd (hk1))) ?_⟩
      (conv => whnf)
      generalize hX : apure _ _ _ = X
      have hX2 : X = some (some (s = s), .ag (eC d[k - 1]!)) := hX.symm.trans (apure_rowK eC_len (E := eC) (d := d) (tl := tl) (j := k - 1) rfl rfl rfl rfl u_cnd c_cnd (by omega))
      clear hX; subst hX2
      refine ⟨rfl, ?_⟩
      (repeat((conv=>whnf);first|apply ω0|apply ω1|apply ω2|refine τ3 rfl ?_|refine τ4 rfl ?_|refine ⟨rfl,?_⟩|apply τa|refine τb rfl ?_|refine ⟨⟨by kernel_rfl,by kernel_rfl⟩,?_⟩|refine ⟨by decide,?_⟩|apply τt|apply τf))
      intro c hc
      have hc2 : c = decide (d[k]! = d[k - 1]!) := hc.trans cndB
      clear hc
      cases c
      · have hne : ¬ d[k]! = d[k - 1]! := of_decide_eq_false hc2.symm
        (repeat((conv=>whnf);first|apply ω0|apply ω1|apply ω2|refine τ3 rfl ?_|refine τ4 rfl ?_|refine ⟨rfl,?_⟩|apply τa|refine τb rfl ?_|refine ⟨⟨by kernel_rfl,by kernel_rfl⟩,?_⟩|refine ⟨by decide,?_⟩|apply τt|apply τf))
        exact back (k + 1, nx1) ⟨by dsimp only; omega, hk, fun j q1 q2 => by dsimp only at q2; rcases Nat.lt_or_ge j k with q | q; exact h3 j q1 q; rw [show j = k by omega]; exact hne⟩ (by dsimp only; omega) (ele_tell _ _ rfl rfl (List.Sublist.refl _) .slnil (BxLe.refl _) trivial ⟨AVle.refl _, le_int (wrap_succ (by first | omega | (dsimp only; omega))), trivial⟩)
      · have heq : d[k]! = d[k - 1]! := of_decide_eq_true hc2.symm
        clear hc2
        have hU0 : cU d k = d.toList.take k := cU_whole (by omega) h3
        have hU1 : cU d (k + 1) = d.toList.take k := (cU_same (by omega) heq).trans hU0
        (repeat((conv=>whnf);first|apply ω0|apply ω2|refine τ3 rfl ?_|refine τ4 rfl ?_|refine ⟨rfl,?_⟩|apply τa|refine τb rfl ?_|refine ⟨⟨by kernel_rfl,by kernel_rfl⟩,?_⟩|refine ⟨by decide,?_⟩|apply τt|apply τf))
        refine aw_regionY (fun i => match i with | 1 => true | _ => false) 4 ?_
        (repeat((conv=>whnf);first|apply ω0|apply ω1|apply ω2|refine τ3 rfl ?_|refine τ4 rfl ?_|refine ⟨rfl,?_⟩|apply τa|refine τb rfl ?_|refine ⟨⟨by kernel_rfl,by kernel_rfl⟩,?_⟩|refine ⟨by decide,?_⟩|apply τt|apply τf))
        refine AOp.of_yields (yields_tailB (l := k) rfl rfl rfl Tryz.underlying83 Tryz.underlying159 (by omega) hcap (by omega)) ?_
        (repeat((conv=>whnf);first|apply ω0|apply ω1|apply ω2|refine τ3 rfl ?_|refine τ4 rfl ?_|refine ⟨rfl,?_⟩|apply τa|refine τb rfl ?_|refine ⟨⟨by kernel_rfl,by kernel_rfl⟩,?_⟩|refine ⟨by decide,?_⟩|apply τt|apply τf))
        refine aw_loop (fun y : Array Cnd × Nat × Nat × Nat => mk 61 [(0, .hs (0, s) 0 n cap), (3, int y.2.1), (4, .hs (0, s) (k * 4) (n - k) (cap - k)), (5, int y.2.2.1)] ⟨rowHC s y.1 tl, [], y.2.2.2, 1⟩) (fun y => y.1.size = n ∧ k ≤ y.2.1 ∧ 1 ≤ y.2.2.1 ∧ y.2.1 + 1 ≤ k + y.2.2.1 ∧ k + y.2.2.1 ≤ n ∧ (∀ j, k + y.2.2.1 ≤ j + 1 → y.1[j]! = d[j]!) ∧ cU d (k + y.2.2.1) = y.1.toList.take y.2.1) (fun y => n - y.2.2.1) ?_ ?_
        · exact ⟨(d, k, 1, nx1), ⟨hn, Nat.le_refl _, Nat.le_refl _, Nat.le_refl _, hk, fun _ _ => rfl, hU1⟩, ele_tell _ _ rfl rfl (List.Sublist.refl _) .slnil (BxLe.refl _) trivial ⟨AVle.refl _, AVle.refl _, AVle.of_eq (congrArg (fun c => AV.hs (0, s) (k * c) (n - k) (cap - k)) c_cnd), AVle.refl _, trivial⟩⟩
        · rintro ⟨e, q, k2, nx2⟩ ⟨p1, p2, p3, p4, p5, p6, p7⟩
          dsimp only at p1 p2 p3 p4 p5 p6 p7
          (repeat((conv=>whnf);first|apply ω0|apply ω1|apply ω2|refine τ3 rfl ?_|refine τ4 rfl ?_|refine ⟨rfl,?_⟩|apply τa|refine τb rfl ?_|refine ⟨⟨by kernel_rfl,by kernel_rfl⟩,?_⟩|refine ⟨by decide,?_⟩|apply τt|apply τf))
          intro c g2; cases c
          · have g2 := not_of g2
            try dsimp only at g2
            have hk2 : k + k2 = n := by omega
            rw [hk2] at p7
            have hq : q < n := by omega
            (repeat((conv=>whnf);first|apply ω0|apply ω2|refine τ3 rfl ?_|refine τ4 rfl ?_|refine ⟨rfl,?_⟩|apply τa|refine τb rfl ?_|refine ⟨⟨by kernel_rfl,by kernel_rfl⟩,?_⟩|refine ⟨by decide,?_⟩|apply τt|apply τf))
            refine aw_regionY (fun i => match i with | 1 => true | 0 => true | _ => false) 4 ?_
            (repeat((conv=>whnf);first|apply ω0|apply ω1|apply ω2|refine τ3 rfl ?_|refine τ4 rfl ?_|refine ⟨rfl,?_⟩|apply τa|refine τb rfl ?_|refine ⟨⟨by kernel_rfl,by kernel_rfl⟩,?_⟩|refine ⟨by decide,?_⟩|apply τt|apply τf))
            refine AOp.of_yields (yields_tailB (l := q) rfl rfl rfl Tryz.underlying83 Tryz.underlying159 (by omega) hcap (by omega)) ?_
            (repeat((conv=>whnf);first|apply ω0|apply ω1|apply ω2|refine τ3 rfl ?_|refine τ4 rfl ?_|refine ⟨rfl,?_⟩|apply τa|refine τb rfl ?_|refine ⟨⟨by kernel_rfl,by kernel_rfl⟩,?_⟩|refine ⟨by decide,?_⟩|apply τt|apply τf))
            obtain ⟨z, hz1, hz2, hz3⟩ := z_cnd
            refine aop_clearB (n := n - q) rfl rfl rfl (by omega) Tryz.underlying83 hz1 hz2 hz3 (by rfl) (by show q * Tryz.prog.cellsOf 159 + (n - q) * Tryz.prog.cellsOf 159 ≤ (rowK eC e tl).length; rw [rowK_len eC_len, c_cnd, p1]; omega) ?_
            refine AW.le (E' := mk 61 [(0, .hs (0, s) 0 n cap), (3, int q)] ⟨rowHC s (cU d n).toArray (List.replicate ((n - q) * 4) .any ++ tl), [], nx2, 1⟩) ?_ ?_
            · exact ele_tell [((0, s), .c (splice (rowK eC e tl) (q * Tryz.prog.cellsOf 159) (List.replicate ((n - q) * Tryz.prog.cellsOf 159) .any)))] [] rfl rfl (List.Sublist.refl _) .slnil ⟨rfl, own_eq (congrArg Own.c (by rw [c_cnd, p7, ← p1]; exact rowK_cut (by omega))), trivial⟩ trivial ⟨AVle.refl _, AVle.refl _, trivial⟩
            (repeat((conv=>whnf);first|apply ω0|apply ω2|refine τ3 rfl ?_|refine τ4 rfl ?_|refine ⟨rfl,?_⟩|apply τa|refine τb rfl ?_|refine ⟨⟨by kernel_rfl,by kernel_rfl⟩,?_⟩|refine ⟨by decide,?_⟩|apply τt|apply τf))
            refine aw_regionY (fun i => match i with | 1 => true | _ => false) 4 ?_
            (repeat((conv=>whnf);first|apply ω0|apply ω1|apply ω2|refine τ3 rfl ?_|refine τ4 rfl ?_|refine ⟨rfl,?_⟩|apply τa|refine τb rfl ?_|refine ⟨⟨by kernel_rfl,by kernel_rfl⟩,?_⟩|refine ⟨by decide,?_⟩|apply τt|apply τf))
            refine aop_cutB (l := q) rfl rfl rfl Tryz.underlying83 Tryz.underlying159 (by omega) (by omega) ?_
            (repeat((conv=>whnf);first|apply ω0|apply ω1|apply ω2|refine τ3 rfl ?_|refine τ4 rfl ?_|refine ⟨rfl,?_⟩|apply τa|refine τb rfl ?_|refine ⟨⟨by kernel_rfl,by kernel_rfl⟩,?_⟩|refine ⟨by decide,?_⟩|apply τt|apply τf))
            exact ret_is rfl ⟨_, _, AVle.refl _, hle_tell (nn := 1) (rowHC s (cU d n).toArray (List.replicate ((n - q) * 4) .any ++ tl)) [] rfl (List.Sublist.refl _) .slnil (BxLe.refl _) (PmEq.refl _), compQ_cut (by rw [p7]; simp; omega)⟩
          · have g2 := yes_of g2
            try dsimp only at g2
            have hk2 : k + k2 < n := by omega
            have hj1 : IntKind.i64.wrap ((k2 : Int) - 1) = ((k2 - 1 : Nat) : Int) := by rw [wrap_id (by omega) (by omega)]; omega
            (repeat((conv=>whnf);first|apply ω0|apply ω1|apply ω2|refine τ3 rfl ?_|refine τ4 rfl ?_|refine ⟨rfl,?_⟩|apply τa|refine τb rfl ?_|refine ⟨⟨by kernel_rfl,by kernel_rfl⟩,?_⟩|refine ⟨by decide,?_⟩|apply τt|apply τf))
            (refine aw_draw 10 ?_ ?_ ?_ ?_; (· kernel_rfl); (· kernel_rfl); (· kernel_rfl))
            (repeat((conv=>whnf);first|apply ω0|apply ω1|apply ω2|refine τ3 rfl ?_|refine τ4 rfl ?_|refine ⟨rfl,?_⟩|apply τa|refine τb rfl ?_|refine ⟨⟨by kernel_rfl,by kernel_rfl⟩,?_⟩|refine ⟨by decide,?_⟩|apply τt|apply τf))
            refine ⟨⟨ixge (i := k2) (rfl), ixlt (i := k2) (rfl) (by omega)⟩, splitO_eq (b := .bp (0, s) ((k + k2) * 4)) (congrArg (AV.bp (0, s)) (ixoS c_cnd (rfl))) ?_⟩
            (conv => whnf)
            generalize hX : apure _ _ _ = X
            have hX2 : X = some (some (s = s), .ag (eC e[k + k2]!)) := hX.symm.trans (apure_rowK eC_len (E := eC) (d := e) (tl := tl) (j := k + k2) rfl rfl rfl rfl u_cnd c_cnd (by omega))
            clear hX; subst hX2
            refine ⟨rfl, ?_⟩
            (repeat((conv=>whnf);first|apply ω0|apply ω1|apply ω2|refine τ3 rfl ?_|refine τ4 rfl ?_|refine ⟨rfl,?_⟩|apply τa|refine τb rfl ?_|refine ⟨⟨by kernel_rfl,by kernel_rfl⟩,?_⟩|refine ⟨by decide,?_⟩|apply τt|apply τf))
            refine ⟨⟨ixge (i := k2 - 1) (hj1), ixlt (i := k2 - 1) (hj1) (by omega)⟩, splitO_eq (b := .bp (0, s) ((k + (k2 - 1)) * 4)) (congrArg (AV.bp (0, s)) (ixoS c_cnd (hj1))) ?_⟩
            (conv => whnf)
            generalize hX : apure _ _ _ = X
            have hX2 : X = some (some (s = s), .ag (eC e[k + (k2 - 1)]!)) := hX.symm.trans (apure_rowK eC_len (E := eC) (d := e) (tl := tl) (j := k + (k2 - 1)) rfl rfl rfl rfl u_cnd c_cnd (by omega))
            clear hX; subst hX2
            refine ⟨rfl, ?_⟩
            (repeat((conv=>whnf);first|apply ω0|apply ω1|apply ω2|refine τ3 rfl ?_|refine τ4 rfl ?_|refine ⟨rfl,?_⟩|apply τa|refine τb rfl ?_|refine ⟨⟨by kernel_rfl,by kernel_rfl⟩,?_⟩|refine ⟨by decide,?_⟩|apply τt|apply τf))
            have e1 : e[k + k2]! = d[k + k2]! := p6 _ (by omega)
            have e2 : e[k + (k2 - 1)]! = d[k + k2 - 1]! := by rw [p6 _ (by omega)]; congr 1; omega
            intro c hc
            have hc2 : c = !decide (d[k + k2]! = d[k + k2 - 1]!) := by rw [← e1, ← e2]; exact hc.trans (congrArg (!·) cndB)
            clear hc
            cases c
            · have heq2 : d[k + k2]! = d[k + k2 - 1]! := by simpa using hc2
              have hU2 := (cU_same (by omega) heq2).trans p7
              (repeat((conv=>whnf);first|apply ω0|apply ω1|apply ω2|refine τ3 rfl ?_|refine τ4 rfl ?_|refine ⟨rfl,?_⟩|apply τa|refine τb rfl ?_|refine ⟨⟨by kernel_rfl,by kernel_rfl⟩,?_⟩|refine ⟨by decide,?_⟩|apply τt|apply τf))
              exact back (e, q, k2 + 1, nx2) ⟨p1, p2, by dsimp only; omega, by dsimp only; omega, by dsimp only; omega, fun j hj => p6 j (by dsimp only at hj; omega), hU2⟩ (by dsimp only; omega) (ele_tell _ _ rfl rfl (List.Sublist.refl _) .slnil (BxLe.refl _) trivial ⟨AVle.refl _, AVle.refl _, AVle.refl _, le_int (wrap_succ (by first | omega | (dsimp only; omega))), trivial⟩)
            · have hne : ¬ d[k + k2]! = d[k + k2 - 1]! := by simpa using hc2
              have hU2 := cU_next hne
              rw [p7, ← e1, ← setB_take (k := q) (x := e[k + k2]!) (by omega)] at hU2
              (repeat((conv=>whnf);first|apply ω0|apply ω2|refine τ3 rfl ?_|refine τ4 rfl ?_|refine ⟨rfl,?_⟩|apply τa|refine τb rfl ?_|refine ⟨⟨by kernel_rfl,by kernel_rfl⟩,?_⟩|refine ⟨by decide,?_⟩|apply τt|apply τf))
              refine aw_regionY (fun i => match i with | 0 => true | 2 => true | _ => false) 8 ?_
              (repeat((conv=>whnf);first|apply ω0|apply ω1|apply ω2|refine τ3 rfl ?_|refine τ4 rfl ?_|refine ⟨rfl,?_⟩|apply τa|refine τb rfl ?_|refine ⟨⟨by kernel_rfl,by kernel_rfl⟩,?_⟩|refine ⟨by decide,?_⟩|apply τt|apply τf))
              refine ⟨⟨ixge (i := k2) (rfl), ixlt (i := k2) (rfl) (by omega)⟩, splitO_eq (b := .bp (0, s) ((k + k2) * 4)) (congrArg (AV.bp (0, s)) (ixoS c_cnd (rfl))) ?_⟩
              (conv => whnf)
              refine AOp.of_yields (yields_rowK eC_len (E := eC) (d := e) (tl := tl) (j := k + k2) rfl rfl rfl rfl u_cnd c_cnd (by omega)) ?_
              (repeat((conv=>whnf);first|apply ω0|apply ω1|apply ω2|refine τ3 rfl ?_|refine τ4 rfl ?_|refine ⟨rfl,?_⟩|apply τa|refine τb rfl ?_|refine ⟨⟨by kernel_rfl,by kernel_rfl⟩,?_⟩|refine ⟨by decide,?_⟩|apply τt|apply τf))
              refine ⟨⟨ixge (i := q) (rfl), ixlt (i := q) (rfl) (by omega)⟩, splitO_eq (b := .bp (0, s) (q * 4)) (congrArg (AV.bp (0, s)) (ixoK c_cnd (rfl))) ?_⟩
              (conv => whnf)
              refine aop_storeK eC_len (E := eC) (d := e) (tl := tl) (j := q) (z := e[k + k2]!) rfl rfl rfl rfl rfl rfl rfl rfl (by kernel_rfl) c_cnd (by omega) ?_
              (repeat((conv=>whnf);first|apply ω0|apply ω1|apply ω2|refine τ3 rfl ?_|refine τ4 rfl ?_|refine ⟨rfl,?_⟩|apply τa|refine τb rfl ?_|refine ⟨⟨by kernel_rfl,by kernel_rfl⟩,?_⟩|refine ⟨by decide,?_⟩|apply τt|apply τf))
              exact back (e.setIfInBounds q e[k + k2]!, q + 1, k2 + 1, nx2) ⟨by simpa using p1, by dsimp only; omega, by dsimp only; omega, by dsimp only; omega, by dsimp only; omega, fun j hj => by
                dsimp only at hj ⊢
                rw [setB_get (by omega), if_neg (by omega)]
                exact p6 j (by omega), hU2⟩ (by dsimp only; omega) (ele_tell _ _ rfl rfl (List.Sublist.refl _) .slnil (BxLe.refl _) trivial ⟨AVle.refl _, le_int (wrap_succ (by first | omega | (dsimp only; omega))), AVle.refl _, le_int (wrap_succ (by first | omega | (dsimp only; omega))), trivial⟩)
end Go.Proofs.W

namespace Go.Proofs.W
open Go.Vl
set_option maxRecDepth 100000

def neverC (c : Cnd) : Bool := decide ((normC c).2 = 2)
def askC (c : Cnd) : Option Cnd := if (normC c).2 = 0 then some (normC c).1 else none
def asksOf (cs : List Cnd) : List Cnd := cs.filterMap askC
def ltC (a b : Cnd) : Bool := decide (ordC a b < 0)
def cmpt (L : List Cnd) : List Cnd := cU (Go.Sort.insertionSort ltC L.toArray 0 L.length) L.length
def normR (r : Rul) : Option Rul := if r.conds.any neverC then none else some ⟨r.name, r.act, cmpt (asksOf r.conds)⟩
def rulOpt : Option Rul → AV
  | none => .tup [rulA rul0, boolA false]
  | some n => .tup [rulA n, boolA true]
theorem askC_0 {c : Cnd} (h : (normC c).2 = 0) : askC c = some (normC c).1 := if_pos h
theorem askC_1 {c : Cnd} (h : (normC c).2 ≠ 0) : askC c = none := if_neg h
theorem asks_next {cs : List Cnd} {i : Nat} (hi : i < cs.length) : asksOf (cs.take (i + 1)) = asksOf (cs.take i) ++ (askC (cs.getD i cnd0)).toList := by
  unfold asksOf
  rw [take_getD cnd0 hi, List.filterMap_append]
  congr 1
theorem asks_len (cs : List Cnd) : (asksOf cs).length ≤ cs.length := List.length_filterMap_le _ _
theorem any_take {cs : List Cnd} (h : ∀ j, j < cs.length → neverC (cs.getD j cnd0) = false) : cs.any neverC = false := by
  rw [Bool.eq_false_iff]
  intro ha
  obtain ⟨c, hc, hb⟩ := List.any_eq_true.1 ha
  obtain ⟨j, hj, rfl⟩ := List.getElem_of_mem hc
  have := h j hj
  rw [show cs.getD j cnd0 = cs[j] by simp [List.getD, hj]] at this
  rw [this] at hb; cases hb
theorem any_at {cs : List Cnd} {i : Nat} (hi : i < cs.length) (h : neverC (cs.getD i cnd0) = true) : cs.any neverC = true := by
  refine List.any_eq_true.2 ⟨cs.getD i cnd0, ?_, h⟩
  simp [List.getD, hi]
theorem getD_okC {cs : List Cnd} (h : ∀ c ∈ cs, c.ok) {i : Nat} (hi : i < cs.length) : (cs.getD i cnd0).ok := h _ (by simp [List.getD, hi])
theorem gr_cnd : growOk Tryz.prog 159 = true := by kernel_rfl
theorem gb_cnd : Tryz.prog.bytesOf 159 = 32 := by kernel_rfl
def ruO (nx : Nat) (s : ByteArray) (k n : Int) (x : AV) : Vl.Id × Own := ((2, nx + 2), .c [strA s, int k, int n, x])
def ruZ (nx : Nat) : Vl.Id × Own := ((1, nx + 1), .c [strA ⟨#[]⟩, int 0, int 0, nilS 4])
def ruB (nx : Nat) (s : ByteArray) (k n : Int) (L : List Cnd) : Option (Nat × Nat × List AV) → List (Vl.Id × Own)
  | none => [ruO nx s k n (nilS 4), ruZ nx]
  | some (s1, cap, tl) => [ruO nx s k n (.hs (0, s1) 0 L.length cap), ruZ nx, ((0, s1), .c (rowK eC L.toArray tl))]
def ruI (L : List Cnd) : Option (Nat × Nat × List AV) → Prop
  | none => L = []
  | some (_, cap, tl) => 1 ≤ L.length ∧ L.length ≤ cap ∧ cap * 4 ≤ L.length * 4 + tl.length
theorem ordC_lt {a b : Cnd} : ordC a b < 0 ↔ a.arg < b.arg ∨ (a.arg = b.arg ∧ (a.op < b.op ∨ (a.op = b.op ∧ (a.mask < b.mask ∨ (a.mask = b.mask ∧ a.value < b.value))))) := by
  unfold ordC cmpN
  simp only [orL]
  repeat' split
  all_goals omega
theorem ltC_iff {a b : Cnd} : ltC a b = true ↔ a.arg < b.arg ∨ (a.arg = b.arg ∧ (a.op < b.op ∨ (a.op = b.op ∧ (a.mask < b.mask ∨ (a.mask = b.mask ∧ a.value < b.value))))) := by
  unfold ltC; rw [decide_eq_true_iff]; exact ordC_lt
theorem ltC_no {a b : Cnd} : ltC a b = false ↔ ¬ (a.arg < b.arg ∨ (a.arg = b.arg ∧ (a.op < b.op ∨ (a.op = b.op ∧ (a.mask < b.mask ∨ (a.mask = b.mask ∧ a.value < b.value)))))) := by
  rw [← ltC_iff, Bool.not_eq_true]
theorem swo_ltC : Go.Sort.SWO ltC := ⟨fun x => by rw [ltC_no]; omega, fun x y z => by rw [ltC_iff, ltC_iff, ltC_iff]; omega, fun x y z => by rw [ltC_no, ltC_no, ltC_no]; omega⟩
theorem ltC_tot {a b : Cnd} (h1 : ltC a b = false) (h2 : ltC b a = false) : a = b := by
  rw [ltC_no] at h1 h2
  obtain ⟨a1, a2, a3, a4⟩ := a
  obtain ⟨b1, b2, b3, b4⟩ := b
  dsimp only at h1 h2
  have e1 : a1 = b1 := by omega
  have e2 : a2 = b2 := by omega
  have e3 : a3 = b3 := by omega
  have e4 : a4 = b4 := by omega
  subst e1 e2 e3 e4; rfl
theorem bx_out {nx s1 : Nat} {s : ByteArray} {k n : Int} {x y : AV} (h : AVle x y) {c d : List AV} (hc : c = d) : BxLe [ruO nx s k n x, ruZ nx, ((0, s1), .c c)] [ruO nx s k n y, ruZ nx, ((0, s1), .c d)] := by
  subst hc
  exact ⟨rfl, ⟨AVle.refl _, AVle.refl _, AVle.refl _, h, trivial⟩, BxLe.refl _⟩
theorem splice_cnd {l : List Cnd} {x : Cnd} {tl : List AV} (h : 4 ≤ tl.length) : splice (rowK eC l.toArray tl) (l.length * Tryz.prog.cellsOf 159) (eC x) = rowK eC (l ++ [x]).toArray (tl.drop 4) := by
  rw [c_cnd]; exact rowK_push eC_len h
theorem hs_len {i j : Vl.Id} {L : List Cnd} {x : Cnd} {cap : Nat} (h : i.2 = j.2) : AVle (.hs i 0 (L.length + 1) cap) (.hs j 0 (L ++ [x]).length cap) := by
  rw [List.length_append]; exact AVle.hs_nm h
theorem one_cnd {x : Cnd} {m : Nat} : eC x ++ List.replicate (m * Tryz.prog.cellsOf 159) AV.any = rowK eC #[x] (List.replicate (m * 4) .any) := by
  rw [c_cnd]; simp [rowK]
theorem grow_cnd {l : List Cnd} {x : Cnd} {tl : List AV} {m : Nat} : (rowK eC l.toArray tl).take (l.length * Tryz.prog.cellsOf 159) ++ eC x ++ List.replicate (m * Tryz.prog.cellsOf 159) .any = rowK eC (l ++ [x]).toArray (List.replicate (m * 4) .any) := by
  rw [c_cnd, rowK_take eC_len]; exact rowK_one
set_option maxHeartbeats 8000000 in
theorem rule16_spec (r : Rul) (hok : ∀ c ∈ r.conds, c.ok) (hl : r.conds.length ≤ 12) : Tells Tryz.prog 82 [rulA r] (rulOpt (normR r)) := by
  obtain ⟨s, ⟨k, n⟩, cs⟩ := r
  dsimp only at hok hl
  refine tells_of_aw Tryz.func82 rfl rfl fun nx => ?_
  (repeat((conv=>whnf);first|apply ω0|apply ω1|apply ω2|refine τ3 rfl ?_|refine τ4 rfl ?_|refine ⟨rfl,?_⟩|apply τa|refine τb rfl ?_|refine ⟨⟨by kernel_rfl,by kernel_rfl⟩,?_⟩|refine ⟨by decide,?_⟩|apply τt|apply τf))
  refine aw_loop (fun y : Nat × List Cnd × Option (Nat × Nat × List AV) × Nat => mk 47 [(2, .bp (1, nx + 1) 0), (4, .bp (2, nx + 2) 0), (15, cnds cs), (16, int cs.length), (17, int y.1)] ⟨ruB nx s k n y.2.1 y.2.2.1, [], y.2.2.2, 4⟩) (fun y => y.1 ≤ cs.length ∧ y.2.1 = asksOf (cs.take y.1) ∧ ruI y.2.1 y.2.2.1 ∧ ∀ j, j < y.1 → neverC (cs.getD j cnd0) = false) (fun y => cs.length - y.1) ?_ ?_
  · exact ⟨(0, [], none, nx + 3), ⟨Nat.zero_le _, rfl, rfl, fun j h => absurd h (Nat.not_lt_zero _)⟩, ele_tell (pm := []) [((2, nx + 2), .c [strA s, int k, int n, .os 0 0 (fun _ => .any) none]), ((1, nx + 1), .c [strA ⟨#[]⟩, int 0, int 0, .os 0 0 (fun _ => .any) none])] [] rfl rfl (.cons_cons _ (.cons_cons _ (.cons _ .slnil))) (List.Sublist.refl _) ⟨rfl, ⟨AVle.refl _, AVle.refl _, AVle.refl _, AVle.os_nil, trivial⟩, rfl, ⟨AVle.refl _, AVle.refl _, AVle.refl _, AVle.os_nil, trivial⟩, trivial⟩ trivial ⟨AVle.refl _, AVle.refl _, AVle.refl _, AVle.refl _, AVle.refl _, trivial⟩⟩
  · rintro ⟨i, L, md, nx1⟩ ⟨h1, hL, h2, h3⟩
    dsimp only at h1 hL h2 h3
    have hal := asks_len (cs.take i)
    rw [List.length_take, Nat.min_eq_left h1, ← hL] at hal
    (repeat((conv=>whnf);first|apply ω0|apply ω1|apply ω2|refine τ3 rfl ?_|refine τ4 rfl ?_|refine ⟨rfl,?_⟩|apply τa|refine τb rfl ?_|refine ⟨⟨by kernel_rfl,by kernel_rfl⟩,?_⟩|refine ⟨by decide,?_⟩|apply τt|apply τf))
    intro c g; cases c
    · have g := not_of g
      try dsimp only at g
      have hi : i = cs.length := by omega
      subst hi
      rw [List.take_length] at hL
      have hR : normR ⟨s, (k, n), cs⟩ = some ⟨s, (k, n), cmpt L⟩ := by
        unfold normR
        dsimp only
        rw [any_take h3, hL]; rfl
      rw [hR]
      rcases md with _ | ⟨s1, cap, tl⟩
      · obtain rfl : L = [] := h2
        (repeat((conv=>whnf);first|apply ω0|apply ω1|apply ω2|refine τ3 rfl ?_|refine τ4 rfl ?_|refine ⟨rfl,?_⟩|apply τa|refine τb rfl ?_|refine ⟨⟨by kernel_rfl,by kernel_rfl⟩,?_⟩|refine ⟨by decide,?_⟩|apply τt|apply τf))
        refine aop_tells rfl rfl (sortFunc_0 122) ⟨AVle.refl _, AVle.refl _, trivial⟩ fun nx2 => ?_
        (repeat((conv=>whnf);first|apply ω0|apply ω1|apply ω2|refine τ3 rfl ?_|refine τ4 rfl ?_|refine ⟨rfl,?_⟩|apply τa|refine τb rfl ?_|refine ⟨⟨by kernel_rfl,by kernel_rfl⟩,?_⟩|refine ⟨by decide,?_⟩|apply τt|apply τf))
        refine aop_tells rfl rfl compact_0 ⟨AVle.refl _, trivial⟩ fun nx2 => ?_
        (repeat((conv=>whnf);first|apply ω0|apply ω1|apply ω2|refine τ3 rfl ?_|refine τ4 rfl ?_|refine ⟨rfl,?_⟩|apply τa|refine τb rfl ?_|refine ⟨⟨by kernel_rfl,by kernel_rfl⟩,?_⟩|refine ⟨by decide,?_⟩|apply τt|apply τf))
        exact ret_tells_all rfl ⟨rfl, trivial⟩ (AVle.tups (cs := [_, _]) ⟨AVle.ags (cs := [_, _, _, _]) ⟨AVle.refl _, AVle.refl _, AVle.refl _, AVle.os_sl0, trivial⟩, AVle.refl _, trivial⟩)
      · obtain ⟨q1, q2, q3⟩ := h2
        (repeat((conv=>whnf);first|apply ω0|apply ω1|apply ω2|refine τ3 rfl ?_|refine τ4 rfl ?_|refine ⟨rfl,?_⟩|apply τa|refine τb rfl ?_|refine ⟨⟨by kernel_rfl,by kernel_rfl⟩,?_⟩|refine ⟨by decide,?_⟩|apply τt|apply τf))
        refine aop_callF (xs := [.hs (0, s1) 0 L.length cap, fn0 122]) [ruO nx s k n (.hs (0, s1) 0 L.length cap), ruZ nx] [] 4 rfl rfl rfl rfl ⟨AVle.refl _, AVle.refl _, trivial⟩ (sortFunc_cnd 122 ltC ordC order_spec (fun _ _ => rfl) L.toArray tl L.length (by simp) (by omega) s1 cap _) (BxLe.refl _) (PmEq.refl _) rfl fun r h' hq => ?_
        obtain ⟨nx2, nn2, rfl⟩ := hq
        have hds : (Go.Sort.insertionSort ltC L.toArray 0 L.length).size = L.length := by
          have := (Go.Sort.insertionSort_holds (lt := ltC) swo_ltC L.toArray 0 L.length (Nat.zero_le _) (by simp)).1.1
          simpa using this
        (repeat((conv=>whnf);first|apply ω0|apply ω1|apply ω2|refine τ3 rfl ?_|refine τ4 rfl ?_|refine ⟨rfl,?_⟩|apply τa|refine τb rfl ?_|refine ⟨⟨by kernel_rfl,by kernel_rfl⟩,?_⟩|refine ⟨by decide,?_⟩|apply τt|apply τf))
        refine aop_callF (xs := [.hs (0, s1) 0 L.length cap]) [ruO nx s k n (.hs (0, s1) 0 L.length cap), ruZ nx] [] 4 rfl rfl rfl rfl ⟨AVle.refl _, trivial⟩ (compact_cnd (Go.Sort.insertionSort ltC L.toArray 0 L.length) tl L.length hds (by omega) (by omega) s1 cap _ q2) (BxLe.refl _) (PmEq.refl _) rfl fun r h' hq => ?_
        obtain ⟨tl2, nx3, nn3, rfl, rfl⟩ := hq
        have hcl : (cmpt L).length ≤ cap := Nat.le_trans (cU_le _ _) q2
        (repeat((conv=>whnf);first|apply ω0|apply ω2|refine τ3 rfl ?_|refine τ4 rfl ?_|refine ⟨rfl,?_⟩|apply τa|refine τb rfl ?_|refine ⟨⟨by kernel_rfl,by kernel_rfl⟩,?_⟩|refine ⟨by decide,?_⟩|apply τt|apply τf))
        refine aw_freeze (n := 47) (nx := nx3) (nn := 4) (pm := []) (bx := [ruZ nx]) (L := [(2, .bp (1, nx + 1) 0), (4, .rp [strA s, int k, int n, cnds (cmpt L)])]) (df := some []) [((2, nx + 2), .c [strA s, int k, int n, .hs (0, s1) 0 (cmpt L).length cap]), ((0, s1), .c (rowK eC (cmpt L).toArray tl2))] rfl rfl rfl (.cons _ (.swap _ _ _)) (List.Sublist.refl _) ⟨Frz.refl _, (Frz.bp (.head _) rfl).trans (Frz.rp ⟨Frz.refl _, Frz.refl _, Frz.refl _, frz_rowK eC_len (fun _ => rfl) rfl (.tail _ (.head _)) hcl, trivial⟩), trivial⟩ ?_
        (repeat((conv=>whnf);first|apply ω0|apply ω1|apply ω2|refine τ3 rfl ?_|refine τ4 rfl ?_|refine ⟨rfl,?_⟩|apply τa|refine τb rfl ?_|refine ⟨⟨by kernel_rfl,by kernel_rfl⟩,?_⟩|refine ⟨by decide,?_⟩|apply τt|apply τf))
        exact ret_tells_all rfl ⟨rfl, trivial⟩ (AVle.refl _)
    · have g := yes_of g
      try dsimp only at g
      have hi : i < cs.length := by omega
      have hcs := cond_spec (cs.getD i cnd0) (getD_okC hok hi)
      have ha := asks_next hi
      have hnv : neverC (cs.getD i cnd0) = decide ((normC (cs.getD i cnd0)).2 = 2) := rfl
      have hak0 := askC_0 (c := cs.getD i cnd0)
      have hak1 := askC_1 (c := cs.getD i cnd0)
      generalize normC (cs.getD i cnd0) = N at hcs hnv hak0 hak1
      obtain ⟨⟨qa, qo, qm, qv⟩, st⟩ := N
      dsimp only at hnv hak0 hak1
      (repeat((conv=>whnf);first|apply ω0|apply ω1|apply ω2|refine τ3 rfl ?_|refine τ4 rfl ?_|refine ⟨rfl,?_⟩|apply τa|refine τb rfl ?_|refine ⟨⟨by kernel_rfl,by kernel_rfl⟩,?_⟩|refine ⟨by decide,?_⟩|apply τt|apply τf))
      refine ⟨⟨by first | omega | (dsimp only; omega), by first | omega | (dsimp only; omega)⟩, ?_⟩
      (repeat((conv=>whnf);first|apply ω0|apply ω1|apply ω2|refine τ3 rfl ?_|refine τ4 rfl ?_|refine ⟨rfl,?_⟩|apply τa|refine τb rfl ?_|refine ⟨⟨by kernel_rfl,by kernel_rfl⟩,?_⟩|refine ⟨by decide,?_⟩|apply τt|apply τf))
      refine aop_tells rfl rfl hcs ⟨AVle.refl _, trivial⟩ fun nx2 => ?_
      (repeat((conv=>whnf);first|apply ω0|apply ω1|apply ω2|refine τ3 rfl ?_|refine τ4 rfl ?_|refine ⟨rfl,?_⟩|apply τa|refine τb rfl ?_|refine ⟨⟨by kernel_rfl,by kernel_rfl⟩,?_⟩|refine ⟨by decide,?_⟩|apply τt|apply τf))
      intro c g2; cases c
      · have g2 : st ≠ 2 := fun h => by subst h; cases g2
        rw [decide_eq_false g2] at hnv
        have h3' : ∀ j, j < i + 1 → neverC (cs.getD j cnd0) = false := fun j hj => by
          rcases Nat.lt_or_ge j i with q | q
          · exact h3 j q
          · rw [show j = i by omega]; exact hnv
        (repeat((conv=>whnf);first|apply ω0|apply ω1|apply ω2|refine τ3 rfl ?_|refine τ4 rfl ?_|refine ⟨rfl,?_⟩|apply τa|refine τb rfl ?_|refine ⟨⟨by kernel_rfl,by kernel_rfl⟩,?_⟩|refine ⟨by decide,?_⟩|apply τt|apply τf))
        intro c g3; cases c
        · have g3 : st ≠ 0 := fun h => by subst h; cases g3
          rw [hak1 g3, ← hL] at ha
          (repeat((conv=>whnf);first|apply ω0|apply ω1|apply ω2|refine τ3 rfl ?_|refine τ4 rfl ?_|refine ⟨rfl,?_⟩|apply τa|refine τb rfl ?_|refine ⟨⟨by kernel_rfl,by kernel_rfl⟩,?_⟩|refine ⟨by decide,?_⟩|apply τt|apply τf))
          exact back (i + 1, L, md, _) ⟨hi, ha.symm.trans (List.append_nil _).symm |>.symm |> (fun e => by simpa using ha.symm), h2, h3'⟩ (by dsimp only; omega) (ele_tell (bx := ruB nx s k n L md) _ _ rfl rfl (.cons _ (.cons _ (List.Sublist.refl _))) (List.Sublist.refl _) (BxLe.refl _) trivial ⟨AVle.refl _, AVle.refl _, AVle.refl _, AVle.refl _, le_int (wrap_succ (by first | omega | (dsimp only; omega))), trivial⟩)
        · have g3 : st = 0 := by
            by_cases h : st = 0
            · exact h
            · exfalso
              have : ((st : Int) == 0) = false := beq_eq_false_iff_ne.2 (by omega)
              exact absurd (g3.trans this) (by decide)
          rw [hak0 g3, ← hL] at ha
          have ha : L ++ [⟨qa, qo, qm, qv⟩] = asksOf (cs.take (i + 1)) := ha.symm
          rcases md with _ | ⟨s1, cap, tl⟩
          · obtain rfl : L = [] := h2
            (repeat((conv=>whnf);first|apply ω0|apply ω2|refine τ3 rfl ?_|refine τ4 rfl ?_|refine ⟨rfl,?_⟩|apply τa|refine τb rfl ?_|refine ⟨⟨by kernel_rfl,by kernel_rfl⟩,?_⟩|refine ⟨by decide,?_⟩|apply τt|apply τf))
            refine aw_regionY (fun i => match i with | 0 => true | _ => false) 5 ?_
            (repeat((conv=>whnf);first|apply ω0|apply ω1|apply ω2|refine τ3 rfl ?_|refine τ4 rfl ?_|refine ⟨rfl,?_⟩|apply τa|refine τb rfl ?_|refine ⟨⟨by kernel_rfl,by kernel_rfl⟩,?_⟩|refine ⟨by decide,?_⟩|apply τt|apply τf))
            refine aop_appendB0 (m := 1) rfl rfl (.inr ⟨_, rfl⟩) Tryz.underlying83 gr_cnd c_cnd.symm (by decide) (oneRow_one rfl) (by rw [gb_cnd]; omega) (by omega) fun ncap hcap => ?_
            (repeat((conv=>whnf);first|apply ω0|apply ω1|apply ω2|refine τ3 rfl ?_|refine τ4 rfl ?_|refine ⟨rfl,?_⟩|apply τa|refine τb rfl ?_|refine ⟨⟨by kernel_rfl,by kernel_rfl⟩,?_⟩|refine ⟨by decide,?_⟩|apply τt|apply τf))
            exact back (i + 1, [⟨qa, qo, qm, qv⟩], some (nx2 + 1, ncap, List.replicate ((ncap - 1) * 4) .any), nx2 + 1 + 1) ⟨hi, ha, ⟨Nat.le_refl _, hcap, by simp; omega⟩, h3'⟩ (by dsimp only; omega) (ele_tellP (pm := []) (bx := [ruO nx s k n (.hs (0, nx2 + 1) 0 1 ncap), ruZ nx, ((0, nx2 + 1), .c (rowK eC #[⟨qa, qo, qm, qv⟩] (List.replicate ((ncap - 1) * 4) .any)))]) _ [ruO nx s k n (.hs (6, nx2 + 1) 0 1 ncap), ruZ nx, ((6, nx2 + 1), .c (eC ⟨qa, qo, qm, qv⟩ ++ List.replicate ((ncap - 1) * Tryz.prog.cellsOf 159) .any))] [] rfl rfl (List.perm_append_singleton _ _) (.cons _ (.cons _ (.cons_cons _ (.cons_cons _ (.cons_cons _ .slnil))))) .slnil ⟨rfl, ⟨AVle.refl _, AVle.refl _, AVle.refl _, AVle.hs_nm rfl, trivial⟩, rfl, OwnLe.refl _, rfl, own_eq (congrArg Own.c one_cnd), trivial⟩ trivial ⟨AVle.refl _, AVle.refl _, AVle.refl _, AVle.refl _, le_int (wrap_succ (by first | omega | (dsimp only; omega))), trivial⟩)
          · obtain ⟨q1, q2, q3⟩ := h2
            (repeat((conv=>whnf);first|apply ω0|apply ω2|refine τ3 rfl ?_|refine τ4 rfl ?_|refine ⟨rfl,?_⟩|apply τa|refine τb rfl ?_|refine ⟨⟨by kernel_rfl,by kernel_rfl⟩,?_⟩|refine ⟨by decide,?_⟩|apply τt|apply τf))
            refine aw_regionY (fun i => match i with | 0 => true | _ => false) 5 ?_
            (repeat((conv=>whnf);first|apply ω0|apply ω1|apply ω2|refine τ3 rfl ?_|refine τ4 rfl ?_|refine ⟨rfl,?_⟩|apply τa|refine τb rfl ?_|refine ⟨⟨by kernel_rfl,by kernel_rfl⟩,?_⟩|refine ⟨by decide,?_⟩|apply τt|apply τf))
            refine aop_appendB (m := 1) (szx := 4) (n := L.length) (cap := cap) (cs := rowK eC L.toArray tl) (i := (0, s1)) rfl rfl (.inr ⟨_, rfl⟩) Tryz.underlying83 gr_cnd (.inr c_cnd.symm) (by rfl) q2 (by rw [c_cnd, rowK_len eC_len]; simpa using q3) (oneRow_one rfl) (fun _ => by rw [gb_cnd]; omega) (fun _ => by omega) (fun hm => absurd hm (by decide)) (fun hm hfit => ?_) (fun hm hfit ncap hcap => ?_)
            · (repeat((conv=>whnf);first|apply ω0|apply ω1|apply ω2|refine τ3 rfl ?_|refine τ4 rfl ?_|refine ⟨rfl,?_⟩|apply τa|refine τb rfl ?_|refine ⟨⟨by kernel_rfl,by kernel_rfl⟩,?_⟩|refine ⟨by decide,?_⟩|apply τt|apply τf))
              (conv => whnf)
              refine back (i + 1, L ++ [(⟨qa, qo, qm, qv⟩ : Cnd)], some (s1, cap, tl.drop 4), nx2 + 1) ?_ (by dsimp only; omega) ?_
              · exact ⟨hi, ha, ⟨by simp, by simpa using hfit, by simp; omega⟩, h3'⟩
              · exact (ele_tell (pm := []) (bx := [ruO nx s k n (.hs (0, s1) 0 (L ++ [(⟨qa, qo, qm, qv⟩ : Cnd)]).length cap), ruZ nx, ((0, s1), .c (rowK eC (L ++ [(⟨qa, qo, qm, qv⟩ : Cnd)]).toArray (tl.drop 4)))]) [ruO nx s k n (.hs (0, s1) 0 (L.length + 1) cap), ruZ nx, ((0, s1), .c (splice (rowK eC L.toArray tl) (L.length * Tryz.prog.cellsOf 159) (eC ⟨qa, qo, qm, qv⟩)))] [] rfl rfl (.cons _ (.cons _ (.cons_cons _ (.cons_cons _ (.cons_cons _ .slnil))))) .slnil (bx_out (hs_len rfl) (splice_cnd (tl := tl) (by have := hfit; omega))) trivial ⟨AVle.refl _, AVle.refl _, AVle.refl _, AVle.refl _, le_int (wrap_succ (by first | omega | (dsimp only; omega))), trivial⟩)
            · (repeat((conv=>whnf);first|apply ω0|apply ω1|apply ω2|refine τ3 rfl ?_|refine τ4 rfl ?_|refine ⟨rfl,?_⟩|apply τa|refine τb rfl ?_|refine ⟨⟨by kernel_rfl,by kernel_rfl⟩,?_⟩|refine ⟨by decide,?_⟩|apply τt|apply τf))
              (conv => whnf)
              refine back (i + 1, L ++ [(⟨qa, qo, qm, qv⟩ : Cnd)], some (nx2 + 1, ncap, List.replicate ((ncap - (L.length + 1)) * 4) .any), nx2 + 1 + 1) ?_ (by dsimp only; omega) ?_
              · exact ⟨hi, ha, ⟨by simp, by simpa using hcap, by simp; omega⟩, h3'⟩
              · exact (ele_tellP (pm := []) (bx := [ruO nx s k n (.hs (0, nx2 + 1) 0 (L ++ [(⟨qa, qo, qm, qv⟩ : Cnd)]).length ncap), ruZ nx, ((0, nx2 + 1), .c (rowK eC (L ++ [(⟨qa, qo, qm, qv⟩ : Cnd)]).toArray (List.replicate ((ncap - (L.length + 1)) * 4) .any)))]) _ [ruO nx s k n (.hs (6, nx2 + 1) 0 (L.length + 1) ncap), ruZ nx, ((6, nx2 + 1), .c ((rowK eC L.toArray tl).take (L.length * Tryz.prog.cellsOf 159) ++ eC ⟨qa, qo, qm, qv⟩ ++ List.replicate ((ncap - (L.length + 1)) * Tryz.prog.cellsOf 159) .any))] [] rfl rfl (List.perm_append_singleton _ _) (.cons _ (.cons _ (.cons_cons _ (.cons_cons _ (.cons _ (.cons_cons _ .slnil)))))) .slnil ⟨rfl, ⟨AVle.refl _, AVle.refl _, AVle.refl _, hs_len rfl, trivial⟩, rfl, OwnLe.refl _, rfl, own_eq (congrArg Own.c grow_cnd), trivial⟩ trivial ⟨AVle.refl _, AVle.refl _, AVle.refl _, AVle.refl _, le_int (wrap_succ (by first | omega | (dsimp only; omega))), trivial⟩)
      · have g2 : st = 2 := by
          by_cases h : st = 2
          · exact h
          · exfalso
            have : ((st : Int) == 2) = false := beq_eq_false_iff_ne.2 (by omega)
            exact absurd (g2.trans this) (by decide)
        have hR : normR ⟨s, (k, n), cs⟩ = none := by
          unfold normR
          dsimp only
          rw [any_at hi (by rw [hnv]; exact decide_eq_true g2)]; rfl
        rw [hR]
        rcases md with _ | ⟨s1, cap, tl⟩
        all_goals
          (repeat((conv=>whnf);first|apply ω0|apply ω1|apply ω2|refine τ3 rfl ?_|refine τ4 rfl ?_|refine ⟨rfl,?_⟩|apply τa|refine τb rfl ?_|refine ⟨⟨by kernel_rfl,by kernel_rfl⟩,?_⟩|refine ⟨by decide,?_⟩|apply τt|apply τf))
          exact ret_tells_all rfl ⟨rfl, trivial⟩ (AVle.tups (cs := [_, _]) ⟨AVle.ags (cs := [_, _, _, _]) ⟨AVle.refl _, AVle.refl _, AVle.refl _, AVle.os_sl0, trivial⟩, AVle.refl _, trivial⟩)
end Go.Proofs.W

namespace Go.Proofs.W
open Go.Vl
set_option maxRecDepth 100000

def rulC4 (r : Rul) : List AV := [strA r.name, int r.act.1, int r.act.2, cnds r.conds]
theorem idxf_rulK (l : List Rul) (p : Rul → Bool) (f : Nat) (n : Rul) (hl : l.length ≤ 1000000000) (hp : ∀ i, i < l.length → Tells Tryz.prog f [rulA (l.getD i rul0), .rp (rulC4 n)] (boolA (p (l.getD i rul0)))) :
    Tells Tryz.prog 67 [slOf 4 rulA rul0 l, (.fn (.func f) [] [.rp (rulC4 n)])] (int (optI (l.findIdx? p))) := by
  refine tells_of_aw Tryz.func67 rfl rfl fun nx => ?_
  (repeat((conv=>whnf);first|apply ω0|apply ω1|apply ω2|refine τ3 rfl ?_|refine τ4 rfl ?_|refine ⟨rfl,?_⟩|apply τa|refine τb rfl ?_|refine ⟨⟨by kernel_rfl,by kernel_rfl⟩,?_⟩|refine ⟨by decide,?_⟩|apply τt|apply τf))
  refine aw_loop (fun s : Nat × Nat => mk 19 [(0, slOf 4 rulA rul0 l), (1, (.fn (.func f) [] [.rp (rulC4 n)])), (7, int l.length), (8, int s.1)] ⟨[], [], s.2, 0⟩) (fun s => s.1 ≤ l.length ∧ ∀ j, j < s.1 → p (l.getD j rul0) = false) (fun s => l.length - s.1) ?_ ?_
  · exact ⟨(0, nx), ⟨by simp, by intro j hj; simp at hj⟩, ele_mk rfl rfl ⟨AVle.refl _, AVle.refl _, AVle.refl _, AVle.refl _, trivial⟩⟩
  · rintro ⟨i, nx⟩ ⟨h1, h2⟩
    dsimp only at h1 h2
    (repeat((conv=>whnf);first|apply ω0|apply ω1|apply ω2|refine τ3 rfl ?_|refine τ4 rfl ?_|refine ⟨rfl,?_⟩|apply τa|refine τb rfl ?_|refine ⟨⟨by kernel_rfl,by kernel_rfl⟩,?_⟩|refine ⟨by decide,?_⟩|apply τt|apply τf))
    intro c h3; cases c
    · have h3 := not_of h3
      dsimp only at h3
      (repeat((conv=>whnf);first|apply ω0|apply ω1|apply ω2|refine τ3 rfl ?_|refine τ4 rfl ?_|refine ⟨rfl,?_⟩|apply τa|refine τb rfl ?_|refine ⟨⟨by kernel_rfl,by kernel_rfl⟩,?_⟩|refine ⟨by decide,?_⟩|apply τt|apply τf))
      refine ret_tells rfl (le_int ?_)
      rw [idx_none rul0 (fun j hj => h2 j (by omega))]; rfl
    · have h3 := yes_of h3
      dsimp only at h3
      have hi : i < l.length := by omega
      (repeat((conv=>whnf);first|apply ω0|apply ω1|apply ω2|refine τ3 rfl ?_|refine τ4 rfl ?_|refine ⟨rfl,?_⟩|apply τa|refine τb rfl ?_|refine ⟨⟨by kernel_rfl,by kernel_rfl⟩,?_⟩|refine ⟨by decide,?_⟩|apply τt|apply τf))
      refine ⟨⟨by dsimp only; omega, by dsimp only; omega⟩, ?_⟩
      (repeat((conv=>whnf);first|apply ω0|apply ω1|apply ω2|refine τ3 rfl ?_|refine τ4 rfl ?_|refine ⟨rfl,?_⟩|apply τa|refine τb rfl ?_|refine ⟨⟨by kernel_rfl,by kernel_rfl⟩,?_⟩|refine ⟨by decide,?_⟩|apply τt|apply τf))
      refine aop_tells rfl rfl (hp i hi) ⟨AVle.refl _, AVle.refl _, trivial⟩ fun nx' => ?_
      intro c h4; cases c
      · (repeat((conv=>whnf);first|apply ω0|apply ω1|apply ω2|refine τ3 rfl ?_|refine τ4 rfl ?_|refine ⟨rfl,?_⟩|apply τa|refine τb rfl ?_|refine ⟨⟨by kernel_rfl,by kernel_rfl⟩,?_⟩|refine ⟨by decide,?_⟩|apply τt|apply τf))
        refine back (i + 1, nx') ⟨by dsimp only; omega, fun j hj => ?_⟩ (by dsimp only; omega) (ele_mk rfl rfl ⟨AVle.refl _, AVle.refl _, AVle.refl _, le_int (wrap_succ (by dsimp only; omega)), trivial⟩)
        dsimp only at hj
        rcases Nat.lt_or_ge j i with h | h
        · exact h2 j h
        · obtain rfl : j = i := by omega
          exact h4.symm
      · (repeat((conv=>whnf);first|apply ω0|apply ω1|apply ω2|refine τ3 rfl ?_|refine τ4 rfl ?_|refine ⟨rfl,?_⟩|apply τa|refine τb rfl ?_|refine ⟨⟨by kernel_rfl,by kernel_rfl⟩,?_⟩|refine ⟨by decide,?_⟩|apply τt|apply τf))
        refine ret_tells rfl (le_int ?_)
        rw [idx_at rul0 hi h2 h4.symm]; rfl
theorem cntf_rulK (l : List Rul) (p : Rul → Bool) (f : Nat) (n : Rul) (hl : l.length ≤ 1000000000) (hp : ∀ i, i < l.length → Tells Tryz.prog f [rulA (l.getD i rul0), .rp (rulC4 n)] (boolA (p (l.getD i rul0)))) :
    Tells Tryz.prog 99 [slOf 4 rulA rul0 l, (.fn (.func f) [] [.rp (rulC4 n)])] (boolA (l.any p)) := by
  refine tells_of_aw Tryz.func99 rfl rfl fun nx => ?_
  (repeat((conv=>whnf);first|apply ω0|apply ω1|apply ω2|refine τ3 rfl ?_|refine τ4 rfl ?_|refine ⟨rfl,?_⟩|apply τa|refine τb rfl ?_|refine ⟨⟨by kernel_rfl,by kernel_rfl⟩,?_⟩|refine ⟨by decide,?_⟩|apply τt|apply τf))
  refine aop_tells rfl rfl (idxf_rulK l p f n hl hp) ⟨AVle.refl _, AVle.refl _, trivial⟩ fun nx' => ?_
  (repeat((conv=>whnf);first|apply ω0|apply ω1|apply ω2|refine τ3 rfl ?_|refine τ4 rfl ?_|refine ⟨rfl,?_⟩|apply τa|refine τb rfl ?_|refine ⟨⟨by kernel_rfl,by kernel_rfl⟩,?_⟩|refine ⟨by decide,?_⟩|apply τt|apply τf))
  intro c h; cases c
  all_goals
    (repeat((conv=>whnf);first|apply ω0|apply ω1|apply ω2|refine τ3 rfl ?_|refine τ4 rfl ?_|refine ⟨rfl,?_⟩|apply τa|refine τb rfl ?_|refine ⟨⟨by kernel_rfl,by kernel_rfl⟩,?_⟩|refine ⟨by decide,?_⟩|apply τt|apply τf))
    refine ret_tells rfl (le_bool ?_)
    rw [h, ← List.findIdx?_isSome]
    exact optI_nonneg _

/-- A rule that leaves another one nothing; whether one of a row does. -/
def hidR (n x : Rul) : Bool := decide (x.conds = []) || decide (x.conds = n.conds)
def hidden (l : List Rul) (n : Rul) : Bool := l.any (hidR n)
theorem hid1_spec (x n : Rul) (hx : x.conds.length ≤ 1000000) : Tells Tryz.prog 124 [rulA x, .rp [strA n.name, int n.act.1, int n.act.2, cnds n.conds]] (boolA (hidR n x)) := by
  refine tells_of_aw Tryz.func124 rfl rfl fun nx => ?_
  by_cases h : x.conds = []
  · have e : hidR n x = true := by unfold hidR; rw [h]; rfl
    rw [e]
    (repeat((conv=>whnf);first|apply ω0|apply ω1|apply ω2|refine τ3 rfl ?_|refine τ4 rfl ?_|refine ⟨rfl,?_⟩|apply τa|refine τb rfl ?_|refine ⟨⟨by kernel_rfl,by kernel_rfl⟩,?_⟩|refine ⟨by decide,?_⟩|apply τt|apply τf))
    intro c hc
    have hc2 : c = true := hc.trans (beq_iff_eq.2 (congrArg (fun l : List Cnd => Int.ofNat l.length) h))
    clear hc; subst hc2
    (repeat((conv=>whnf);first|apply ω0|apply ω1|apply ω2|refine τ3 rfl ?_|refine τ4 rfl ?_|refine ⟨rfl,?_⟩|apply τa|refine τb rfl ?_|refine ⟨⟨by kernel_rfl,by kernel_rfl⟩,?_⟩|refine ⟨by decide,?_⟩|apply τt|apply τf))
    exact ret_tells rfl (AVle.refl _)
  · have e : hidR n x = decide (x.conds = n.conds) := by unfold hidR; rw [decide_eq_false h]; rfl
    rw [e]
    (repeat((conv=>whnf);first|apply ω0|apply ω1|apply ω2|refine τ3 rfl ?_|refine τ4 rfl ?_|refine ⟨rfl,?_⟩|apply τa|refine τb rfl ?_|refine ⟨⟨by kernel_rfl,by kernel_rfl⟩,?_⟩|refine ⟨by decide,?_⟩|apply τt|apply τf))
    intro c hc
    have hne : ¬ Int.ofNat x.conds.length = 0 := fun hh => h (List.eq_nil_of_length_eq_zero (Int.ofNat.inj hh))
    have hc2 : c = false := hc.trans (beq_eq_false_iff_ne.2 hne)
    clear hc; subst hc2
    (repeat((conv=>whnf);first|apply ω0|apply ω1|apply ω2|refine τ3 rfl ?_|refine τ4 rfl ?_|refine ⟨rfl,?_⟩|apply τa|refine τb rfl ?_|refine ⟨⟨by kernel_rfl,by kernel_rfl⟩,?_⟩|refine ⟨by decide,?_⟩|apply τt|apply τf))
    refine aop_tells rfl rfl (equalC_spec x.conds n.conds hx) ⟨AVle.refl _, AVle.refl _, trivial⟩ fun nx2 => ?_
    intro c h9; cases c
    all_goals
      (repeat((conv=>whnf);first|apply ω0|apply ω1|apply ω2|refine τ3 rfl ?_|refine τ4 rfl ?_|refine ⟨rfl,?_⟩|apply τa|refine τb rfl ?_|refine ⟨⟨by kernel_rfl,by kernel_rfl⟩,?_⟩|refine ⟨by decide,?_⟩|apply τt|apply τf))
      exact ret_tells rfl (le_bool h9)
theorem hidden_spec (l : List Rul) (n : Rul) (hl : l.length ≤ 1000000) (hc : ∀ r ∈ l, r.conds.length ≤ 1000000) : Tells Tryz.prog 83 [ruls l, rulA n] (boolA (hidden l n)) := by
  refine tells_of_aw Tryz.func83 rfl rfl fun nx => ?_
  ((repeat((conv=>whnf);first|apply ω0|apply ω2|refine τ3 rfl ?_|refine τ4 rfl ?_|refine ⟨rfl,?_⟩|apply τa|refine τb rfl ?_|refine ⟨⟨by kernel_rfl,by kernel_rfl⟩,?_⟩|refine ⟨by decide,?_⟩|apply τt|apply τf)); refine aw_region ?_; (repeat((conv=>whnf);first|apply ω0|apply ω2|refine τ3 rfl ?_|refine τ4 rfl ?_|refine ⟨rfl,?_⟩|apply τa|refine τb rfl ?_|refine ⟨⟨by kernel_rfl,by kernel_rfl⟩,?_⟩|refine ⟨by decide,?_⟩|apply τt|apply τf)))
  refine AW.le (ele_freeze (L := [(0, ruls l), (3, .rp [strA n.name, int n.act.1, int n.act.2, cnds n.conds])]) (bx := []) (pm := []) (nn := 1) [((0, nx), .c [strA n.name, int n.act.1, int n.act.2, cnds n.conds])] rfl rfl (List.Sublist.refl _) .slnil ⟨Frz.refl _, Frz.bp (.head _) rfl, trivial⟩) ?_
  (repeat((conv=>whnf);first|apply ω0|apply ω1|apply ω2|refine τ3 rfl ?_|refine τ4 rfl ?_|refine ⟨rfl,?_⟩|apply τa|refine τb rfl ?_|refine ⟨⟨by kernel_rfl,by kernel_rfl⟩,?_⟩|refine ⟨by decide,?_⟩|apply τt|apply τf))
  refine aop_tells rfl rfl (cntf_rulK l (hidR n) 124 n (by omega) (fun i hi => hid1_spec _ _ (hc _ (by simp [List.getD, hi])))) ⟨AVle.refl _, AVle.refl _, trivial⟩ fun nx2 => ?_
  intro c h9; cases c
  all_goals
    (repeat((conv=>whnf);first|apply ω0|apply ω1|apply ω2|refine τ3 rfl ?_|refine τ4 rfl ?_|refine ⟨rfl,?_⟩|apply τa|refine τb rfl ?_|refine ⟨⟨by kernel_rfl,by kernel_rfl⟩,?_⟩|refine ⟨by decide,?_⟩|apply τt|apply τf))
    exact ret_tells rfl (le_bool h9)
end Go.Proofs.W

namespace Go.Proofs.W
open Go.Vl
set_option maxRecDepth 100000

def keyAt (es : List (Value × AV)) (j : Nat) : Value := (es.getD j (.int .i64 0, .any)).1
theorem keyAt_some {es : List (Value × AV)} {k : Nat} {p : Value × AV} (h : es[k]? = some p) : keyAt es k = p.1 := by simp [keyAt, List.getD, h]
theorem keyAt_all (es : List (Value × AV)) : (List.range es.length).map (keyAt es) = es.map (·.1) := by
  refine List.ext_getElem (by simp) fun j h1 h2 => ?_
  have : j < es.length := by simpa using h1
  simp [keyAt, List.getD, this]
end Go.Proofs.W

namespace Go.Proofs
open Go.Shelf
shelf_lay_g SlLaysM.n6 Slgm 6 at Tryz 127 as Tryz.laysM6k16
end Go.Proofs
namespace Go.Proofs.W
open Go.Vl Go.Shelf
set_option maxRecDepth 100000

theorem keys_strK16 (es : List (Value × AV)) (hky : ∀ p ∈ es, ∃ z, p.1 = .string z) : IterSet Tryz.prog 128 [] [.rp [.fm es]] (fun v : Value => [.v v]) (fun xs => xs.Perm (es.map (·.1))) := by
  intro i σ Cb Cp I J hc s0 nx nn h0
  refine ECall.wk (ecall_of_aw Tryz.func128 rfl rfl ?_)
  (repeat((conv=>whnf);first|apply ω0|apply ω2|refine τ3 rfl ?_|refine τ4 rfl ?_|refine ⟨rfl,?_⟩|apply τa|refine τb rfl ?_|refine ⟨⟨by kernel_rfl,by kernel_rfl⟩,?_⟩|refine ⟨by decide,?_⟩|apply τt|apply τf))
  refine aw_regionY (fun n => match n with | 0 => true | _ => false) 2 ?_
  (repeat((conv=>whnf);first|apply ω0|apply ω1|apply ω2|refine τ3 rfl ?_|refine τ4 rfl ?_|refine ⟨rfl,?_⟩|apply τa|refine τb rfl ?_|refine ⟨⟨by kernel_rfl,by kernel_rfl⟩,?_⟩|refine ⟨by decide,?_⟩|apply τt|apply τf))
  refine aop_rangeM rfl Tryz.underlying137 rfl ?_
  (repeat((conv=>whnf);first|apply ω0|apply ω1|apply ω2|refine τ3 rfl ?_|refine τ4 rfl ?_|refine ⟨rfl,?_⟩|apply τa|refine τb rfl ?_|refine ⟨⟨by kernel_rfl,by kernel_rfl⟩,?_⟩|refine ⟨by decide,?_⟩|apply τt|apply τf))
  refine aw_loop (fun y : List Nat × σ × Nat => mk 14 [(0, .yl i), (5, .bp (nn, nx) 0)] ⟨((nn, nx), .it es y.1) :: Cb y.2.1, Cp y.2.1, y.2.2, nn + 1⟩) (fun y => y.1.Nodup ∧ (∀ j ∈ y.1, j < es.length) ∧ I (y.1.map (keyAt es)) y.2.1) (fun y => es.length - y.1.length) ?_ ?_
  · exact ⟨([], s0, nx + 1), ⟨List.nodup_nil, (fun j (h : j ∈ []) => by cases h), h0⟩, ele_tell _ _ rfl rfl (List.Sublist.refl _) (List.Sublist.refl _) ⟨rfl, OwnLe.refl _, BxLe.refl _⟩ (PmEq.refl _) ⟨AVle.refl _, AVle.refl _, trivial⟩⟩
  · rintro ⟨seen, s, nx1⟩ ⟨h1, h2, h3⟩
    dsimp only at h1 h2 h3
    (repeat((conv=>whnf);first|apply ω0|apply ω2|refine τ3 rfl ?_|refine τ4 rfl ?_|refine ⟨rfl,?_⟩|apply τa|refine τb rfl ?_|refine ⟨⟨by kernel_rfl,by kernel_rfl⟩,?_⟩|refine ⟨by decide,?_⟩|apply τt|apply τf))
    refine aw_regionY (fun n => match n with | 0 => true | _ => false) 1 ?_
    refine aop_nextH (i := (nn, nx)) (es := es) (seen := seen) (R := Cb s) rfl rfl rfl (fun k p hk hn => ?_) (fun hall => ?_)
    · obtain ⟨z, hz⟩ := hky p (List.mem_of_getElem? hk)
      obtain ⟨key, val⟩ := p
      dsimp only at hz
      subst hz
      have hk2 : k < es.length := (List.getElem?_eq_some_iff.1 hk).1
      have hka : keyAt es k = .string z := keyAt_some hk
      obtain ⟨post, hperm⟩ := perm_left h1 h2 hk2 hn
      have hS : (seen.map (keyAt es) ++ (.string z) :: post.map (keyAt es)).Perm (es.map (·.1)) := by
        rw [← keyAt_all, ← hka]
        simpa using hperm.map (keyAt es)
      have hlen := hperm.length_eq
      have hnd : (seen ++ [k]).Nodup := by
        rw [List.nodup_append]
        exact ⟨h1, by simp, fun a ha b hb hab => by rw [List.mem_singleton] at hb; subst hb; subst hab; exact hn ha⟩
      have hlt : ∀ j ∈ seen ++ [k], j < es.length := fun j hj => by
        rcases List.mem_append.1 hj with h | h
        · exact h2 j h
        · rw [List.mem_singleton] at h; omega
      have hmk : (seen ++ [k]).map (keyAt es) = seen.map (keyAt es) ++ [.string z] := by rw [List.map_append, ← hka]; rfl
      have hlen2 : seen.length < es.length := by simp at hlen; omega
      (repeat((conv=>whnf);first|apply ω0|apply ω2|refine τ3 rfl ?_|refine τ4 rfl ?_|refine ⟨rfl,?_⟩|apply τa|refine τb rfl ?_|refine ⟨⟨by kernel_rfl,by kernel_rfl⟩,?_⟩|refine ⟨by decide,?_⟩|apply τt|apply τf))
      refine aw_regionY (fun n => match n with | 0 => true | _ => false) 1 ?_
      refine aop_entryH (i := (nn, nx)) (seen := seen) (k := k) (R := Cb s) rfl rfl rfl hk ?_
      (repeat((conv=>whnf);first|apply ω0|apply ω2|refine τ3 rfl ?_|refine τ4 rfl ?_|refine ⟨rfl,?_⟩|apply τa|refine τb rfl ?_|refine ⟨⟨by kernel_rfl,by kernel_rfl⟩,?_⟩|refine ⟨by decide,?_⟩|apply τt|apply τf))
      refine aw_regionY (fun n => match n with | 0 => true | _ => false) 3 ?_
      (repeat((conv=>whnf);first|apply ω0|apply ω1|apply ω2|refine τ3 rfl ?_|refine τ4 rfl ?_|refine ⟨rfl,?_⟩|apply τa|refine τb rfl ?_|refine ⟨⟨by kernel_rfl,by kernel_rfl⟩,?_⟩|refine ⟨by decide,?_⟩|apply τt|apply τf))
      refine aop_hand [((nn, nx), .it es (seen ++ [k]))] [] rfl rfl rfl (hc _ hS) rfl h3 ⟨AVle.refl _, trivial⟩ (fun s' nx' hI => ?_) (fun s' nx' hJ => ?_)
      · (repeat((conv=>whnf);first|apply ω0|apply ω1|apply ω2|refine τ3 rfl ?_|refine τ4 rfl ?_|refine ⟨rfl,?_⟩|apply τa|refine τb rfl ?_|refine ⟨⟨by kernel_rfl,by kernel_rfl⟩,?_⟩|refine ⟨by decide,?_⟩|apply τt|apply τf))
        exact back (seen ++ [k], s', nx') ⟨hnd, hlt, by dsimp only; rw [hmk]; exact hI⟩ (by simp; omega) (ele_tell _ _ rfl rfl (List.Sublist.refl _) (List.Sublist.refl _) (BxLe.refl _) (PmEq.refl _) ⟨AVle.refl _, AVle.refl _, trivial⟩)
      · (repeat((conv=>whnf);first|apply ω0|apply ω1|apply ω2|refine τ3 rfl ?_|refine τ4 rfl ?_|refine ⟨rfl,?_⟩|apply τa|refine τb rfl ?_|refine ⟨⟨by kernel_rfl,by kernel_rfl⟩,?_⟩|refine ⟨by decide,?_⟩|apply τt|apply τf))
        exact ret_is rfl ⟨_, ⟨Cb s', Cp s', nx', nn⟩, AVle.refl _, hle_tell _ _ rfl (.cons _ (List.Sublist.refl _)) (List.Sublist.refl _) (BxLe.refl _) (PmEq.refl _), _, s', hS, .inr ⟨_, _, _, rfl, hJ⟩, rfl, rfl⟩
    · (repeat((conv=>whnf);first|apply ω0|apply ω1|apply ω2|refine τ3 rfl ?_|refine τ4 rfl ?_|refine ⟨rfl,?_⟩|apply τa|refine τb rfl ?_|refine ⟨⟨by kernel_rfl,by kernel_rfl⟩,?_⟩|refine ⟨by decide,?_⟩|apply τt|apply τf))
      refine ret_is rfl ⟨_, ⟨Cb s, Cp s, nx1, nn⟩, AVle.refl _, hle_tell _ _ rfl (.cons _ (List.Sublist.refl _)) (List.Sublist.refl _) (BxLe.refl _) (PmEq.refl _), _, s, ?_, .inl h3, rfl, rfl⟩
      rw [← keyAt_all]
      exact (perm_full h1 h2 hall).map _
def rowVK16 (l : List Value) (k : Nat) : AV := .v (l.getD k (.bool false))
theorem b_strK16 : Tryz.prog.bytesOf 9 = 16 := by kernel_rfl
theorem mapsKeys_strK16 (es : List (Value × AV)) : Tells Tryz.prog 85 [.fm es] (.fn (.func 128) [] [.rp [.fm es]]) := by
  refine tells_of_aw Tryz.func85 rfl rfl fun nx => ?_
  (repeat ((conv=>whnf);first|refine ω0 ?_|refine ω1 ?_|refine ω2 ?_|refine ω3 ?_|refine ω4 rfl ?_|refine ω5 rfl ?_|refine ω6 ?_|refine ω7 ?_|refine ⟨rfl,?_⟩|refine ⟨trivial,?_⟩|refine ⟨⟨rfl,Nat.le_of_ble_eq_true rfl⟩,?_⟩|refine ⟨⟨by kernel_rfl,by kernel_rfl⟩,?_⟩|refine ⟨by decide,?_⟩|refine lit_true ?_|refine lit_false ?_))
  refine AW.le (ele_freeze (L := [(2, .fn (.func 128) [] [.rp [.fm es]])]) (bx := []) (pm := []) (nn := 1) [((0, nx), .c [.fm es])] rfl rfl (List.Sublist.refl _) .slnil ⟨Frz.fn trivial ⟨Frz.bp (.head _) rfl, trivial⟩, trivial⟩) ?_
  (repeat((conv=>whnf);first|apply ω0|apply ω1|apply ω2|refine τ3 rfl ?_|refine τ4 rfl ?_|refine ⟨rfl,?_⟩|apply τa|refine τb rfl ?_|refine ⟨⟨by kernel_rfl,by kernel_rfl⟩,?_⟩|refine ⟨by decide,?_⟩|apply τt|apply τf))
  exact ret_tells rfl (AVle.refl _)
set_option maxHeartbeats 1000000 in
theorem appendSeq_strK16 {it : FuncId} {es : List (Value × AV)} {S : List Value → Prop} (hit : IterSet Tryz.prog it [] [.rp [.fm es]] (fun v : Value => [.v v]) S) (hS : ∀ xs, S xs → xs.length ≤ 1000000 ∧ ∀ v ∈ xs, ∃ z, v = .string z) (nx : Nat) :
    ECall Tryz.prog 167 [.os 0 0 (fun _ => .any) none, .fn (.func it) [] [.rp [.fm es]]] ⟨[], [], nx, 0⟩ fun r h' => ∃ xs oi nx' nn', S xs ∧ (oi = none → xs = []) ∧ r = .os 1 xs.length (rowVK16 xs) oi ∧ h' = ⟨[], pmOf oi (xs.length * 1), nx', nn'⟩ := by
  refine ECall.wk (ecall_of_aw Tryz.func167 rfl rfl ?_)
  (repeat((conv=>whnf);first|apply ω0|apply ω1|apply ω2|refine τ3 rfl ?_|refine τ4 rfl ?_|refine ⟨rfl,?_⟩|apply τa|refine τb rfl ?_|refine ⟨⟨by kernel_rfl,by kernel_rfl⟩,?_⟩|refine ⟨by decide,?_⟩|apply τt|apply τf))
  refine AW.le (E' := mk 13 [(2, .bp (0, nx) 0), (6, .fn (.func it) [] [.rp [.fm es]])] ⟨[((0, nx), .c [.os 1 0 (rowVK16 []) none])], [], nx + 1, 1⟩) ?_ ?_
  · exact ele_tell _ _ rfl rfl (List.Sublist.refl _) .slnil ⟨rfl, ⟨AVle.os_nil, trivial⟩, trivial⟩ trivial ⟨AVle.refl _, AVle.refl _, trivial⟩
  refine aw_forS (σ := Nat × (Nat → AV) × Option Vl.Id) (α := Value) (e := fun v => [.v v]) (S := S) (first' := []) (caps' := [.rp [.fm es]]) (fun x => [((0, nx), .c [.os 1 x.1 x.2.1 x.2.2])]) (fun x => pmOf x.2.2 (x.1 * 1)) (fun pre x => x.1 = pre.length ∧ (∀ k, k < x.1 → x.2.1 k = rowVK16 pre k) ∧ (x.2.2 = none → pre = [])) (0, rowVK16 [], none) rfl rfl hit (LeL.refl _) (LeL.refl _) rfl rfl ⟨rfl, fun _ _ => rfl, fun _ => rfl⟩ (fun _ => rfl) ?_ ?_
  · rintro pre x post ⟨n, f, oi⟩ nx3 nn3 hx ⟨hp, hf, ho⟩
    dsimp only at hp hf ho
    subst hp
    obtain ⟨hlen, hty⟩ := hS _ hx
    obtain ⟨z, rfl⟩ := hty x (by simp)
    simp at hlen
    (repeat((conv=>whnf);first|apply ω0|apply ω2|refine τ3 rfl ?_|refine τ4 rfl ?_|refine ⟨rfl,?_⟩|apply τa|refine τb rfl ?_|refine ⟨⟨by kernel_rfl,by kernel_rfl⟩,?_⟩|refine ⟨by decide,?_⟩|apply τt|apply τf))
    refine aw_region ?_
    (repeat((conv=>whnf);first|apply ω0|apply ω2|refine τ3 rfl ?_|refine τ4 rfl ?_|refine ⟨rfl,?_⟩|apply τa|refine τb rfl ?_|refine ⟨⟨by kernel_rfl,by kernel_rfl⟩,?_⟩|refine ⟨by decide,?_⟩|apply τt|apply τf))
    refine aw_regionY (fun n => match n with | 0 => true | _ => false) 4 ?_
    (repeat((conv=>whnf);first|apply ω0|apply ω1|apply ω2|refine τ3 rfl ?_|refine τ4 rfl ?_|refine ⟨rfl,?_⟩|apply τa|refine τb rfl ?_|refine ⟨⟨by kernel_rfl,by kernel_rfl⟩,?_⟩|refine ⟨by decide,?_⟩|apply τt|apply τf))
    refine aop_append1 (e := 9) (c := 1) (pm := []) (n := pre.length) (oi := oi) (sz := 1) (f := f) rfl rfl (.inr ⟨_, rfl⟩) (by kernel_rfl) (by kernel_rfl) (by kernel_rfl) (.inr rfl) (by kernel_rfl) (List.append_nil _).symm (oneRow_one rfl) (by rw [b_strK16]; omega) (by omega) ?_
    (repeat((conv=>whnf);first|apply ω0|apply ω1|apply ω2|refine τ3 rfl ?_|refine τ4 rfl ?_|refine ⟨rfl,?_⟩|apply τa|refine τb rfl ?_|refine ⟨⟨by kernel_rfl,by kernel_rfl⟩,?_⟩|refine ⟨by decide,?_⟩|apply τt|apply τf))
    refine ⟨(pre.length + 1, _, some (nn3, nx3)), .inl ⟨rfl, by simp, fun k hk => ?_, fun h => by cases h⟩, rfl, rfl⟩
    refine appF_one (fun k hk => ?_) ?_ k hk
    · rw [hf k hk]; simp [rowVK16, List.getD, List.getElem?_append_left hk, hk]
    · simp [rowVK16, List.getD]; rfl
  · rintro xs ⟨n, f, oi⟩ nx3 nn3 hx ⟨hp, hf, ho⟩
    dsimp only at hp hf ho
    subst hp
    (repeat((conv=>whnf);first|apply ω0|apply ω1|apply ω2|refine τ3 rfl ?_|refine τ4 rfl ?_|refine ⟨rfl,?_⟩|apply τa|refine τb rfl ?_|refine ⟨⟨by kernel_rfl,by kernel_rfl⟩,?_⟩|refine ⟨by decide,?_⟩|apply τt|apply τf))
    refine ret_is rfl ⟨.os 1 xs.length (rowVK16 xs) oi, ⟨[], pmOf oi (xs.length * 1), nx3, 0⟩, AVle.os_fun hf, ?_, xs, oi, nx3, 0, hx, ho, rfl, rfl⟩
    exact hle_tell [] _ rfl (List.nil_sublist _) (List.Sublist.refl _) trivial (PmEq.refl _)
theorem collect_strK16 (es : List (Value × AV)) (hl : es.length ≤ 1000000) (hky : ∀ p ∈ es, ∃ z, p.1 = .string z) (nx : Nat) :
    ECall Tryz.prog 126 [.fn (.func 128) [] [.rp [.fm es]]] ⟨[], [], nx, 0⟩ (thawQ (fun n f => ∃ xs : List Value, xs.Perm (es.map (·.1)) ∧ n = xs.length ∧ ∀ k, k < n → f k = rowVK16 xs k) 1) := by
  refine ecall_thaw (by decide) (fun n f ⟨xs, _, _, hf⟩ k hk c hc => ?_) ?_
  · rw [hf k hk] at hc
    obtain rfl : c = rowVK16 xs k := by simpa [rowVK16, AV.cells] using hc
    exact Flat.v _
  refine ECall.wk (ecall_of_aw Tryz.func126 rfl rfl ?_)
  (repeat((conv=>whnf);first|apply ω0|apply ω1|apply ω2|refine τ3 rfl ?_|refine τ4 rfl ?_|refine ⟨rfl,?_⟩|apply τa|refine τb rfl ?_|refine ⟨⟨by kernel_rfl,by kernel_rfl⟩,?_⟩|refine ⟨by decide,?_⟩|apply τt|apply τf))
  refine aop_call rfl rfl (ECall.args (bs := [.os 0 0 (fun _ => .any) none, .fn (.func 128) [] [.rp [.fm es]]]) ⟨AVle.refl _, AVle.refl _, trivial⟩ (appendSeq_strK16 (keys_strK16 es hky) (fun xs hx => ⟨by have := hx.length_eq; simp at this; omega, fun v hv => ?_⟩) nx)) fun r h' hq => ?_
  · obtain ⟨p, hp, rfl⟩ := List.mem_map.1 (hx.mem_iff.1 hv)
    exact hky p hp
  obtain ⟨xs, oi, nx', nn', hS, ho, rfl, rfl⟩ := hq
  refine Named.same ?_
  (repeat((conv=>whnf);first|apply ω0|apply ω1|apply ω2|refine τ3 rfl ?_|refine τ4 rfl ?_|refine ⟨rfl,?_⟩|apply τa|refine τb rfl ?_|refine ⟨⟨by kernel_rfl,by kernel_rfl⟩,?_⟩|refine ⟨by decide,?_⟩|apply τt|apply τf))
  exact ret_is rfl ⟨_, _, AVle.refl _, HLe.refl _, xs.length, rowVK16 xs, oi, nx', _, ⟨xs, hS, rfl, fun _ _ => rfl⟩, (fun h => by rw [ho h]; rfl), rfl, rfl⟩
def eA_strK16 (z : List UInt8) : AV := .v (encStr z)
def rowH_strK16 (s : Nat) (d : Array (List UInt8)) (tl : List AV) : List (Vl.Id × Own) := [((0, s), .c (rowG eA_strK16 d tl))]
theorem sort_str_eqKK16 (l : List (List UInt8)) : l.mergeSort (fun x y => decide (x ≤ y)) = sortBy Go.Sort.ltStr l := by
  unfold sortBy
  congr 1
  funext x y
  simp only [Go.Sort.ltStr]
  by_cases h : x ≤ y
  · rw [decide_eq_true h, decide_eq_false (List.not_lt.2 h)]; rfl
  · rw [decide_eq_false h, decide_eq_true (List.not_le.1 h)]; rfl
theorem ltStr_totK16 : ∀ x y : List UInt8, Go.Sort.ltStr x y = false → Go.Sort.ltStr y x = false → x = y := fun x y h1 h2 => by
  simp only [Go.Sort.ltStr, decide_eq_false_iff_not, List.not_lt] at h1 h2
  exact List.le_antisymm h2 h1
theorem sortS_strK16 (d0 : Array (List UInt8)) (tl : List AV) (n : Nat) (hn : d0.size = n) (hsz : n ≤ 1000000) (s cap nx : Nat) :
    ECall Tryz.prog 127 [.hs (0, s) 0 n cap] ⟨rowH_strK16 s d0 tl, [], nx, 1⟩ (fun r h' => ∃ nx' nn', h' = ⟨rowH_strK16 s (sortBy Go.Sort.ltStr d0.toList).toArray tl, [], nx', nn'⟩) := by
  subst hn
  have h := ecall_sort1 (P := Tryz.prog) (enc := encStr) (d := d0) (d' := (sortBy Go.Sort.ltStr d0.toList).toArray) (tl := tl) (nm := 0) (s := s) (cap := cap) (nx := nx) (nn := 1) (f := 127) ⟨_, Tryz.func127, rfl, rfl⟩ (by simp [sortBy_length]) (fun w blk hH hb => by
    have k := AnyM.slices_Sort_string Tryz.laysM6k16 blk 0 cap d0.toList w hH hb (by simp; omega)
    rw [sort_str_eqKK16] at k
    exact k)
  exact h.mono fun r h' ⟨_, h2⟩ => ⟨nx, 1, h2⟩
theorem sort0_strK16 (F : Nat → AV) : Tells Tryz.prog 127 [.os 1 0 F none] (.tup []) :=
  ecall_sort0 (nx := 0) ⟨_, Tryz.func127, rfl, rfl⟩ fun p cap w => AnyM.slices_Sort_string_none Tryz.laysM6k16 p cap w
def dec_strK16 : Value → List UInt8
  | .string z => z.data.toList
  | _ => []
theorem sorted_strK16 (es : List (Value × AV)) (zs : List (List UInt8)) (hz : es.map (·.1) = zs.map encStr) (hl : es.length ≤ 1000000) :
    Tells Tryz.prog 84 [.fn (.func 128) [] [.rp [.fm es]]] (slOf 1 eA_strK16 [] (sortBy Go.Sort.ltStr zs)) := by
  have hky : ∀ p ∈ es, ∃ z, p.1 = encStr z := fun p hp => by
    have : p.1 ∈ zs.map encStr := hz ▸ List.mem_map_of_mem hp
    obtain ⟨z, _, h⟩ := List.mem_map.1 this
    exact ⟨z, h.symm⟩
  refine tells_of_aw Tryz.func84 rfl rfl fun nx => ?_
  (repeat((conv=>whnf);first|apply ω0|apply ω1|apply ω2|refine τ3 rfl ?_|refine τ4 rfl ?_|refine ⟨rfl,?_⟩|apply τa|refine τb rfl ?_|refine ⟨⟨by kernel_rfl,by kernel_rfl⟩,?_⟩|refine ⟨by decide,?_⟩|apply τt|apply τf))
  refine aop_call rfl rfl (collect_strK16 es hl (fun p hp => let ⟨z, h⟩ := hky p hp; ⟨⟨z.toArray⟩, h⟩) nx) fun r h' hq => ?_
  obtain ⟨n, f, ⟨xs, hxp, hxn, hxf⟩, hq⟩ := hq
  obtain ⟨ys, rfl⟩ : ∃ ys : List (List UInt8), xs = ys.map encStr := by
    have hall : ∀ v ∈ xs, ∃ z, v = encStr z := fun v hv => by
      have hv2 := hxp.mem_iff.1 hv
      rw [hz] at hv2
      obtain ⟨z, _, h⟩ := List.mem_map.1 hv2
      exact ⟨z, h.symm⟩
    clear hxp hxn hxf hq
    induction xs with
    | nil => exact ⟨[], rfl⟩
    | cons x xs ih =>
      obtain ⟨z, rfl⟩ := hall x (by simp)
      obtain ⟨ys, rfl⟩ := ih fun v hv => hall v (by simp [hv])
      exact ⟨z :: ys, rfl⟩
  have hperm : ys.Perm zs := by
    rw [hz] at hxp
    have h2 := hxp.map dec_strK16
    rwa [List.map_map, List.map_map, show (dec_strK16 ∘ encStr) = id from rfl, List.map_id, List.map_id] at h2
  have hsz : n ≤ 1000000 := by
    have := hxp.length_eq
    simp at this
    rw [hxn]; simp; omega
  rcases hq with ⟨rfl, hb, hp, rfl⟩ | ⟨s, cap, more, nx', nn', hcap, hmore, rfl, rfl⟩
  · have hys : ys = [] := by cases ys with | nil => rfl | cons y ys => simp at hxn
    subst hys
    have hzs : zs = [] := hperm.symm.eq_nil
    subst hzs
    rw [show sortBy Go.Sort.ltStr ([] : List (List UInt8)) = [] from List.eq_nil_of_length_eq_zero sortBy_length]
    obtain ⟨bx, pm, nxx, nnn⟩ := h'
    dsimp only at hb hp
    subst hb; subst hp
    refine Named.same ?_
    (repeat((conv=>whnf);first|apply ω0|apply ω1|apply ω2|refine τ3 rfl ?_|refine τ4 rfl ?_|refine ⟨rfl,?_⟩|apply τa|refine τb rfl ?_|refine ⟨⟨by kernel_rfl,by kernel_rfl⟩,?_⟩|refine ⟨by decide,?_⟩|apply τt|apply τf))
    refine aop_tells rfl rfl (sort0_strK16 f) ⟨AVle.refl _, trivial⟩ fun nx2 => ?_
    (repeat((conv=>whnf);first|apply ω0|apply ω1|apply ω2|refine τ3 rfl ?_|refine τ4 rfl ?_|refine ⟨rfl,?_⟩|apply τa|refine τb rfl ?_|refine ⟨⟨by kernel_rfl,by kernel_rfl⟩,?_⟩|refine ⟨by decide,?_⟩|apply τt|apply τf))
    exact ret_tells rfl AVle.os_sl0
  · refine Named.same ?_
    have hcells : rowCells n f = ys.toArray.toList.map eA_strK16 := by
      have key : ∀ m, m ≤ n → rowCells m f = (ys.take m).map eA_strK16 := by
        intro m
        induction m with
        | zero => intro _; rfl
        | succ m ih =>
          intro hm
          have hm' : m < ys.length := by simp at hxn; omega
          have e : rowCells (m + 1) f = rowCells m f ++ (f m).cells := by unfold rowCells; rw [List.range_succ, List.flatMap_append]; simp
          rw [e, ih (by omega), hxf m (by omega), List.take_add_one, List.map_append]
          simp [rowVK16, List.getD, hm', AV.cells, eA_strK16]
      rw [key n (Nat.le_refl _), List.take_of_length_le (by simp at hxn; omega)]
    have hnn : ys.toArray.size = n := by simp at hxn; simp [hxn]
    rw [hcells]
    (repeat((conv=>whnf);first|apply ω0|apply ω2|refine τ3 rfl ?_|refine τ4 rfl ?_|refine ⟨rfl,?_⟩|apply τa|refine τb rfl ?_|refine ⟨⟨by kernel_rfl,by kernel_rfl⟩,?_⟩|refine ⟨by decide,?_⟩|apply τt|apply τf))
    refine AW.le (E' := mk 9 [(3, .hs (0, s) 0 n cap)] ⟨rowH_strK16 s ys.toArray (List.replicate more .any), [], nx', 1⟩) (ele_tell _ _ rfl rfl (List.Sublist.refl _) .slnil (BxLe.refl _) trivial ⟨AVle.refl _, trivial⟩) ?_
    (repeat((conv=>whnf);first|apply ω0|apply ω1|apply ω2|refine τ3 rfl ?_|refine τ4 rfl ?_|refine ⟨rfl,?_⟩|apply τa|refine τb rfl ?_|refine ⟨⟨by kernel_rfl,by kernel_rfl⟩,?_⟩|refine ⟨by decide,?_⟩|apply τt|apply τf))
    refine aop_callF (xs := [.hs (0, s) 0 n cap]) [] [] 1 rfl rfl rfl rfl ⟨AVle.refl _, trivial⟩ (sortS_strK16 ys.toArray _ n hnn hsz s cap _) (BxLe.refl _) (PmEq.refl _) rfl fun r h' hq => ?_
    obtain ⟨nx2, nn2, rfl⟩ := hq
    have hd : (sortBy Go.Sort.ltStr ys.toArray.toList).toArray.toList = sortBy Go.Sort.ltStr zs := by
      show sortBy Go.Sort.ltStr ys = _
      exact sortBy_of_perm Go.Sort.swo_ltStr ltStr_totK16 hperm
    generalize (sortBy Go.Sort.ltStr ys.toArray.toList).toArray = d' at hd ⊢
    have hdn : d'.size = n := by
      rw [← Array.length_toList, hd, sortBy_length, ← hperm.length_eq]
      simpa using hnn
    have hln : (sortBy Go.Sort.ltStr zs).length = n := by rw [← hd]; simpa using hdn
    (repeat((conv=>whnf);first|apply ω0|apply ω2|refine τ3 rfl ?_|refine τ4 rfl ?_|refine ⟨rfl,?_⟩|apply τa|refine τb rfl ?_|refine ⟨⟨by kernel_rfl,by kernel_rfl⟩,?_⟩|refine ⟨by decide,?_⟩|apply τt|apply τf))
    refine AW.le (ele_freeze (L := [(3, slOf 1 eA_strK16 [] (sortBy Go.Sort.ltStr zs))]) (bx := []) (pm := []) (nn := 1) [((0, s), .c (rowG eA_strK16 d' (List.replicate more .any)))] rfl rfl (List.Sublist.refl _) .slnil ⟨?_, trivial⟩) ?_
    · unfold slOf
      rw [hln]
      refine Frz.hs1 (.head _) hcap (by rw [rowG_len]; omega) (fun k _ => rfl) (fun k hk => ?_)
      unfold rowG
      rw [List.getElem?_append_left (by simpa [hdn] using hk), List.getElem?_map, ← hd]
      have : k < d'.size := by omega
      simp [List.getD, this]
    · (repeat((conv=>whnf);first|apply ω0|apply ω1|apply ω2|refine τ3 rfl ?_|refine τ4 rfl ?_|refine ⟨rfl,?_⟩|apply τa|refine τb rfl ?_|refine ⟨⟨by kernel_rfl,by kernel_rfl⟩,?_⟩|refine ⟨by decide,?_⟩|apply τt|apply τf))
      exact ret_tells rfl (AVle.refl _)
end Go.Proofs.W

namespace Go.Proofs.W
open Go.Vl
set_option maxRecDepth 100000

/- Rules in groups by their names: the pure side, and how a map of rows of one's own holds them. -/
def keyB (s t : ByteArray) : Bool := s.toList == t.toList
theorem keyB_eq {s t : ByteArray} : keyB s t = true ↔ s = t := by
  unfold keyB
  rw [beq_iff_eq, Lib.toList_data, Lib.toList_data]
  constructor
  · intro h
    obtain ⟨⟨a⟩⟩ := s
    obtain ⟨⟨b⟩⟩ := t
    simpa using h
  · rintro rfl; rfl
def gget : List (ByteArray × List Rul) → ByteArray → List Rul
  | [], _ => []
  | h :: H, s => if keyB s h.1 then h.2 else gget H s
def gadd : List (ByteArray × List Rul) → ByteArray → Rul → List (ByteArray × List Rul)
  | [], s, n => [(s, [n])]
  | h :: H, s, n => if keyB s h.1 then (h.1, h.2 ++ [n]) :: H else h :: gadd H s n
def gstep (H : List (ByteArray × List Rul)) (r : Rul) : List (ByteArray × List Rul) :=
  match normR r with
  | none => H
  | some n => if hidden (gget H r.name) n then H else gadd H r.name n
def groupsOf (rs : List Rul) : List (ByteArray × List Rul) := rs.foldl gstep []
theorem groupsOf_next {rs : List Rul} {i : Nat} (h : i < rs.length) : groupsOf (rs.take (i + 1)) = gstep (groupsOf (rs.take i)) (rs.getD i rul0) := by
  unfold groupsOf; rw [take_getD rul0 h, List.foldl_append]; rfl

def rulF (R : List Rul) (k : Nat) : AV := rulA (R.getD k rul0)
abbrev Grp := ByteArray × List Rul × Nat
def gE (g : Grp) : Value × AV := (.string g.1, .os 4 g.2.1.length (rulF g.2.1) (some (g.2.2, g.2.2)))
def gF (g : Grp) : Value × AV := (.string g.1, ruls g.2.1)
def gP (g : Grp) : Vl.Id × Nat := ((g.2.2, g.2.2), g.2.1.length * 4)
def strip (G : List Grp) : List (ByteArray × List Rul) := G.map fun g => (g.1, g.2.1)
theorem gE_fit (G : List Grp) : keysFit .string (G.map gE) = true := by simp [keysFit, gE, keyFit]
theorem gF_fit (G : List Grp) : keysFit .string (G.map gF) = true := by simp [keysFit, gF, keyFit]
theorem alook_none {s : ByteArray} {e : Grp → Value × AV} (he : ∀ g, (e g).1 = .string g.1) : ∀ {G : List Grp}, (∀ g ∈ G, keyB s g.1 = false) → alook (.string s) (G.map e) = none
  | [], _ => rfl
  | g :: G, h => by
    have h0 : (s.toList == g.1.toList) = false := h g (.head _)
    show (bif keyIs (.string s) (e g).1 then _ else alook (.string s) (G.map e)) = none
    rw [he g]
    show (bif s.toList == g.1.toList then _ else alook (.string s) (G.map e)) = none
    rw [h0]
    exact alook_none he fun g' hg => h g' (.tail _ hg)
theorem alook_at {s : ByteArray} {e : Grp → Value × AV} (he : ∀ g, (e g).1 = .string g.1) {l : List Rul} {st : Nat} {G2 : List Grp} : ∀ {G1 : List Grp}, (∀ g ∈ G1, keyB s g.1 = false) → alook (.string s) ((G1 ++ (s, l, st) :: G2).map e) = some (e (s, l, st)).2
  | [], _ => by
    show (bif keyIs (.string s) (e (s, l, st)).1 then _ else _) = _
    rw [he]
    show (bif s.toList == s.toList then _ else _) = _
    rw [beq_self_eq_true]; rfl
  | g :: G, h => by
    have h0 : (s.toList == g.1.toList) = false := h g (.head _)
    show (bif keyIs (.string s) (e g).1 then _ else alook (.string s) ((G ++ (s, l, st) :: G2).map e)) = _
    rw [he g]
    show (bif s.toList == g.1.toList then _ else _) = _
    rw [h0]
    exact alook_at he fun g' hg => h g' (.tail _ hg)
theorem aput_none {s : ByteArray} {v : AV} : ∀ {G : List Grp}, (∀ g ∈ G, keyB s g.1 = false) → aput (.string s) v (G.map gE) = G.map gE ++ [(.string s, v)]
  | [], _ => rfl
  | g :: G, h => by
    have h0 : (s.toList == g.1.toList) = false := h g (.head _)
    show (bif s.toList == g.1.toList then _ else gE g :: aput (.string s) v (G.map gE)) = _
    rw [h0, aput_none fun g' hg => h g' (.tail _ hg)]; rfl
theorem aput_at {s : ByteArray} {v : AV} {l : List Rul} {st : Nat} {G2 : List Grp} : ∀ {G1 : List Grp}, (∀ g ∈ G1, keyB s g.1 = false) → aput (.string s) v ((G1 ++ (s, l, st) :: G2).map gE) = G1.map gE ++ (.string s, v) :: G2.map gE
  | [], _ => by
    show (bif s.toList == s.toList then _ else _) = _
    rw [beq_self_eq_true]; rfl
  | g :: G, h => by
    have h0 : (s.toList == g.1.toList) = false := h g (.head _)
    show (bif s.toList == g.1.toList then _ else gE g :: aput (.string s) v ((G ++ (s, l, st) :: G2).map gE)) = _
    rw [h0, aput_at fun g' hg => h g' (.tail _ hg)]; rfl
theorem gget_none {s : ByteArray} : ∀ {G : List Grp}, (∀ g ∈ G, keyB s g.1 = false) → gget (strip G) s = []
  | [], _ => rfl
  | g :: G, h => by
    show (if keyB s g.1 = true then _ else gget (strip G) s) = _
    rw [if_neg (by rw [h g (.head _)]; decide)]
    exact gget_none fun g' hg => h g' (.tail _ hg)
theorem gget_at {s : ByteArray} {l : List Rul} {st : Nat} {G2 : List Grp} : ∀ {G1 : List Grp}, (∀ g ∈ G1, keyB s g.1 = false) → gget (strip (G1 ++ (s, l, st) :: G2)) s = l
  | [], _ => if_pos (keyB_eq.2 rfl)
  | g :: G, h => by
    show (if keyB s g.1 = true then _ else gget (strip (G ++ _)) s) = _
    rw [if_neg (by rw [h g (.head _)]; decide)]
    exact gget_at fun g' hg => h g' (.tail _ hg)
theorem gadd_none {s : ByteArray} {n : Rul} {st : Nat} : ∀ {G : List Grp}, (∀ g ∈ G, keyB s g.1 = false) → gadd (strip G) s n = strip (G ++ [(s, [n], st)])
  | [], _ => rfl
  | g :: G, h => by
    show (if keyB s g.1 = true then _ else _ :: gadd (strip G) s n) = _
    rw [if_neg (by rw [h g (.head _)]; decide), gadd_none (st := st) fun g' hg => h g' (.tail _ hg)]; rfl
theorem gadd_at {s : ByteArray} {n : Rul} {l : List Rul} {st st' : Nat} {G2 : List Grp} : ∀ {G1 : List Grp}, (∀ g ∈ G1, keyB s g.1 = false) → gadd (strip (G1 ++ (s, l, st) :: G2)) s n = strip (G1 ++ (s, l ++ [n], st') :: G2)
  | [], _ => if_pos (keyB_eq.2 rfl)
  | g :: G, h => by
    show (if keyB s g.1 = true then _ else _ :: gadd (strip (G ++ (s, l, st) :: G2)) s n) = _
    rw [if_neg (by rw [h g (.head _)]; decide), gadd_at (st' := st') fun g' hg => h g' (.tail _ hg)]; rfl
/-- A name has a group, or none. -/
theorem grp_cases (s : ByteArray) : ∀ (G : List Grp), (∀ g ∈ G, keyB s g.1 = false) ∨ ∃ G1 l st G2, G = G1 ++ (s, l, st) :: G2 ∧ ∀ g ∈ G1, keyB s g.1 = false
  | [] => .inl (by simp)
  | g :: G => by
    cases hk : keyB s g.1 with
    | true =>
      obtain ⟨t, l, st⟩ := g
      obtain rfl : s = t := keyB_eq.1 hk
      exact .inr ⟨[], l, st, G, rfl, by simp⟩
    | false =>
      rcases grp_cases s G with h | ⟨G1, l, st, G2, rfl, h⟩
      · exact .inl fun g' hg => by rcases List.mem_cons.1 hg with rfl | hg; exact hk; exact h g' hg
      · exact .inr ⟨g :: G1, l, st, G2, rfl, fun g' hg => by rcases List.mem_cons.1 hg with rfl | hg; exact hk; exact h g' hg⟩
theorem permGet_at {s : ByteArray} {l : List Rul} {st : Nat} {G2 : List Grp} : ∀ {G1 : List Grp}, ((G1 ++ (s, l, st) :: G2).map (·.2.2)).Nodup → permGet st ((G1 ++ (s, l, st) :: G2).map gP) = some (st, l.length * 4)
  | [], _ => by
    show (bif Nat.beq st st then _ else _) = _
    rw [Nat.beq_refl]; rfl
  | g :: G, h => by
    simp only [List.cons_append, List.map_cons, List.nodup_cons] at h
    have h0 : Nat.beq g.2.2 st = false := by
      cases hb : Nat.beq g.2.2 st with
      | false => rfl
      | true => exact absurd (by simp [Nat.eq_of_beq_eq_true hb]) h.1
    show (bif Nat.beq g.2.2 st then _ else permGet st ((G ++ (s, l, st) :: G2).map gP)) = _
    rw [h0]
    exact permGet_at h.2
theorem permErase_at {s : ByteArray} {l : List Rul} {st : Nat} {G2 : List Grp} : ∀ {G1 : List Grp}, ((G1 ++ (s, l, st) :: G2).map (·.2.2)).Nodup → permErase st ((G1 ++ (s, l, st) :: G2).map gP) = (G1 ++ G2).map gP
  | [], _ => by
    show (bif Nat.beq st st then _ else _) = _
    rw [Nat.beq_refl]; rfl
  | g :: G, h => by
    simp only [List.cons_append, List.map_cons, List.nodup_cons] at h
    have h0 : Nat.beq g.2.2 st = false := by
      cases hb : Nat.beq g.2.2 st with
      | false => rfl
      | true => exact absurd (by simp [Nat.eq_of_beq_eq_true hb]) h.1
    show (bif Nat.beq g.2.2 st then _ else gP g :: permErase st ((G ++ (s, l, st) :: G2).map gP)) = _
    rw [h0, permErase_at h.2]; rfl
theorem MpLe.appK16 : ∀ {a b c d : List (Value × AV)}, MpLe a b → MpLe c d → MpLe (a ++ c) (b ++ d)
  | [], [], _, _, _, h => h
  | _ :: _, _ :: _, _, _, h, k => ⟨h.1, h.2.1, MpLe.appK16 h.2.2 k⟩
  | [], _ :: _, _, _, h, _ => h.elim
  | _ :: _, [], _, _, h, _ => h.elim
theorem mp_none {s : ByteArray} {n : Rul} {st : Nat} {v : AV} {G : List Grp} (h : ∀ g ∈ G, keyB s g.1 = false) (hv : AVle v (.os 4 1 (rulF [n]) (some (st, st)))) : OwnLe (.mp (aput (.string s) v (G.map gE))) (.mp ((G ++ [(s, [n], st)]).map gE)) := by
  rw [aput_none h, List.map_append]
  exact MpLe.appK16 (MpLe.refl _) ⟨rfl, hv, trivial⟩
theorem mp_at {s : ByteArray} {l l' : List Rul} {st st' : Nat} {v : AV} {G1 G2 : List Grp} (h : ∀ g ∈ G1, keyB s g.1 = false) (hv : AVle v (.os 4 l'.length (rulF l') (some (st', st')))) : OwnLe (.mp (aput (.string s) v ((G1 ++ (s, l, st) :: G2).map gE))) (.mp ((G1 ++ (s, l', st') :: G2).map gE)) := by
  rw [aput_at h, List.map_append]
  exact MpLe.appK16 (MpLe.refl _) ⟨rfl, hv, MpLe.refl _⟩
theorem mp_frz : ∀ (G : List Grp), MpLe (G.map gE) (G.map gF)
  | [] => trivial
  | g :: G => ⟨rfl, AVle.os_sl, mp_frz G⟩
theorem aw_nodup {P : Program} {c : Code} {E : Env} {Q : AExit → Env → Prop} (h : (E.h.pm.map (·.1.2)).Nodup → AW P c E Q) : AW P c E Q := by
  have h2 := h
  unfold AW at h2 ⊢
  intro ro X M w0 a w g g0 hg hs
  refine h2 ?_ ro X M w0 a w g g0 hg hs
  have := hs.hok.nodup
  unfold Heap.ids at this
  rw [List.map_append] at this
  have h3 := (List.nodup_append.1 this).2.1
  have : ((E.h.pm.map (·.1.2)).map (fun i => g[i]?)).Nodup := h3
  exact (List.pairwise_map.1 this).imp fun h e => h (congrArg (fun i => g[i]?) e)
theorem ele_tellG {E : Env} {n : Nat} {bx : List (Vl.Id × Own)} {pm pm' : List (Vl.Id × Nat)} {nx nn : Nat} {L : List (Nat × AV)} (bx' : List (Vl.Id × Own)) (hn : E.n = n) (hx : E.h.nx = nx) (hb : bx'.Sublist E.h.bx) (hp : E.h.pm = pm') (hq : (pm.map (fun p => (p.1.2, p.2))).Perm (pm'.map (fun p => (p.1.2, p.2))))
    (eb : BxLe bx' bx) (hL : LeT E.t L) : ELe E (mk n L ⟨bx, pm, nx, nn⟩ E.df) := by
  subst hp
  refine ELe.trans (ele_tell (bx := bx) (pm := E.h.pm) (nn := nn) (L := L) bx' E.h.pm hn hx hb (List.Sublist.refl _) eb (PmEq.refl _) hL) ?_
  exact ele_like (E := mk n L ⟨bx, E.h.pm, nx, nn⟩ E.df) (h' := ⟨bx, pm, nx, nn⟩) ⟨.refl _, hq, rfl⟩
theorem le_catR {L : List Rul} {c : Rul} {f' : Nat → AV} {i j : Vl.Id} (hf : f' 0 = rulA c := by rfl) (h : i.2 = j.2 := by rfl) : AVle (.os 4 (L.length + 1) (appF L.length (rulF L) f') (some i)) (.os 4 (L ++ [c]).length (rulF (L ++ [c])) (some j)) := by
  rw [List.length_append]
  refine (AVle.os_fun (appF_one (fun k hk => ?_) ?_)).trans (AVle.os_nm h)
  · simp [rulF, List.getD, List.getElem?_append_left hk, hk]
  · rw [hf]; simp [rulF, List.getD]
end Go.Proofs.W

namespace Go.Proofs.W
open Go.Vl
set_option maxRecDepth 100000

def cutL (d : A2) (l : List Rul) : List Rul := (l.reverse.dropWhile fun r => decide (r.act = d)).reverse
def keysOf (H : List (ByteArray × List Rul)) : List (List UInt8) := sortBy Go.Sort.ltStr (H.map fun h => h.1.data.toList)
def outR (d : A2) (H : List (ByteArray × List Rul)) (N : List (List UInt8)) : List Rul := N.flatMap fun nm => cutL d (gget H ⟨nm.toArray⟩)
def normP (p : Pol) : Pol := ⟨p.dflt, p.x32, outR p.dflt (groupsOf p.rules) (keysOf (groupsOf p.rules))⟩
def pol0 : Pol := ⟨(0, 0), false, []⟩
def normA (p : Pol) : AV := if rightP p then .tup [polA (normP p), int 0] else .tup [polA pol0, int 13]
theorem cutL_snoc {d : A2} {l : List Rul} {r : Rul} : cutL d (l ++ [r]) = if r.act = d then cutL d l else l ++ [r] := by
  unfold cutL
  rw [List.reverse_append]
  show (List.dropWhile _ (r :: l.reverse)).reverse = _
  by_cases h : r.act = d
  · rw [List.dropWhile_cons, if_pos (by simpa using h), if_pos h]
  · rw [List.dropWhile_cons, if_neg (by simpa using h), if_neg h]; simp
theorem take_last {l : List Rul} {m : Nat} (h0 : 0 < m) (h : m ≤ l.length) : l.take m = l.take (m - 1) ++ [l.getD (m - 1) rul0] := by
  obtain ⟨k, rfl⟩ : ∃ k, m = k + 1 := ⟨m - 1, by omega⟩
  exact take_getD rul0 (by omega)
def zpolL : List AV := [int 0, int 0, boolA false, .os 0 0 (fun _ => .any) none]
def polC (p : Pol) : List AV := [int p.dflt.1, int p.dflt.2, boolA p.x32, ruls p.rules]
theorem rightP_conds {p : Pol} (h : rightP p = true) : p.rules.length ≤ 500 ∧ ∀ r ∈ p.rules, r.conds.length ≤ 6 := by
  unfold rightP at h
  simp only [Bool.and_eq_true, decide_eq_true_eq, Bool.not_eq_true', List.any_eq_false] at h
  refine ⟨h.2.1, fun r hr => ?_⟩
  have : rightR r = true := by have := h.2.2 r hr; simpa using this
  unfold rightR at this
  simp only [Bool.and_eq_true, decide_eq_true_eq] at this
  exact this.2.2.1
theorem normR_conds {r n : Rul} (h : normR r = some n) : n.conds.length ≤ r.conds.length ∧ n.name = r.name ∧ n.act = r.act := by
  unfold normR at h
  split at h
  · cases h
  · cases h
    exact ⟨Nat.le_trans (cU_le _ _) (asks_len _), rfl, rfl⟩
theorem gr_rul : growOk Tryz.prog 85 = true := by kernel_rfl
theorem gc_rul : Tryz.prog.cellsOf 85 = 4 := by kernel_rfl
theorem gb_rul : Tryz.prog.bytesOf 85 = 56 := by kernel_rfl
theorem perm_at {s : ByteArray} {l : List Rul} {n : Rul} {st st' nm : Nat} {G1 G2 : List Grp} (hnd : ((G1 ++ (s, l, st) :: G2).map (·.2.2)).Nodup) :
    (((G1 ++ (s, l ++ [n], st') :: G2).map gP).map (fun p => (p.1.2, p.2))).Perm ((((nm, st'), (l.length + 1) * Tryz.prog.cellsOf 85) :: permErase st ((G1 ++ (s, l, st) :: G2).map gP)).map (fun p => (p.1.2, p.2))) := by
  rw [permErase_at hnd, gc_rul, List.map_append, List.map_cons, List.map_append, List.map_append, List.map_cons, List.map_cons, List.map_append]
  refine List.perm_middle.trans (.of_eq ?_)
  simp [gP]
theorem one_rul (r : Rul) : (rulA r).cells.all isOne = true := rfl
theorem le_catL {R l : List Rul} {m : Nat} {i j : Vl.Id} (hm : m ≤ l.length) (h : i.2 = j.2) : AVle (.os 4 (R.length + m) (appF R.length (rulF R) (rulF l)) (some i)) (.os 4 (R ++ l.take m).length (rulF (R ++ l.take m)) (some j)) := by
  rw [List.length_append, List.length_take, Nat.min_eq_left hm]
  refine (AVle.os_fun (fun k hk => ?_)).trans (AVle.os_nm h)
  unfold appF
  by_cases hk2 : k < R.length
  · rw [show Nat.blt k R.length = true from Nat.ble_eq_true_of_le hk2]
    simp [rulF, List.getD, List.getElem?_append_left hk2]
  · rw [show Nat.blt k R.length = false from by cases hb : Nat.blt k R.length with | false => rfl | true => exact absurd (Nat.le_of_ble_eq_true hb) (by omega)]
    simp only [rulF, List.getD, cond_false]
    rw [List.getElem?_append_right (by omega), List.getElem?_take, if_pos (by omega)]
theorem app_eq {a b c d : List Rul} (h : a = b) (k : c = d) : a ++ c = b ++ d := by rw [h, k]
theorem splitV_eq {a b : AV} {K : AV → Prop} (h : a = b) (hk : splitV b K) : splitV a K := h ▸ hk
set_option maxHeartbeats 8000000 in
theorem policy16_spec (p : Pol) (hp : p.ok) : Tells Tryz.prog 37 [polA p] (normA p) := by
  have hr := pright_spec p hp
  cases hb : rightP p with
  | false =>
    rw [hb] at hr
    unfold normA
    rw [hb, if_neg (by decide)]
    refine tells_of_aw Tryz.func37 rfl rfl fun nx => ?_
    (repeat((conv=>whnf);first|apply ω0|apply ω1|apply ω2|refine τ3 rfl ?_|refine τ4 rfl ?_|refine ⟨rfl,?_⟩|apply τa|refine τb rfl ?_|refine ⟨⟨by kernel_rfl,by kernel_rfl⟩,?_⟩|refine ⟨by decide,?_⟩|apply τt|apply τf))
    refine aop_tells rfl rfl hr ⟨AVle.refl _, trivial⟩ fun nx2 => ?_
    (repeat((conv=>whnf);first|apply ω0|apply ω1|apply ω2|refine τ3 rfl ?_|refine τ4 rfl ?_|refine ⟨rfl,?_⟩|apply τa|refine τb rfl ?_|refine ⟨⟨by kernel_rfl,by kernel_rfl⟩,?_⟩|refine ⟨by decide,?_⟩|apply τt|apply τf))
    exact ret_tells_all rfl ⟨rfl, trivial⟩ (AVle.tups (cs := [_, _]) ⟨AVle.ags (cs := [_, _, _, _]) ⟨AVle.refl _, AVle.refl _, AVle.refl _, AVle.os_sl0, trivial⟩, AVle.refl _, trivial⟩)
  | true =>
    rw [hb] at hr
    obtain ⟨hl, hc6⟩ := rightP_conds hb
    unfold normA
    rw [hb, if_pos rfl]
    refine tells_of_aw Tryz.func37 rfl rfl fun nx => ?_
    (repeat((conv=>whnf);first|apply ω0|apply ω1|apply ω2|refine τ3 rfl ?_|refine τ4 rfl ?_|refine ⟨rfl,?_⟩|apply τa|refine τb rfl ?_|refine ⟨⟨by kernel_rfl,by kernel_rfl⟩,?_⟩|refine ⟨by decide,?_⟩|apply τt|apply τf))
    refine aop_tells rfl rfl hr ⟨AVle.refl _, trivial⟩ fun nx2 => ?_
    (repeat((conv=>whnf);first|apply ω0|apply ω1|apply ω2|refine τ3 rfl ?_|refine τ4 rfl ?_|refine ⟨rfl,?_⟩|apply τa|refine τb rfl ?_|refine ⟨⟨by kernel_rfl,by kernel_rfl⟩,?_⟩|refine ⟨by decide,?_⟩|apply τt|apply τf))
    refine aw_loop (fun y : Nat × List Grp × Nat => mk 94 [(1, .bp (0, nx) 0), (2, .bp (1, nx + 1) 0), (4, .om (2, nx2)), (19, ruls p.rules), (20, int p.rules.length), (21, int y.1)] ⟨[((2, nx2), .mp (y.2.1.map gE)), ((1, nx + 1), .c zpolL), ((0, nx), .c (polC p))], y.2.1.map gP, y.2.2, 3⟩)
      (fun y => y.1 ≤ p.rules.length ∧ strip y.2.1 = groupsOf (p.rules.take y.1) ∧ y.2.1.length ≤ y.1 ∧ ∀ g ∈ y.2.1, g.2.1.length ≤ y.1 ∧ ∀ r ∈ g.2.1, r.conds.length ≤ 6) (fun y => p.rules.length - y.1) ?_ ?_
    · exact ⟨(0, [], nx2 + 1), ⟨Nat.zero_le _, rfl, Nat.le_refl _, by simp⟩, ele_tell _ _ rfl rfl (List.Sublist.refl _) (List.Sublist.refl _) (BxLe.refl _) trivial ⟨AVle.refl _, AVle.refl _, AVle.refl _, AVle.refl _, AVle.refl _, AVle.refl _, trivial⟩⟩
    · rintro ⟨i, G, nx3⟩ ⟨h1, h2, h3, h4⟩
      dsimp only at h1 h2 h3 h4
      (repeat((conv=>whnf);first|apply ω0|apply ω1|apply ω2|refine τ3 rfl ?_|refine τ4 rfl ?_|refine ⟨rfl,?_⟩|apply τa|refine τb rfl ?_|refine ⟨⟨by kernel_rfl,by kernel_rfl⟩,?_⟩|refine ⟨by decide,?_⟩|apply τt|apply τf))
      intro c g; cases c
      · have g := not_of g
        try dsimp only at g
        have hi : i = p.rules.length := by omega
        subst hi
        rw [List.take_length] at h2
        (repeat((conv=>whnf);first|apply ω0|apply ω2|refine τ3 rfl ?_|refine τ4 rfl ?_|refine ⟨rfl,?_⟩|apply τa|refine τb rfl ?_|refine ⟨⟨by kernel_rfl,by kernel_rfl⟩,?_⟩|refine ⟨by decide,?_⟩|apply τt|apply τf))
        refine AW.le (E' := mk 94 [(1, .bp (0, nx) 0), (2, .bp (1, nx + 1) 0), (4, .om (2, nx2))] ⟨[((2, nx2), .mp (G.map gF)), ((1, nx + 1), .c zpolL), ((0, nx), .c (polC p))], [], nx3, 3⟩) (ele_tell _ [] rfl rfl (List.Sublist.refl _) (List.nil_sublist _) ⟨rfl, mp_frz G, BxLe.refl _⟩ trivial ⟨AVle.refl _, AVle.refl _, AVle.refl _, trivial⟩) ?_
        refine aw_freeze (n := 94) (nx := nx3) (nn := 3) (pm := []) (bx := [((1, nx + 1), .c zpolL), ((0, nx), .c (polC p))]) (L := [(1, .bp (0, nx) 0), (2, .bp (1, nx + 1) 0), (4, .fm (G.map gF))]) (df := some []) [((2, nx2), .mp (G.map gF))] rfl rfl rfl (.refl _) (List.Sublist.refl _) ⟨Frz.refl _, Frz.refl _, Frz.om (.head _), trivial⟩ ?_
        have hzs : (G.map gF).map (·.1) = (G.map fun g : Grp => g.1.data.toList).map encStr := by
          rw [List.map_map, List.map_map]; rfl
        have hsort := sorted_strK16 (G.map gF) (G.map fun g : Grp => g.1.data.toList) hzs (by rw [List.length_map]; omega)
        have hkeys : keysOf (groupsOf p.rules) = sortBy Go.Sort.ltStr (G.map fun g : Grp => g.1.data.toList) := by
          rw [← h2]; unfold keysOf strip; rw [List.map_map]; rfl
        have hNl : (sortBy Go.Sort.ltStr (G.map fun g : Grp => g.1.data.toList)).length ≤ 500 := by rw [sortBy_length, List.length_map]; omega
        have hNm : ∀ z, z ∈ sortBy Go.Sort.ltStr (G.map fun g : Grp => g.1.data.toList) → ∃ g ∈ G, g.1.data.toList = z := fun z hz => by
          rw [sortBy_mem] at hz
          obtain ⟨g, hg, h⟩ := List.mem_map.1 hz
          exact ⟨g, hg, h⟩
        unfold normP
        rw [hkeys, ← h2]
        generalize sortBy Go.Sort.ltStr (G.map fun g : Grp => g.1.data.toList) = N at hsort hNl hNm ⊢
        (repeat((conv=>whnf);first|apply ω0|apply ω1|apply ω2|refine τ3 rfl ?_|refine τ4 rfl ?_|refine ⟨rfl,?_⟩|apply τa|refine τb rfl ?_|refine ⟨⟨by kernel_rfl,by kernel_rfl⟩,?_⟩|refine ⟨by decide,?_⟩|apply τt|apply τf))
        intro c hc
        subst hc
        (repeat((conv=>whnf);first|apply ω0|apply ω1|apply ω2|refine τ3 rfl ?_|refine τ4 rfl ?_|refine ⟨rfl,?_⟩|apply τa|refine τb rfl ?_|refine ⟨⟨by kernel_rfl,by kernel_rfl⟩,?_⟩|refine ⟨by decide,?_⟩|apply τt|apply τf))
        refine aop_tells rfl rfl (mapsKeys_strK16 (G.map gF)) ⟨AVle.refl _, trivial⟩ fun nx4 => ?_
        (repeat((conv=>whnf);first|apply ω0|apply ω1|apply ω2|refine τ3 rfl ?_|refine τ4 rfl ?_|refine ⟨rfl,?_⟩|apply τa|refine τb rfl ?_|refine ⟨⟨by kernel_rfl,by kernel_rfl⟩,?_⟩|refine ⟨by decide,?_⟩|apply τt|apply τf))
        refine aop_tells rfl rfl hsort ⟨AVle.refl _, trivial⟩ fun nx5 => ?_
        (repeat((conv=>whnf);first|apply ω0|apply ω1|apply ω2|refine τ3 rfl ?_|refine τ4 rfl ?_|refine ⟨rfl,?_⟩|apply τa|refine τb rfl ?_|refine ⟨⟨by kernel_rfl,by kernel_rfl⟩,?_⟩|refine ⟨by decide,?_⟩|apply τt|apply τf))
        refine aw_loop (fun y : Nat × List Rul × Option Nat × Nat => mk 94 [(1, .bp (0, nx) 0), (2, .bp (1, nx + 1) 0), (4, .fm (G.map gF)), (9, .bp (3, nx3) 0), (58, slOf 1 eA_strK16 [] N), (59, int N.length), (60, int y.1)] ⟨[((3, nx3), .c [int p.dflt.1, int p.dflt.2, boolA p.x32, .os 4 y.2.1.length (rulF y.2.1) (nmd y.2.2.1)]), ((1, nx + 1), .c zpolL), ((0, nx), .c (polC p))], pmOf (nmd y.2.2.1) (y.2.1.length * 4), y.2.2.2, 4⟩)
          (fun y => y.1 ≤ N.length ∧ (y.2.2.1 = none → y.2.1 = []) ∧ y.2.1 = outR p.dflt (strip G) (N.take y.1) ∧ y.2.1.length ≤ y.1 * 500) (fun y => N.length - y.1) ?_ ?_
        · exact ⟨(0, [], none, nx5), ⟨Nat.zero_le _, fun _ => rfl, rfl, Nat.zero_le _⟩, ele_tell (pm := []) (bx := [((3, nx3), .c [int p.dflt.1, int p.dflt.2, boolA p.x32, .os 4 0 (rulF []) none]), ((1, nx + 1), .c zpolL), ((0, nx), .c (polC p))]) _ _ rfl rfl (List.Sublist.refl _) (List.Sublist.refl _) ⟨rfl, ⟨AVle.refl _, AVle.refl _, AVle.refl _, AVle.os_nil, trivial⟩, BxLe.refl _⟩ trivial ⟨AVle.refl _, AVle.refl _, AVle.refl _, AVle.refl _, AVle.refl _, AVle.refl _, AVle.refl _, trivial⟩⟩
        · rintro ⟨j, R, oi, nx6⟩ ⟨k1, k2, k3, k4⟩
          dsimp only at k1 k2 k3 k4
          (repeat((conv=>whnf);first|apply ω0|apply ω1|apply ω2|refine τ3 rfl ?_|refine τ4 rfl ?_|refine ⟨rfl,?_⟩|apply τa|refine τb rfl ?_|refine ⟨⟨by kernel_rfl,by kernel_rfl⟩,?_⟩|refine ⟨by decide,?_⟩|apply τt|apply τf))
          intro c gg; cases c
          · have gg := not_of gg
            try dsimp only at gg
            have hj : j = N.length := by omega
            subst hj
            rw [List.take_length] at k3
            rw [← k3]
            (repeat((conv=>whnf);first|apply ω0|apply ω1|apply ω2|refine τ3 rfl ?_|refine τ4 rfl ?_|refine ⟨rfl,?_⟩|apply τa|refine τb rfl ?_|refine ⟨⟨by kernel_rfl,by kernel_rfl⟩,?_⟩|refine ⟨by decide,?_⟩|apply τt|apply τf))
            exact ret_tells_all rfl ⟨rfl, trivial⟩ (AVle.tups (cs := [_, _]) ⟨AVle.ags (cs := [_, _, _, _]) ⟨AVle.refl _, AVle.refl _, AVle.refl _, AVle.os_sl, trivial⟩, AVle.refl _, trivial⟩)
          · have gg := yes_of gg
            try dsimp only at gg
            have hj : j < N.length := by omega
            have hNj : N.getD j [] ∈ N := by simp [List.getD, hj]
            rcases grp_cases ⟨(N.getD j []).toArray⟩ G with hno | ⟨G1, l, st, G2, hG, hno⟩
            · exfalso
              obtain ⟨g, hg, hge⟩ := hNm _ hNj
              have := hno g hg
              rw [Bool.eq_false_iff] at this
              exact this (keyB_eq.2 (by rw [← hge]))
            have hlk := alook_at (e := gF) (fun _ => rfl) (l := l) (st := st) (G2 := G2) hno
            have hgl := (h4 (⟨(N.getD j []).toArray⟩, l, st) (by rw [hG]; simp)).1
            dsimp only at hgl
            have hgg : gget (strip G) ⟨(N.getD j []).toArray⟩ = l := by rw [hG]; exact gget_at hno
            have hout : outR p.dflt (strip G) (N.take (j + 1)) = outR p.dflt (strip G) (N.take j) ++ cutL p.dflt l := by
              unfold outR
              rw [take_getD [] hj, List.flatMap_append]
              simp only [List.flatMap_cons, List.flatMap_nil, List.append_nil]
              rw [hgg]
            rw [← hG] at hlk
            (repeat((conv=>whnf);first|apply ω0|apply ω1|apply ω2|refine τ3 rfl ?_|refine τ4 rfl ?_|refine ⟨rfl,?_⟩|apply τa|refine τb rfl ?_|refine ⟨⟨by kernel_rfl,by kernel_rfl⟩,?_⟩|refine ⟨by decide,?_⟩|apply τt|apply τf))
            refine ⟨⟨by first | omega | (dsimp only; omega), by first | omega | (dsimp only; omega)⟩, ?_⟩
            (repeat((conv=>whnf);first|apply ω0|apply ω1|apply ω2|refine τ3 rfl ?_|refine τ4 rfl ?_|refine ⟨rfl,?_⟩|apply τa|refine τb rfl ?_|refine ⟨by decide,?_⟩|apply τt|apply τf))
            refine ⟨gF_fit G, splitO_eq (b := ruls l) (congrArg (fun o : Option AV => o.getD (.os 0 0 (fun _ => .any) none)) hlk) ?_⟩
            (repeat((conv=>whnf);first|apply ω0|apply ω1|apply ω2|refine τ3 rfl ?_|refine τ4 rfl ?_|refine ⟨rfl,?_⟩|apply τa|refine τb rfl ?_|refine ⟨by decide,?_⟩|apply τt|apply τf))
            refine aw_loop (fun y : Nat × Nat => mk 94 [(1, .bp (0, nx) 0), (2, .bp (1, nx + 1) 0), (4, .fm (G.map gF)), (9, .bp (3, nx3) 0), (58, slOf 1 eA_strK16 [] N), (59, int N.length), (60, int j), (12, .sl 4 y.1 (rulF l))] ⟨[((3, nx3), .c [int p.dflt.1, int p.dflt.2, boolA p.x32, .os 4 R.length (rulF R) (nmd oi)]), ((1, nx + 1), .c zpolL), ((0, nx), .c (polC p))], pmOf (nmd oi) (R.length * 4), nx6, 4⟩)
              (fun y => y.1 ≤ l.length ∧ cutL p.dflt l = cutL p.dflt (l.take y.1)) (fun y => y.1) ?_ ?_
            · exact ⟨(l.length, 0), ⟨Nat.le_refl _, by rw [List.take_length]⟩, ele_tell _ _ rfl rfl (List.Sublist.refl _) (List.Sublist.refl _) (BxLe.refl _) (PmEq.refl _) ⟨AVle.refl _, AVle.refl _, AVle.refl _, AVle.refl _, AVle.refl _, AVle.refl _, AVle.refl _, AVle.refl _, trivial⟩⟩
            · rintro ⟨m, zz⟩ ⟨hml, hcut⟩
              dsimp only at hml hcut
              have hlm : (l.take m).length = m := by rw [List.length_take]; omega
              by_cases hm0 : 0 < m
              · have hd : decide ((m : Int) > 0) = true := decide_eq_true (by omega)
                have hm1 : IntKind.i64.wrap ((m : Int) - 1) = ((m - 1 : Nat) : Int) := by rw [wrap_id (by omega) (by omega)]; omega
                rw [take_last hm0 hml, cutL_snoc] at hcut
                (repeat((conv=>whnf);first|apply ω0|apply ω1|apply ω2|refine τ3 rfl ?_|refine τ4 rfl ?_|refine ⟨rfl,?_⟩|apply τa|refine τb rfl ?_|refine ⟨⟨by kernel_rfl,by kernel_rfl⟩,?_⟩|refine ⟨by decide,?_⟩|apply τt|apply τf))
                (refine aw_draw 15 ?_ ?_ ?_ ?_; (· kernel_rfl); (· kernel_rfl); (· kernel_rfl))
                (repeat((conv=>whnf);first|apply ω0|apply ω1|apply ω2|refine τ3 rfl ?_|refine τ4 rfl ?_|refine ⟨rfl,?_⟩|apply τa|refine τb rfl ?_|refine ⟨⟨by kernel_rfl,by kernel_rfl⟩,?_⟩|refine ⟨by decide,?_⟩|apply τt|apply τf))
                (conv => whnf)
                refine lit_eq hd ?_
                (repeat((conv=>whnf);first|apply ω0|apply ω1|apply ω2|refine τ3 rfl ?_|refine τ4 rfl ?_|refine ⟨rfl,?_⟩|apply τa|refine τb rfl ?_|refine ⟨⟨by kernel_rfl,by kernel_rfl⟩,?_⟩|refine ⟨by decide,?_⟩|apply τt|apply τf))
                refine ⟨⟨ixge (i := m - 1) hm1, ixlt (i := m - 1) hm1 (by omega)⟩, splitO_eq (b := .rp (rulA (l.getD (m - 1) rul0)).cells) (congrArg (fun z : Int => AV.rp (rulF l z.toNat).cells) hm1) ?_⟩
                (repeat((conv=>whnf);first|apply ω0|apply ω1|apply ω2|refine τ3 rfl ?_|refine τ4 rfl ?_|refine ⟨rfl,?_⟩|apply τa|refine τb rfl ?_|refine ⟨⟨by kernel_rfl,by kernel_rfl⟩,?_⟩|refine ⟨by decide,?_⟩|apply τt|apply τf))
                intro c hc
                have hc2 : c = decide ((l.getD (m - 1) rul0).act = p.dflt) := hc.trans act_eqb
                clear hc
                cases c
                · have hne : ¬ (l.getD (m - 1) rul0).act = p.dflt := of_decide_eq_false hc2.symm
                  rw [if_neg hne, ← take_last hm0 hml] at hcut
                  have hct := hcut
                  clear hc2
                  (repeat((conv=>whnf);first|apply ω0|apply ω2|refine τ3 rfl ?_|refine τ4 rfl ?_|refine ⟨rfl,?_⟩|apply τa|refine τb rfl ?_|refine ⟨⟨by kernel_rfl,by kernel_rfl⟩,?_⟩|refine ⟨by decide,?_⟩|apply τt|apply τf))
                  refine aw_regionY (fun i => match i with | 0 => true | _ => false) 4 ?_
                  (repeat((conv=>whnf);first|apply ω0|apply ω1|apply ω2|refine τ3 rfl ?_|refine τ4 rfl ?_|refine ⟨rfl,?_⟩|apply τa|refine τb rfl ?_|refine ⟨⟨by kernel_rfl,by kernel_rfl⟩,?_⟩|refine ⟨by decide,?_⟩|apply τt|apply τf))
                  rcases oi with _ | o1
                  · obtain rfl := k2 rfl
                    refine AOp.any (aop_append (e := 85) (n := 0) (oi := none) (sz := 4) (f := rulF []) (m := m) (szx := 4) (f' := rulF l) rfl rfl (.inl rfl) Tryz.underlying33 gr_rul (.inl ⟨rfl, rfl⟩) (.inr gc_rul.symm) (fun i h => by cases h) (fun k _ => one_rul _) (fun _ => by rw [gb_rul]; omega) (fun _ => by omega) (fun hm => ?_) (fun hm => ?_))
                    · subst hm
                      (repeat((conv=>whnf);first|apply ω0|apply ω1|apply ω2|refine τ3 rfl ?_|refine τ4 rfl ?_|refine ⟨rfl,?_⟩|apply τa|refine τb rfl ?_|refine ⟨⟨by kernel_rfl,by kernel_rfl⟩,?_⟩|refine ⟨by decide,?_⟩|apply τt|apply τf))
                      exact back (j + 1, [], none, nx6) ⟨hj, fun _ => rfl, by rw [hout]; exact (List.append_nil _).symm.trans (app_eq k3 hct.symm), by dsimp only; omega⟩ (by dsimp only; omega) (ele_tell _ _ rfl rfl (List.Sublist.refl _) (List.Sublist.refl _) (BxLe.refl _) trivial ⟨AVle.refl _, AVle.refl _, AVle.refl _, AVle.refl _, AVle.refl _, AVle.refl _, le_int (wrap_succ (by first | omega | (dsimp only; omega))), trivial⟩)
                    · (repeat((conv=>whnf);first|apply ω0|apply ω1|apply ω2|refine τ3 rfl ?_|refine τ4 rfl ?_|refine ⟨rfl,?_⟩|apply τa|refine τb rfl ?_|refine ⟨⟨by kernel_rfl,by kernel_rfl⟩,?_⟩|refine ⟨by decide,?_⟩|apply τt|apply τf))
                      exact back (j + 1, l.take m, some nx6, nx6 + 1) ⟨hj, (fun h => by cases h), by rw [hout]; exact app_eq k3 hct.symm, by dsimp only; rw [hlm]; omega⟩ (by dsimp only; omega) (ele_tell (pm := [((0, nx6), (l.take m).length * 4)]) (bx := [((3, nx3), .c [int p.dflt.1, int p.dflt.2, boolA p.x32, .os 4 (l.take m).length (rulF (l.take m)) (some (0, nx6))]), ((1, nx + 1), .c zpolL), ((0, nx), .c (polC p))]) _ _ rfl rfl (List.Sublist.refl _) (List.Sublist.refl _) ⟨rfl, ⟨AVle.refl _, AVle.refl _, AVle.refl _, le_catL (R := []) hml rfl, trivial⟩, BxLe.refl _⟩ ⟨rfl, show (0 + m) * Tryz.prog.cellsOf 85 = (l.take m).length * 4 by rw [hlm, gc_rul, Nat.zero_add], trivial⟩ ⟨AVle.refl _, AVle.refl _, AVle.refl _, AVle.refl _, AVle.refl _, AVle.refl _, le_int (wrap_succ (by first | omega | (dsimp only; omega))), trivial⟩)
                  · refine AOp.any (aop_append (e := 85) (n := R.length) (oi := some (0, o1)) (sz := 4) (f := rulF R) (m := m) (szx := 4) (f' := rulF l) rfl rfl (.inl rfl) Tryz.underlying33 gr_rul (.inr gc_rul.symm) (.inr gc_rul.symm) (fun i h => by cases h; rw [gc_rul]; rfl) (fun k _ => one_rul _) (fun _ => by rw [gb_rul]; omega) (fun _ => by omega) (fun hm => ?_) (fun hm => ?_))
                    · subst hm
                      (repeat((conv=>whnf);first|apply ω0|apply ω1|apply ω2|refine τ3 rfl ?_|refine τ4 rfl ?_|refine ⟨rfl,?_⟩|apply τa|refine τb rfl ?_|refine ⟨⟨by kernel_rfl,by kernel_rfl⟩,?_⟩|refine ⟨by decide,?_⟩|apply τt|apply τf))
                      exact back (j + 1, R, some o1, nx6) ⟨hj, (fun h => by cases h), by rw [hout]; exact (List.append_nil _).symm.trans (app_eq k3 hct.symm), by dsimp only; omega⟩ (by dsimp only; omega) (ele_tell _ _ rfl rfl (List.Sublist.refl _) (List.Sublist.refl _) (BxLe.refl _) (PmEq.refl _) ⟨AVle.refl _, AVle.refl _, AVle.refl _, AVle.refl _, AVle.refl _, AVle.refl _, le_int (wrap_succ (by first | omega | (dsimp only; omega))), trivial⟩)
                    · (repeat((conv=>whnf);first|apply ω0|apply ω1|apply ω2|refine τ3 rfl ?_|refine τ4 rfl ?_|refine ⟨rfl,?_⟩|apply τa|refine τb rfl ?_|refine ⟨⟨by kernel_rfl,by kernel_rfl⟩,?_⟩|refine ⟨by decide,?_⟩|apply τt|apply τf))
                      exact back (j + 1, R ++ l.take m, some nx6, nx6 + 1) ⟨hj, (fun h => by cases h), by rw [hout]; exact app_eq k3 hct.symm, by dsimp only; rw [List.length_append, hlm]; omega⟩ (by dsimp only; omega) (ele_tell (pm := [((0, nx6), (R ++ l.take m).length * 4)]) (bx := [((3, nx3), .c [int p.dflt.1, int p.dflt.2, boolA p.x32, .os 4 (R ++ l.take m).length (rulF (R ++ l.take m)) (some (0, nx6))]), ((1, nx + 1), .c zpolL), ((0, nx), .c (polC p))]) _ _ rfl rfl (List.Sublist.refl _) (List.Sublist.refl _) ⟨rfl, ⟨AVle.refl _, AVle.refl _, AVle.refl _, le_catL hml rfl, trivial⟩, BxLe.refl _⟩ ⟨rfl, by rw [List.length_append, hlm, gc_rul], trivial⟩ ⟨AVle.refl _, AVle.refl _, AVle.refl _, AVle.refl _, AVle.refl _, AVle.refl _, le_int (wrap_succ (by first | omega | (dsimp only; omega))), trivial⟩)
                · have heq : (l.getD (m - 1) rul0).act = p.dflt := of_decide_eq_true hc2.symm
                  rw [if_pos heq] at hcut
                  clear hc2
                  (repeat((conv=>whnf);first|apply ω0|apply ω1|apply ω2|refine τ3 rfl ?_|refine τ4 rfl ?_|refine ⟨rfl,?_⟩|apply τa|refine τb rfl ?_|refine ⟨⟨by kernel_rfl,by kernel_rfl⟩,?_⟩|refine ⟨by decide,?_⟩|apply τt|apply τf))
                  refine ⟨⟨ixge (i := m - 1) hm1, Int.le_of_lt (ixlt (i := m - 1) hm1 (by omega))⟩, ?_⟩
                  (repeat((conv=>whnf);first|apply ω0|apply ω1|apply ω2|refine τ3 rfl ?_|refine τ4 rfl ?_|refine ⟨rfl,?_⟩|apply τa|refine τb rfl ?_|refine ⟨⟨by kernel_rfl,by kernel_rfl⟩,?_⟩|refine ⟨by decide,?_⟩|apply τt|apply τf))
                  exact back (m - 1, 0) ⟨by dsimp only; omega, hcut⟩ (by dsimp only; omega) (ele_tell _ _ rfl rfl (List.Sublist.refl _) (List.Sublist.refl _) (BxLe.refl _) (PmEq.refl _) ⟨AVle.refl _, AVle.refl _, AVle.refl _, AVle.refl _, AVle.refl _, AVle.refl _, AVle.refl _, AVle.of_eq (congrArg (fun z : Int => AV.sl 4 z.toNat (rulF l)) hm1), trivial⟩)
              · have hd : decide ((m : Int) > 0) = false := decide_eq_false (by omega)
                have hm00 : m = 0 := by omega
                have hct : cutL p.dflt l = l.take m := by rw [hcut, hm00]; rfl
                (repeat((conv=>whnf);first|apply ω0|apply ω1|apply ω2|refine τ3 rfl ?_|refine τ4 rfl ?_|refine ⟨rfl,?_⟩|apply τa|refine τb rfl ?_|refine ⟨⟨by kernel_rfl,by kernel_rfl⟩,?_⟩|refine ⟨by decide,?_⟩|apply τt|apply τf))
                (refine aw_draw 15 ?_ ?_ ?_ ?_; (· kernel_rfl); (· kernel_rfl); (· kernel_rfl))
                (repeat((conv=>whnf);first|apply ω0|apply ω1|apply ω2|refine τ3 rfl ?_|refine τ4 rfl ?_|refine ⟨rfl,?_⟩|apply τa|refine τb rfl ?_|refine ⟨⟨by kernel_rfl,by kernel_rfl⟩,?_⟩|refine ⟨by decide,?_⟩|apply τt|apply τf))
                (conv => whnf)
                refine lit_eq hd ?_
                (repeat((conv=>whnf);first|apply ω0|apply ω2|refine τ3 rfl ?_|refine τ4 rfl ?_|refine ⟨rfl,?_⟩|apply τa|refine τb rfl ?_|refine ⟨⟨by kernel_rfl,by kernel_rfl⟩,?_⟩|refine ⟨by decide,?_⟩|apply τt|apply τf))
                refine aw_regionY (fun i => match i with | 0 => true | _ => false) 4 ?_
                (repeat((conv=>whnf);first|apply ω0|apply ω1|apply ω2|refine τ3 rfl ?_|refine τ4 rfl ?_|refine ⟨rfl,?_⟩|apply τa|refine τb rfl ?_|refine ⟨⟨by kernel_rfl,by kernel_rfl⟩,?_⟩|refine ⟨by decide,?_⟩|apply τt|apply τf))
                rcases oi with _ | o1
                · obtain rfl := k2 rfl
                  refine AOp.any (aop_append (e := 85) (n := 0) (oi := none) (sz := 4) (f := rulF []) (m := m) (szx := 4) (f' := rulF l) rfl rfl (.inl rfl) Tryz.underlying33 gr_rul (.inl ⟨rfl, rfl⟩) (.inr gc_rul.symm) (fun i h => by cases h) (fun k _ => one_rul _) (fun _ => by rw [gb_rul]; omega) (fun _ => by omega) (fun hm => ?_) (fun hm => ?_))
                  · subst hm
                    (repeat((conv=>whnf);first|apply ω0|apply ω1|apply ω2|refine τ3 rfl ?_|refine τ4 rfl ?_|refine ⟨rfl,?_⟩|apply τa|refine τb rfl ?_|refine ⟨⟨by kernel_rfl,by kernel_rfl⟩,?_⟩|refine ⟨by decide,?_⟩|apply τt|apply τf))
                    exact back (j + 1, [], none, nx6) ⟨hj, fun _ => rfl, by rw [hout]; exact (List.append_nil _).symm.trans (app_eq k3 hct.symm), by dsimp only; omega⟩ (by dsimp only; omega) (ele_tell _ _ rfl rfl (List.Sublist.refl _) (List.Sublist.refl _) (BxLe.refl _) trivial ⟨AVle.refl _, AVle.refl _, AVle.refl _, AVle.refl _, AVle.refl _, AVle.refl _, le_int (wrap_succ (by first | omega | (dsimp only; omega))), trivial⟩)
                  · (repeat((conv=>whnf);first|apply ω0|apply ω1|apply ω2|refine τ3 rfl ?_|refine τ4 rfl ?_|refine ⟨rfl,?_⟩|apply τa|refine τb rfl ?_|refine ⟨⟨by kernel_rfl,by kernel_rfl⟩,?_⟩|refine ⟨by decide,?_⟩|apply τt|apply τf))
                    exact back (j + 1, l.take m, some nx6, nx6 + 1) ⟨hj, (fun h => by cases h), by rw [hout]; exact app_eq k3 hct.symm, by dsimp only; rw [hlm]; omega⟩ (by dsimp only; omega) (ele_tell (pm := [((0, nx6), (l.take m).length * 4)]) (bx := [((3, nx3), .c [int p.dflt.1, int p.dflt.2, boolA p.x32, .os 4 (l.take m).length (rulF (l.take m)) (some (0, nx6))]), ((1, nx + 1), .c zpolL), ((0, nx), .c (polC p))]) _ _ rfl rfl (List.Sublist.refl _) (List.Sublist.refl _) ⟨rfl, ⟨AVle.refl _, AVle.refl _, AVle.refl _, le_catL (R := []) hml rfl, trivial⟩, BxLe.refl _⟩ ⟨rfl, show (0 + m) * Tryz.prog.cellsOf 85 = (l.take m).length * 4 by rw [hlm, gc_rul, Nat.zero_add], trivial⟩ ⟨AVle.refl _, AVle.refl _, AVle.refl _, AVle.refl _, AVle.refl _, AVle.refl _, le_int (wrap_succ (by first | omega | (dsimp only; omega))), trivial⟩)
                · refine AOp.any (aop_append (e := 85) (n := R.length) (oi := some (0, o1)) (sz := 4) (f := rulF R) (m := m) (szx := 4) (f' := rulF l) rfl rfl (.inl rfl) Tryz.underlying33 gr_rul (.inr gc_rul.symm) (.inr gc_rul.symm) (fun i h => by cases h; rw [gc_rul]; rfl) (fun k _ => one_rul _) (fun _ => by rw [gb_rul]; omega) (fun _ => by omega) (fun hm => ?_) (fun hm => ?_))
                  · subst hm
                    (repeat((conv=>whnf);first|apply ω0|apply ω1|apply ω2|refine τ3 rfl ?_|refine τ4 rfl ?_|refine ⟨rfl,?_⟩|apply τa|refine τb rfl ?_|refine ⟨⟨by kernel_rfl,by kernel_rfl⟩,?_⟩|refine ⟨by decide,?_⟩|apply τt|apply τf))
                    exact back (j + 1, R, some o1, nx6) ⟨hj, (fun h => by cases h), by rw [hout]; exact (List.append_nil _).symm.trans (app_eq k3 hct.symm), by dsimp only; omega⟩ (by dsimp only; omega) (ele_tell _ _ rfl rfl (List.Sublist.refl _) (List.Sublist.refl _) (BxLe.refl _) (PmEq.refl _) ⟨AVle.refl _, AVle.refl _, AVle.refl _, AVle.refl _, AVle.refl _, AVle.refl _, le_int (wrap_succ (by first | omega | (dsimp only; omega))), trivial⟩)
                  · (repeat((conv=>whnf);first|apply ω0|apply ω1|apply ω2|refine τ3 rfl ?_|refine τ4 rfl ?_|refine ⟨rfl,?_⟩|apply τa|refine τb rfl ?_|refine ⟨⟨by kernel_rfl,by kernel_rfl⟩,?_⟩|refine ⟨by decide,?_⟩|apply τt|apply τf))
                    exact back (j + 1, R ++ l.take m, some nx6, nx6 + 1) ⟨hj, (fun h => by cases h), by rw [hout]; exact app_eq k3 hct.symm, by dsimp only; rw [List.length_append, hlm]; omega⟩ (by dsimp only; omega) (ele_tell (pm := [((0, nx6), (R ++ l.take m).length * 4)]) (bx := [((3, nx3), .c [int p.dflt.1, int p.dflt.2, boolA p.x32, .os 4 (R ++ l.take m).length (rulF (R ++ l.take m)) (some (0, nx6))]), ((1, nx + 1), .c zpolL), ((0, nx), .c (polC p))]) _ _ rfl rfl (List.Sublist.refl _) (List.Sublist.refl _) ⟨rfl, ⟨AVle.refl _, AVle.refl _, AVle.refl _, le_catL hml rfl, trivial⟩, BxLe.refl _⟩ ⟨rfl, by rw [List.length_append, hlm, gc_rul], trivial⟩ ⟨AVle.refl _, AVle.refl _, AVle.refl _, AVle.refl _, AVle.refl _, AVle.refl _, le_int (wrap_succ (by first | omega | (dsimp only; omega))), trivial⟩)
      · have g := yes_of g
        try dsimp only at g
        have hi : i < p.rules.length := by omega
        have hmem : p.rules.getD i rul0 ∈ p.rules := by simp [List.getD, hi]
        have hrs := rule16_spec (p.rules.getD i rul0) (hp.2 _ hmem).2.2 (by have := hc6 _ hmem; omega)
        have hgn := groupsOf_next hi
        have hnl := hc6 _ hmem
        rw [← h2] at hgn
        refine aw_nodup fun hnd => ?_
        have hnd : (G.map (·.2.2)).Nodup := by
          have : ((G.map gP).map (·.1.2)).Nodup := hnd
          rwa [List.map_map] at this
        (repeat((conv=>whnf);first|apply ω0|apply ω1|apply ω2|refine τ3 rfl ?_|refine τ4 rfl ?_|refine ⟨rfl,?_⟩|apply τa|refine τb rfl ?_|refine ⟨⟨by kernel_rfl,by kernel_rfl⟩,?_⟩|refine ⟨by decide,?_⟩|apply τt|apply τf))
        refine ⟨⟨by first | omega | (dsimp only; omega), by first | omega | (dsimp only; omega)⟩, ?_⟩
        (repeat((conv=>whnf);first|apply ω0|apply ω1|apply ω2|refine τ3 rfl ?_|refine τ4 rfl ?_|refine ⟨rfl,?_⟩|apply τa|refine τb rfl ?_|refine ⟨⟨by kernel_rfl,by kernel_rfl⟩,?_⟩|refine ⟨by decide,?_⟩|apply τt|apply τf))
        cases hN : normR (p.rules.getD i rul0) with
        | none =>
          rw [hN] at hrs
          have hgn : groupsOf (p.rules.take (i + 1)) = strip G := by rw [hgn]; unfold gstep; rw [hN]
          refine aop_tells rfl rfl hrs ⟨AVle.refl _, trivial⟩ fun nx4 => ?_
          (repeat((conv=>whnf);first|apply ω0|apply ω1|apply ω2|refine τ3 rfl ?_|refine τ4 rfl ?_|refine ⟨rfl,?_⟩|apply τa|refine τb rfl ?_|refine ⟨⟨by kernel_rfl,by kernel_rfl⟩,?_⟩|refine ⟨by decide,?_⟩|apply τt|apply τf))
          exact back (i + 1, G, nx4 + 1) ⟨hi, hgn.symm, by dsimp only; omega, fun g hg => ⟨by have := (h4 g hg).1; dsimp only; omega, (h4 g hg).2⟩⟩ (by dsimp only; omega) (ele_tell _ _ rfl rfl (.cons _ (.cons _ (List.Sublist.refl _))) (List.Sublist.refl _) (BxLe.refl _) (PmEq.refl _) ⟨AVle.refl _, AVle.refl _, AVle.refl _, AVle.refl _, AVle.refl _, le_int (wrap_succ (by first | omega | (dsimp only; omega))), trivial⟩)
        | some n =>
          rw [hN] at hrs
          obtain ⟨hn1, hn2, hn3⟩ := normR_conds hN
          rcases grp_cases (p.rules.getD i rul0).name G with hno | ⟨G1, l, st, G2, hG, hno⟩
          · have hgn : groupsOf (p.rules.take (i + 1)) = gadd (strip G) (p.rules.getD i rul0).name n := by
              rw [hgn]; unfold gstep; rw [hN]
              dsimp only
              rw [gget_none hno]; rfl
            have hlk := alook_none (e := gE) (fun _ => rfl) hno
            have hhd := hidden_spec [] n (by decide) (by simp)
            refine aop_tells rfl rfl hrs ⟨AVle.refl _, trivial⟩ fun nx4 => ?_
            (repeat((conv=>whnf);first|apply ω0|apply ω1|apply ω2|refine τ3 rfl ?_|refine τ4 rfl ?_|refine ⟨rfl,?_⟩|apply τa|refine τb rfl ?_|refine ⟨by decide,?_⟩|apply τt|apply τf))
            refine ⟨⟨rfl, gE_fit G⟩, splitO_eq (b := .os 0 0 (fun _ => .any) none) (congrArg (fun o : Option AV => o.getD (.os 0 0 (fun _ => .any) none)) hlk) ?_⟩
            (repeat((conv=>whnf);first|apply ω0|apply ω1|apply ω2|refine τ3 rfl ?_|refine τ4 rfl ?_|refine ⟨rfl,?_⟩|apply τa|refine τb rfl ?_|refine ⟨by decide,?_⟩|apply τt|apply τf))
            refine splitO_eq (b := rulA n) rfl ?_
            (repeat((conv=>whnf);first|apply ω0|apply ω1|apply ω2|refine τ3 rfl ?_|refine τ4 rfl ?_|refine ⟨rfl,?_⟩|apply τa|refine τb rfl ?_|refine ⟨by decide,?_⟩|apply τt|apply τf))
            refine aop_tells rfl rfl hhd ⟨AVle.os_sl0, AVle.refl _, trivial⟩ fun nx5 => ?_
            intro c hc
            have hc2 : c = false := hc
            clear hc; subst hc2
            (repeat((conv=>whnf);first|apply ω0|apply ω1|apply ω2|refine τ3 rfl ?_|refine τ4 rfl ?_|refine ⟨rfl,?_⟩|apply τa|refine τb rfl ?_|refine ⟨by decide,?_⟩|apply τt|apply τf))
            refine aw_mixN 10 _ (fun i => match i with | 9 => true | _ => false) (fun i => match i with | 6 => true | _ => false) [0, 1, 2, 3, 4, 5, 6, 7, 8, 9] (by kernel_rfl) (by kernel_rfl) (HB.refl _) ?_
            (repeat((conv=>whnf);first|apply ω0|apply ω1|apply ω2|refine τ3 rfl ?_|refine τ4 rfl ?_|refine ⟨rfl,?_⟩|apply τa|refine τb rfl ?_|refine ⟨by decide,?_⟩|apply τt|apply τf))
            refine ⟨lookR (alook (.string (p.rules.getD i rul0).name) (G.map gE)) (.os 0 0 (fun _ => .any) none) false, pure_apure rfl (C := some (nx2 = nx2 ∧ keysFit .string (G.map gE) = true)) rfl ⟨rfl, gE_fit G⟩, splitV_eq (b := .os 0 0 (fun _ => .any) none) (congrArg (fun o : Option AV => o.getD (.os 0 0 (fun _ => .any) none)) hlk) ?_⟩
            (repeat((conv=>whnf);first|apply ω0|apply ω1|apply ω2|refine τ3 rfl ?_|refine τ4 rfl ?_|refine ⟨rfl,?_⟩|apply τa|refine τb rfl ?_|refine ⟨by decide,?_⟩|apply τt|apply τf))
            refine splitV_eq (b := rulA n) rfl ?_
            (repeat((conv=>whnf);first|apply ω0|apply ω1|apply ω2|refine τ3 rfl ?_|refine τ4 rfl ?_|refine ⟨rfl,?_⟩|apply τa|refine τb rfl ?_|refine ⟨by decide,?_⟩|apply τt|apply τf))
            refine ⟨_, eff_append (e := 85) (n := 0) (oi := none) (sz := 0) (f := fun _ => .any) (m := 1) (szx := 4) (HB.refl _) rfl rfl rfl (.inr ⟨_, rfl⟩) Tryz.underlying33 gr_rul (.inl ⟨rfl, rfl⟩) (.inr gc_rul.symm) (fun i h => by cases h) (oneRow_one rfl) (fun _ => by rw [gb_rul]; omega) (fun _ => by omega), fun r h' hr => ?_⟩
            rcases hr with ⟨hr, -⟩ | ⟨-, rfl, rfl⟩
            · exact absurd hr (by decide)
            (repeat((conv=>whnf);first|apply ω0|apply ω1|apply ω2|refine τ3 rfl ?_|refine τ4 rfl ?_|refine ⟨rfl,?_⟩|apply τa|refine τb rfl ?_|refine ⟨by decide,?_⟩|apply τt|apply τf))
            refine ⟨⟨rfl, gE_fit G⟩, ?_⟩
            (repeat((conv=>whnf);first|apply ω0|apply ω1|apply ω2|refine τ3 rfl ?_|refine τ4 rfl ?_|refine ⟨rfl,?_⟩|apply τa|refine τb rfl ?_|refine ⟨by decide,?_⟩|apply τt|apply τf))
            refine forceM_intro ?_
            (repeat((conv=>whnf);first|apply ω0|apply ω1|apply ω2|refine τ3 rfl ?_|refine τ4 rfl ?_|refine ⟨rfl,?_⟩|apply τa|refine τb rfl ?_|refine ⟨by decide,?_⟩|apply τt|apply τf))
            exact back (i + 1, G ++ [((p.rules.getD i rul0).name, [n], nx5)], nx5 + 1) ⟨hi, (hgn.trans (gadd_none hno)).symm, by simp; omega, fun g hg => by
              rcases List.mem_append.1 hg with hg | hg
              · exact ⟨by have := (h4 g hg).1; dsimp only; omega, (h4 g hg).2⟩
              · rw [List.mem_singleton.1 hg]
                exact ⟨by simp, fun r hr => by rw [List.mem_singleton.1 hr]; omega⟩⟩ (by dsimp only; omega) (ele_tellG (bx := [((2, nx2), .mp ((G ++ [((p.rules.getD i rul0).name, [n], nx5)]).map gE)), ((1, nx + 1), .c zpolL), ((0, nx), .c (polC p))]) _ rfl rfl (.cons _ (.cons _ (List.Sublist.refl _))) rfl (by rw [List.map_append]; exact (List.perm_append_singleton _ _).map _ |>.trans (.of_eq (by rw [gc_rul]; rfl))) ⟨rfl, mp_none hno (le_catR (L := [])), BxLe.refl _⟩ ⟨AVle.refl _, AVle.refl _, AVle.refl _, AVle.refl _, AVle.refl _, le_int (wrap_succ (by first | omega | (dsimp only; omega))), trivial⟩)
          · subst hG
            have hlk := alook_at (e := gE) (fun _ => rfl) (l := l) (st := st) (G2 := G2) hno
            have hgl := h4 ((p.rules.getD i rul0).name, l, st) (by simp)
            dsimp only at hgl
            have hhd := hidden_spec l n (by omega) (fun r hr => by have := hgl.2 r hr; omega)
            have hgg : gget (strip (G1 ++ ((p.rules.getD i rul0).name, l, st) :: G2)) (p.rules.getD i rul0).name = l := gget_at hno
            unfold gstep at hgn
            rw [hN] at hgn
            dsimp only at hgn
            rw [hgg] at hgn
            refine aop_tells rfl rfl hrs ⟨AVle.refl _, trivial⟩ fun nx4 => ?_
            (repeat((conv=>whnf);first|apply ω0|apply ω1|apply ω2|refine τ3 rfl ?_|refine τ4 rfl ?_|refine ⟨rfl,?_⟩|apply τa|refine τb rfl ?_|refine ⟨by decide,?_⟩|apply τt|apply τf))
            refine ⟨⟨rfl, gE_fit _⟩, splitO_eq (b := .os 4 l.length (rulF l) (some (st, st))) (congrArg (fun o : Option AV => o.getD (.os 0 0 (fun _ => .any) none)) hlk) ?_⟩
            (repeat((conv=>whnf);first|apply ω0|apply ω1|apply ω2|refine τ3 rfl ?_|refine τ4 rfl ?_|refine ⟨rfl,?_⟩|apply τa|refine τb rfl ?_|refine ⟨by decide,?_⟩|apply τt|apply τf))
            refine splitO_eq (b := rulA n) rfl ?_
            (repeat((conv=>whnf);first|apply ω0|apply ω1|apply ω2|refine τ3 rfl ?_|refine τ4 rfl ?_|refine ⟨rfl,?_⟩|apply τa|refine τb rfl ?_|refine ⟨by decide,?_⟩|apply τt|apply τf))
            refine aop_tells rfl rfl hhd ⟨AVle.os_sl, AVle.refl _, trivial⟩ fun nx5 => ?_
            intro c hh; cases c
            · have hh : hidden l n = false := hh.symm
              rw [hh, if_neg (by decide)] at hgn
              (repeat((conv=>whnf);first|apply ω0|apply ω1|apply ω2|refine τ3 rfl ?_|refine τ4 rfl ?_|refine ⟨rfl,?_⟩|apply τa|refine τb rfl ?_|refine ⟨by decide,?_⟩|apply τt|apply τf))
              refine aw_mixN 10 _ (fun i => match i with | 9 => true | _ => false) (fun i => match i with | 6 => true | _ => false) [0, 1, 2, 3, 4, 5, 6, 7, 8, 9] (by kernel_rfl) (by kernel_rfl) (HB.refl _) ?_
              (repeat((conv=>whnf);first|apply ω0|apply ω1|apply ω2|refine τ3 rfl ?_|refine τ4 rfl ?_|refine ⟨rfl,?_⟩|apply τa|refine τb rfl ?_|refine ⟨by decide,?_⟩|apply τt|apply τf))
              refine ⟨lookR (alook (.string (p.rules.getD i rul0).name) ((G1 ++ ((p.rules.getD i rul0).name, l, st) :: G2).map gE)) (.os 0 0 (fun _ => .any) none) false, pure_apure rfl (C := some (nx2 = nx2 ∧ keysFit .string ((G1 ++ ((p.rules.getD i rul0).name, l, st) :: G2).map gE) = true)) rfl ⟨rfl, gE_fit _⟩, splitV_eq (b := .os 4 l.length (rulF l) (some (st, st))) (congrArg (fun o : Option AV => o.getD (.os 0 0 (fun _ => .any) none)) hlk) ?_⟩
              (repeat((conv=>whnf);first|apply ω0|apply ω1|apply ω2|refine τ3 rfl ?_|refine τ4 rfl ?_|refine ⟨rfl,?_⟩|apply τa|refine τb rfl ?_|refine ⟨by decide,?_⟩|apply τt|apply τf))
              refine splitV_eq (b := rulA n) rfl ?_
              (repeat((conv=>whnf);first|apply ω0|apply ω1|apply ω2|refine τ3 rfl ?_|refine τ4 rfl ?_|refine ⟨rfl,?_⟩|apply τa|refine τb rfl ?_|refine ⟨by decide,?_⟩|apply τt|apply τf))
              refine ⟨_, eff_append (e := 85) (n := l.length) (oi := some (st, st)) (sz := 4) (f := rulF l) (m := 1) (szx := 4) (HB.refl _) rfl rfl rfl (.inr ⟨_, rfl⟩) Tryz.underlying33 gr_rul (.inr gc_rul.symm) (.inr gc_rul.symm) (fun i h => by cases h; rw [gc_rul]; exact permGet_at hnd) (oneRow_one rfl) (fun _ => by rw [gb_rul]; omega) (fun _ => by omega), fun r h' hr => ?_⟩
              rcases hr with ⟨hr, -⟩ | ⟨-, rfl, rfl⟩
              · exact absurd hr (by decide)
              (repeat((conv=>whnf);first|apply ω0|apply ω1|apply ω2|refine τ3 rfl ?_|refine τ4 rfl ?_|refine ⟨rfl,?_⟩|apply τa|refine τb rfl ?_|refine ⟨by decide,?_⟩|apply τt|apply τf))
              refine ⟨⟨rfl, gE_fit _⟩, ?_⟩
              (repeat((conv=>whnf);first|apply ω0|apply ω1|apply ω2|refine τ3 rfl ?_|refine τ4 rfl ?_|refine ⟨rfl,?_⟩|apply τa|refine τb rfl ?_|refine ⟨by decide,?_⟩|apply τt|apply τf))
              refine forceM_intro ?_
              (repeat((conv=>whnf);first|apply ω0|apply ω1|apply ω2|refine τ3 rfl ?_|refine τ4 rfl ?_|refine ⟨rfl,?_⟩|apply τa|refine τb rfl ?_|refine ⟨by decide,?_⟩|apply τt|apply τf))
              exact back (i + 1, G1 ++ ((p.rules.getD i rul0).name, l ++ [n], nx5) :: G2, nx5 + 1) ⟨hi, (hgn.trans (gadd_at hno)).symm, by simp at h3 ⊢; omega, fun g hg => by
                rcases List.mem_append.1 hg with hg | hg
                · have := h4 g (List.mem_append_left _ hg); exact ⟨by have := this.1; dsimp only; omega, this.2⟩
                · rcases List.mem_cons.1 hg with rfl | hg
                  · exact ⟨by simp; omega, fun r hr => by
                      rcases List.mem_append.1 hr with hr | hr
                      · exact hgl.2 r hr
                      · rw [List.mem_singleton.1 hr]; omega⟩
                  · have := h4 g (List.mem_append_right _ (.tail _ hg)); exact ⟨by have := this.1; dsimp only; omega, this.2⟩⟩ (by dsimp only; omega) (ele_tellG (bx := [((2, nx2), .mp ((G1 ++ ((p.rules.getD i rul0).name, l ++ [n], nx5) :: G2).map gE)), ((1, nx + 1), .c zpolL), ((0, nx), .c (polC p))]) _ rfl rfl (.cons _ (.cons _ (List.Sublist.refl _))) rfl (perm_at hnd) ⟨rfl, mp_at hno le_catR, BxLe.refl _⟩ ⟨AVle.refl _, AVle.refl _, AVle.refl _, AVle.refl _, AVle.refl _, le_int (wrap_succ (by first | omega | (dsimp only; omega))), trivial⟩)
            · have hh : hidden l n = true := hh.symm
              rw [hh, if_pos rfl] at hgn
              (repeat((conv=>whnf);first|apply ω0|apply ω1|apply ω2|refine τ3 rfl ?_|refine τ4 rfl ?_|refine ⟨rfl,?_⟩|apply τa|refine τb rfl ?_|refine ⟨by decide,?_⟩|apply τt|apply τf))
              exact back (i + 1, G1 ++ ((p.rules.getD i rul0).name, l, st) :: G2, nx5) ⟨hi, hgn.symm, by dsimp only; omega, fun g hg => ⟨by have := (h4 g hg).1; dsimp only; omega, (h4 g hg).2⟩⟩ (by dsimp only; omega) (ele_tell _ _ rfl rfl (.cons _ (.cons _ (List.Sublist.refl _))) (List.Sublist.refl _) (BxLe.refl _) (PmEq.refl _) ⟨AVle.refl _, AVle.refl _, AVle.refl _, AVle.refl _, AVle.refl _, le_int (wrap_succ (by first | omega | (dsimp only; omega))), trivial⟩)
end Go.Proofs.W

namespace Go.Proofs.W
open Go.Vl
set_option maxRecDepth 100000

theorem normC_state (c : Cnd) : (normC c).2 = 0 ∨ (normC c).2 = 1 ∨ (normC c).2 = 2 := by
  unfold normC formC underC overC bitsC isC asC
  repeat' split
  all_goals simp
theorem formC_ok {c : Cnd} (ho : c.ok) : (normC c).1.ok := by
  obtain ⟨o1, o2⟩ := ho
  unfold normC formC underC overC bitsC isC asC cnd0 Cnd.ok
  repeat' split
  all_goals (refine ⟨?_, ?_⟩ <;> dsimp only <;> omega)
end Go.Proofs.W

namespace Go.Proofs.W
open Go.Vl
set_option maxRecDepth 100000

/- The plain laws of normal forms. -/
theorem pair_same {α : Type} {R : α → α → Prop} (hi : ∀ x, ¬ R x x) (ht : ∀ x y z, R x y → R y z → R x z) : ∀ {l l' : List α}, l.Pairwise R → l'.Pairwise R → (∀ x, x ∈ l ↔ x ∈ l') → l = l'
  | [], [], _, _, _ => rfl
  | [], y :: l', _, _, h => absurd ((h y).2 (.head _)) (by simp)
  | x :: l, [], _, _, h => absurd ((h x).1 (.head _)) (by simp)
  | x :: l, y :: l', h1, h2, h => by
    rw [List.pairwise_cons] at h1 h2
    have hxy : x = y := by
      rcases List.mem_cons.1 ((h x).1 (.head _)) with e | e
      · exact e
      · rcases List.mem_cons.1 ((h y).2 (.head _)) with e' | e'
        · exact e'.symm
        · exact absurd (ht _ _ _ (h1.1 _ e') (h2.1 _ e)) (hi x)
    subst hxy
    have hnx : ∀ {m : List α}, (∀ z ∈ m, R x z) → x ∉ m := fun hm hx => hi x (hm x hx)
    rw [pair_same hi ht h1.2 h2.2 fun z => ?_]
    constructor
    · intro hz
      rcases List.mem_cons.1 ((h z).1 (.tail _ hz)) with e | e
      · subst e; exact absurd hz (hnx h1.1)
      · exact e
    · intro hz
      rcases List.mem_cons.1 ((h z).2 (.tail _ hz)) with e | e
      · subst e; exact absurd hz (hnx h2.1)
      · exact e
def RC (a b : Cnd) : Prop := ltC a b = true
theorem RC_irr (x : Cnd) : ¬ RC x x := by unfold RC; rw [swo_ltC.irrefl]; decide
theorem RC_tr (x y z : Cnd) (h : RC x y) (k : RC y z) : RC x z := swo_ltC.trans x y z h k
/-- A sorted row, each run once. -/
theorem cU_spec {d : Array Cnd} : ∀ {m : Nat}, m ≤ d.size → (∀ i j, i < j → j < m → ltC d[j]! d[i]! = false) → (cU d m).Pairwise RC ∧ ∀ x, x ∈ cU d m ↔ ∃ j, j < m ∧ d[j]! = x
  | 0, _, _ => ⟨List.Pairwise.nil, fun x => by simp [cU]⟩
  | m + 1, hm, hs => by
    obtain ⟨h1, h2⟩ := cU_spec (m := m) (by omega) fun i j a b => hs i j a (by omega)
    by_cases hc : m = 0 ∨ d[m]! ≠ d[m - 1]!
    · rw [cU, if_pos hc]
      refine ⟨?_, fun x => ?_⟩
      · rw [List.pairwise_append]
        refine ⟨h1, List.pairwise_singleton _ _, fun a ha b hb => ?_⟩
        rw [List.mem_singleton] at hb
        subst hb
        obtain ⟨j, hj, rfl⟩ := (h2 a).1 ha
        cases hlt : ltC d[j]! d[m]! with
        | true => exact hlt
        | false =>
          exfalso
          have h3 := hs (m - 1) m (by omega) (by omega)
          have h4 : ltC d[m - 1]! d[m]! = false := by
            rcases Nat.lt_or_ge j (m - 1) with q | q
            · exact swo_ltC.ntrans _ _ _ (hs j (m - 1) q (by omega)) hlt
            · rw [show m - 1 = j by omega]; exact hlt
          rcases hc with hc | hc
          · omega
          · exact hc (ltC_tot h3 h4)
      · rw [List.mem_append, h2, List.mem_singleton]
        constructor
        · rintro (⟨j, hj, rfl⟩ | rfl)
          · exact ⟨j, by omega, rfl⟩
          · exact ⟨m, by omega, rfl⟩
        · rintro ⟨j, hj, rfl⟩
          rcases Nat.lt_or_ge j m with q | q
          · exact .inl ⟨j, q, rfl⟩
          · exact .inr (by rw [show j = m by omega])
    · rw [cU, if_neg hc]
      refine ⟨h1, fun x => ?_⟩
      rw [h2]
      constructor
      · rintro ⟨j, hj, rfl⟩; exact ⟨j, by omega, rfl⟩
      · rintro ⟨j, hj, rfl⟩
        rcases Nat.lt_or_ge j m with q | q
        · exact ⟨j, q, rfl⟩
        · have hj' : j = m := by omega
          subst hj'
          have : j ≠ 0 := fun h => hc (.inl h)
          exact ⟨j - 1, by omega, by by_cases he : d[j]! = d[j - 1]!; exact he.symm; exact absurd (.inr he) hc⟩
theorem cmpt_spec (L : List Cnd) : (cmpt L).Pairwise RC ∧ ∀ x, x ∈ cmpt L ↔ x ∈ L := by
  have h := Go.Sort.insertionSort_holds (lt := ltC) swo_ltC L.toArray 0 L.length (Nat.zero_le _) (by simp)
  have hsz : (Go.Sort.insertionSort ltC L.toArray 0 L.length).size = L.length := by have := h.1.1; simpa using this
  obtain ⟨h1, h2⟩ := cU_spec (d := Go.Sort.insertionSort ltC L.toArray 0 L.length) (m := L.length) (by omega) fun i j a b => h.2 i j (Nat.zero_le _) a b
  refine ⟨h1, fun x => (h2 x).trans ?_⟩
  have hp := h.1.2.2.mem_iff (a := x)
  clear h h1 h2
  generalize Go.Sort.insertionSort ltC L.toArray 0 L.length = d at hsz hp ⊢
  have e1 : (d.extract 0 L.length).toList = d.toList := by rw [← hsz]; simp
  have e2 : (L.toArray.extract 0 L.length).toList = L := by simp
  rw [e1, e2] at hp
  rw [← hp, List.mem_iff_getElem]
  constructor
  · rintro ⟨j, hj, rfl⟩
    have hj' : j < d.size := by omega
    exact ⟨j, by simpa using hj', by simp [hj']⟩
  · rintro ⟨j, hj, rfl⟩
    have hj' : j < d.size := by simpa using hj
    exact ⟨j, by omega, by simp [hj']⟩
theorem cmpt_eq {L L' : List Cnd} (h : ∀ x, x ∈ L ↔ x ∈ L') : cmpt L = cmpt L' :=
  pair_same RC_irr RC_tr (cmpt_spec L).1 (cmpt_spec L').1 fun x => ((cmpt_spec L).2 x).trans ((h x).trans ((cmpt_spec L').2 x).symm)
theorem cmpt_idem (L : List Cnd) : cmpt (cmpt L) = cmpt L := cmpt_eq fun x => (cmpt_spec L).2 x
theorem rightC_1 {arg : Int} {op : Int} {v : Nat} (h0 : 0 ≤ arg) (h5 : arg ≤ 5) (h1 : 1 ≤ op) (h7 : op ≤ 7) : rightC ⟨arg, op, 0, v⟩ = true := rightC_iff.2 ⟨h0, h5, h1, h7, .inr rfl⟩
theorem normC_1 {arg : Int} {v : Nat} (h0 : 0 ≤ arg) (h5 : arg ≤ 5) : normC ⟨arg, 1, 0, v⟩ = (⟨arg, 1, 0, v⟩, 0) := by
  unfold normC; rw [if_pos (rightC_1 h0 h5 (by decide) (by decide))]; simp [formC]
theorem normC_3 {arg : Int} {v : Nat} (h0 : 0 ≤ arg) (h5 : arg ≤ 5) (hv : ¬ v = 0) (hv1 : ¬ v = 1) : normC ⟨arg, 3, 0, v⟩ = (⟨arg, 3, 0, v⟩, 0) := by
  unfold normC; rw [if_pos (rightC_1 h0 h5 (by decide) (by decide))]; simp [formC, underC, hv, hv1, asC]
theorem normC_6 {arg : Int} {v : Nat} (h0 : 0 ≤ arg) (h5 : arg ≤ 5) (hv : ¬ v = 0) (hv1 : ¬ v = 18446744073709551615) : normC ⟨arg, 6, 0, v⟩ = (⟨arg, 6, 0, v⟩, 0) := by
  unfold normC; rw [if_pos (rightC_1 h0 h5 (by decide) (by decide))]; simp [formC, overC, hv, hv1, asC]
theorem under_again {c : Cnd} {v : Nat} (h0 : 0 ≤ c.arg) (h5 : c.arg ≤ 5) (h : (underC c v).2 = 0) : rightC (underC c v).1 = true ∧ normC (underC c v).1 = ((underC c v).1, 0) := by
  unfold underC at h ⊢
  by_cases e0 : v = 0
  · rw [if_pos e0] at h; simp [isC] at h
  · rw [if_neg e0] at h ⊢
    by_cases e1 : v = 1
    · rw [if_pos e1]; exact ⟨rightC_1 h0 h5 (by decide) (by decide), normC_1 h0 h5⟩
    · rw [if_neg e1]; exact ⟨rightC_1 h0 h5 (by decide) (by decide), normC_3 h0 h5 e0 e1⟩
theorem over_again {c : Cnd} {v : Nat} (h0 : 0 ≤ c.arg) (h5 : c.arg ≤ 5) (h : (overC c v).2 = 0) : rightC (overC c v).1 = true ∧ normC (overC c v).1 = ((overC c v).1, 0) := by
  unfold overC at h ⊢
  by_cases e0 : v = 0
  · rw [if_pos e0] at h; simp [isC] at h
  · rw [if_neg e0] at h ⊢
    by_cases e1 : v = 18446744073709551615
    · rw [if_pos e1]; exact ⟨rightC_1 h0 h5 (by decide) (by decide), normC_1 h0 h5⟩
    · rw [if_neg e1]; exact ⟨rightC_1 h0 h5 (by decide) (by decide), normC_6 h0 h5 e0 e1⟩
/-- A condition's normal form asks as it stands. -/
theorem normC_again {c : Cnd} (h : (normC c).2 = 0) : rightC (normC c).1 = true ∧ normC (normC c).1 = ((normC c).1, 0) := by
  have hr : rightC c = true := by
    cases hr : rightC c with
    | true => rfl
    | false =>
      unfold normC at h
      rw [hr, if_neg (by decide)] at h
      simp [isC] at h
  have hrc := rightC_iff.1 hr
  have e : normC c = formC c := if_pos hr
  by_cases e3 : c.op = 3
  · have e2 : formC c = underC c c.value := if_pos e3
    rw [e, e2] at h ⊢; exact under_again hrc.1 hrc.2.1 h
  by_cases e6 : c.op = 6
  · have e2 : formC c = overC c c.value := by unfold formC; rw [if_neg e3, if_pos e6]
    rw [e, e2] at h ⊢; exact over_again hrc.1 hrc.2.1 h
  by_cases e7 : c.op = 7
  · have e2 : formC c = bitsC c := by unfold formC; rw [if_neg e3, if_neg e6, if_pos e7]
    rw [e, e2] at h ⊢
    unfold bitsC at h ⊢
    by_cases b0 : clrB c.value c.mask ≠ 0
    · rw [if_pos b0] at h; simp [isC] at h
    · rw [if_neg b0] at h ⊢
      by_cases b1 : c.mask = 0
      · rw [if_pos b1] at h; simp [isC] at h
      · rw [if_neg b1] at h ⊢
        by_cases b2 : c.mask = 18446744073709551615
        · rw [if_pos b2]; exact ⟨rightC_1 hrc.1 hrc.2.1 (by decide) (by decide), normC_1 hrc.1 hrc.2.1⟩
        · rw [if_neg b2]
          refine ⟨hr, ?_⟩
          rw [e, e2]; unfold bitsC; rw [if_neg b0, if_neg b1, if_neg b2]
  by_cases e4 : c.op = 4
  · by_cases v : c.value = 18446744073709551615
    · have e2 : formC c = isC true := by unfold formC; rw [if_neg e3, if_neg e6, if_neg e7, if_pos e4, if_pos v]
      rw [e, e2] at h; simp [isC] at h
    · have e2 : formC c = underC c (c.value + 1) := by unfold formC; rw [if_neg e3, if_neg e6, if_neg e7, if_pos e4, if_neg v]
      rw [e, e2] at h ⊢; exact under_again hrc.1 hrc.2.1 h
  by_cases e5 : c.op = 5
  · by_cases v : c.value = 18446744073709551615
    · have e2 : formC c = isC false := by unfold formC; rw [if_neg e3, if_neg e6, if_neg e7, if_neg e4, if_pos e5, if_pos v]
      rw [e, e2] at h; simp [isC] at h
    · have e2 : formC c = overC c (c.value + 1) := by unfold formC; rw [if_neg e3, if_neg e6, if_neg e7, if_neg e4, if_pos e5, if_neg v]
      rw [e, e2] at h ⊢; exact over_again hrc.1 hrc.2.1 h
  have e2 : formC c = (c, 0) := by unfold formC; rw [if_neg e3, if_neg e6, if_neg e7, if_neg e4, if_neg e5]
  rw [e, e2]
  exact ⟨hr, e.trans e2⟩
theorem asks_again {cs : List Cnd} {x : Cnd} (h : x ∈ asksOf cs) : rightC x = true ∧ neverC x = false ∧ askC x = some x := by
  unfold asksOf at h
  obtain ⟨c, hc, hx⟩ := List.mem_filterMap.1 h
  unfold askC at hx
  split at hx
  · rename_i h0
    cases hx
    obtain ⟨h1, h2⟩ := normC_again h0
    refine ⟨h1, ?_, ?_⟩
    · unfold neverC; rw [h2]; rfl
    · unfold askC; rw [h2]; rfl
  · cases hx
/-- A rule's normal form is one; and it is right where the rule is. -/
theorem normR_again {r n : Rul} (h : normR r = some n) : normR n = some n ∧ (rightR r = true → rightR n = true) ∧ ((∀ c ∈ r.conds, c.ok) → ∀ c ∈ n.conds, c.ok) := by
  have hc := normR_conds h
  unfold normR at h
  split at h
  · cases h
  · cases h
    have hm : ∀ x, x ∈ cmpt (asksOf r.conds) → rightC x = true ∧ neverC x = false ∧ askC x = some x := fun x hx => asks_again (((cmpt_spec _).2 x).1 hx)
    refine ⟨?_, fun hr => ?_, fun ho x hx => ?_⟩
    · unfold normR
      dsimp only
      have e1 : (cmpt (asksOf r.conds)).any neverC = false := by
        rw [List.any_eq_false]
        intro x hx; rw [(hm x hx).2.1]; decide
      have e2 : asksOf (cmpt (asksOf r.conds)) = cmpt (asksOf r.conds) := by
        generalize cmpt (asksOf r.conds) = l at hm
        unfold asksOf
        induction l with
        | nil => rfl
        | cons x l ih =>
          rw [List.filterMap_cons, (hm x (.head _)).2.2]
          dsimp only
          rw [ih fun y hy => hm y (.tail _ hy)]
      rw [e1, e2, cmpt_idem]; rfl
    · unfold rightR at hr ⊢
      simp only [Bool.and_eq_true, decide_eq_true_eq] at hr ⊢
      refine ⟨hr.1, hr.2.1, Nat.le_trans hc.1 hr.2.2.1, ?_⟩
      rw [Bool.not_eq_true', List.any_eq_false]
      intro x hx; rw [(hm x hx).1]; decide
    · have hx2 := ((cmpt_spec _).2 x).1 hx
      unfold asksOf at hx2
      obtain ⟨c, hc, hy⟩ := List.mem_filterMap.1 hx2
      unfold askC at hy
      split at hy
      · cases hy; exact formC_ok (ho c hc)
      · cases hy
end Go.Proofs.W

namespace Go.Proofs.W
open Go.Vl
set_option maxRecDepth 100000

/- What groups hold, and what is put out of them. -/
def addN (l : List Rul) (r : Rul) : List Rul :=
  match normR r with
  | none => l
  | some n => if hidden l n then l else l ++ [n]
def gOf (s : ByteArray) (rs : List Rul) : List Rul := rs.foldl (fun l r => if keyB s r.name then addN l r else l) []
theorem keyB_refl (s : ByteArray) : keyB s s = true := keyB_eq.2 rfl
theorem gget_gadd {s t : ByteArray} {n : Rul} : ∀ {H : List (ByteArray × List Rul)}, gget (gadd H t n) s = if keyB s t then gget H s ++ [n] else gget H s
  | [] => by
    show (if keyB s t = true then [n] else []) = _
    by_cases h : keyB s t = true
    · rw [if_pos h, if_pos h]; rfl
    · rw [if_neg h, if_neg h]; rfl
  | h :: H => by
    unfold gadd
    by_cases ht : keyB t h.1 = true
    · rw [if_pos ht]
      obtain rfl := keyB_eq.1 ht
      show (if keyB s h.1 = true then _ else gget H s) = _
      by_cases hs : keyB s h.1 = true
      · rw [if_pos hs, if_pos hs]; show _ = (if keyB s h.1 = true then _ else _) ++ _; rw [if_pos hs]
      · rw [if_neg hs, if_neg hs]; show _ = (if keyB s h.1 = true then _ else _); rw [if_neg hs]
    · rw [if_neg ht]
      show (if keyB s h.1 = true then h.2 else gget (gadd H t n) s) = if keyB s t = true then (if keyB s h.1 = true then h.2 else gget H s) ++ [n] else (if keyB s h.1 = true then h.2 else gget H s)
      by_cases hs : keyB s h.1 = true
      · rw [if_pos hs, if_pos hs]
        have : ¬ keyB s t = true := fun k => ht (by rw [← keyB_eq.1 k]; exact hs)
        rw [if_neg this]
      · rw [if_neg hs, if_neg hs, gget_gadd]
theorem gget_gstep {s : ByteArray} {H : List (ByteArray × List Rul)} {r : Rul} : gget (gstep H r) s = if keyB s r.name then addN (gget H s) r else gget H s := by
  unfold gstep addN
  cases hN : normR r with
  | none => simp
  | some n =>
    dsimp only
    by_cases hs : keyB s r.name = true
    · obtain rfl := keyB_eq.1 hs
      rw [if_pos hs]
      by_cases hh : hidden (gget H r.name) n = true
      · rw [if_pos hh, if_pos hh]
      · rw [if_neg hh, if_neg hh, gget_gadd, if_pos hs]
    · rw [if_neg hs]
      by_cases hh : hidden (gget H r.name) n = true
      · rw [if_pos hh]
      · rw [if_neg hh, gget_gadd, if_neg hs]
theorem gget_fold {s : ByteArray} : ∀ (rs : List Rul) (H : List (ByteArray × List Rul)), gget (rs.foldl gstep H) s = rs.foldl (fun l r => if keyB s r.name then addN l r else l) (gget H s)
  | [], _ => rfl
  | r :: rs, H => by
    rw [List.foldl_cons, gget_fold rs, List.foldl_cons, gget_gstep]
theorem gget_groups (s : ByteArray) (rs : List Rul) : gget (groupsOf rs) s = gOf s rs := gget_fold rs []

/-- The keys of groups: each once; none without a group. -/
theorem gadd_keys {t : ByteArray} {n : Rul} : ∀ {H : List (ByteArray × List Rul)} {s : ByteArray}, s ∈ (gadd H t n).map (·.1) ↔ s = t ∨ s ∈ H.map (·.1)
  | [], s => by simp [gadd]
  | h :: H, s => by
    unfold gadd
    by_cases ht : keyB t h.1 = true
    · rw [if_pos ht]
      obtain rfl := keyB_eq.1 ht
      simp
    · rw [if_neg ht, List.map_cons, List.mem_cons, gadd_keys, List.map_cons, List.mem_cons]
      constructor
      · rintro (h | h | h)
        · exact .inr (.inl h)
        · exact .inl h
        · exact .inr (.inr h)
      · rintro (h | h | h)
        · exact .inr (.inl h)
        · exact .inl h
        · exact .inr (.inr h)
theorem gadd_nodup {t : ByteArray} {n : Rul} : ∀ {H : List (ByteArray × List Rul)}, (H.map (·.1)).Nodup → ((gadd H t n).map (·.1)).Nodup
  | [], _ => by simp [gadd]
  | h :: H, hn => by
    unfold gadd
    by_cases ht : keyB t h.1 = true
    · rw [if_pos ht]; exact hn
    · rw [if_neg ht]
      rw [List.map_cons, List.nodup_cons] at hn ⊢
      refine ⟨fun hm => ?_, gadd_nodup hn.2⟩
      rcases gadd_keys.1 hm with e | e
      · exact ht (by rw [← e]; exact keyB_refl _)
      · exact hn.1 e
theorem gstep_nodup {H : List (ByteArray × List Rul)} {r : Rul} (h : (H.map (·.1)).Nodup) : ((gstep H r).map (·.1)).Nodup := by
  unfold gstep
  cases normR r with
  | none => exact h
  | some n =>
    dsimp only
    split
    · exact h
    · exact gadd_nodup h
theorem groups_nodup (rs : List Rul) : ((groupsOf rs).map (·.1)).Nodup := by
  have key : ∀ (rs : List Rul) (H : List (ByteArray × List Rul)), (H.map (·.1)).Nodup → ((rs.foldl gstep H).map (·.1)).Nodup := by
    intro rs
    induction rs with
    | nil => intro H h; exact h
    | cons r rs ih => intro H h; exact ih _ (gstep_nodup h)
  exact key rs [] List.nodup_nil
theorem gget_mem {s : ByteArray} : ∀ {H : List (ByteArray × List Rul)}, gget H s ≠ [] → s ∈ H.map (·.1)
  | [], h => absurd rfl h
  | h :: H, hne => by
    by_cases hs : keyB s h.1 = true
    · rw [keyB_eq.1 hs]; simp
    · have : gget (h :: H) s = gget H s := if_neg hs
      rw [this] at hne
      exact List.mem_cons_of_mem _ (gget_mem hne)
def RS (a b : List UInt8) : Prop := Go.Sort.ltStr a b = true
theorem RS_irr (x : List UInt8) : ¬ RS x x := by unfold RS; rw [Go.Sort.swo_ltStr.irrefl]; decide
theorem data_inj {s t : ByteArray} (h : s.data.toList = t.data.toList) : s = t := by
  obtain ⟨⟨a⟩⟩ := s; obtain ⟨⟨b⟩⟩ := t; simpa using h
theorem keys_strict {H : List (ByteArray × List Rul)} (hn : (H.map (·.1)).Nodup) : (keysOf H).Pairwise RS := by
  have h1 := sortBy_pair Go.Sort.swo_ltStr (H.map fun h => h.1.data.toList)
  have h2 : (keysOf H).Nodup := by
    refine (List.mergeSort_perm _ _).nodup_iff.2 ?_
    have : (H.map fun h => h.1.data.toList) = (H.map (·.1)).map (fun s : ByteArray => s.data.toList) := by rw [List.map_map]; rfl
    rw [this]
    exact List.pairwise_map.2 (hn.imp fun h e => h (data_inj e))
  refine (h1.and h2).imp fun {a b} h => ?_
  unfold RS
  cases hl : Go.Sort.ltStr a b with
  | true => rfl
  | false => exact absurd (ltStr_totK16 _ _ hl h.1) h.2
theorem keys_memK16 {H : List (ByteArray × List Rul)} {s : ByteArray} : s.data.toList ∈ keysOf H ↔ s ∈ H.map (·.1) := by
  unfold keysOf
  rw [sortBy_mem, List.mem_map, List.mem_map]
  constructor
  · rintro ⟨h, hh, e⟩; exact ⟨h, hh, data_inj e⟩
  · rintro ⟨h, hh, e⟩; exact ⟨h, hh, by rw [e]⟩
/-- A fold that looks at some alone. -/
theorem gOf_filter (s : ByteArray) (rs : List Rul) : gOf s rs = (rs.filter fun r => keyB s r.name).foldl addN [] := by
  unfold gOf
  have key : ∀ (rs : List Rul) (l : List Rul), rs.foldl (fun l r => if keyB s r.name then addN l r else l) l = (rs.filter fun r => keyB s r.name).foldl addN l := by
    intro rs
    induction rs with
    | nil => intro l; rfl
    | cons r rs ih =>
      intro l
      rw [List.foldl_cons, ih, List.filter_cons]
      by_cases h : keyB s r.name = true
      · rw [if_pos h, if_pos h]; rfl
      · rw [if_neg h, if_neg h]
  exact key rs []
/- The normal form of a normal form. -/
theorem nil_or_snoc (l : List Rul) : l = [] ∨ ∃ l' x, l = l' ++ [x] := by
  rcases List.eq_nil_or_concat l with h | ⟨l', x, h⟩
  · exact .inl h
  · exact .inr ⟨l', x, by rw [h, List.concat_eq_append]⟩
def GoodG (l : List Rul) : Prop := ∀ a n b, l = a ++ n :: b → normR n = some n ∧ hidden a n = false
theorem good_nil : GoodG [] := fun a n b h => by simp at h
theorem good_snoc {l : List Rul} {n : Rul} (h : GoodG l) (h1 : normR n = some n) (h2 : hidden l n = false) : GoodG (l ++ [n]) := fun a m b he => by
  rcases nil_or_snoc b with rfl | ⟨b', x, rfl⟩
  · have := List.append_inj' he rfl
    obtain ⟨rfl, hh⟩ := this
    cases hh
    exact ⟨h1, h2⟩
  · rw [show a ++ m :: (b' ++ [x]) = (a ++ m :: b') ++ [x] by simp] at he
    have := List.append_inj' he rfl
    exact h a m b' this.1
theorem good_front {l t : List Rul} (h : GoodG (l ++ t)) : GoodG l := fun a n b he => h a n (b ++ t) (by rw [he]; simp)
theorem addN_good {l : List Rul} {r : Rul} (h : GoodG l) : GoodG (addN l r) := by
  unfold addN
  cases hN : normR r with
  | none => exact h
  | some n =>
    dsimp only
    by_cases hh : hidden l n = true
    · rw [if_pos hh]; exact h
    · rw [if_neg hh]; exact good_snoc h (normR_again hN).1 (by simpa using hh)
theorem fold_good : ∀ (rs l : List Rul), GoodG l → GoodG (rs.foldl addN l)
  | [], _, h => h
  | r :: rs, l, h => fold_good rs _ (addN_good h)
theorem gOf_good (s : ByteArray) (rs : List Rul) : GoodG (gOf s rs) := by rw [gOf_filter]; exact fold_good _ _ good_nil
theorem good_fold {l : List Rul} (h : GoodG l) : l.foldl addN [] = l := by
  have key : ∀ (k : Nat) (l : List Rul), l.length = k → GoodG l → l.foldl addN [] = l := by
    intro k
    induction k with
    | zero => intro l hk _; rw [List.eq_nil_of_length_eq_zero hk]; rfl
    | succ k ih =>
      intro l hk h
      rcases nil_or_snoc l with rfl | ⟨l', x, rfl⟩
      · simp at hk
      · rw [List.foldl_append, ih l' (by simpa using hk) (good_front h)]
        obtain ⟨h1, h2⟩ := h l' x [] rfl
        show addN l' x = _
        unfold addN
        rw [h1]
        dsimp only
        rw [if_neg (by rw [h2]; decide)]
  exact key _ l rfl h
theorem cutL_front (d : A2) (l : List Rul) : ∃ t, l = cutL d l ++ t := by
  unfold cutL
  refine ⟨(l.reverse.takeWhile fun r => decide (r.act = d)).reverse, ?_⟩
  rw [← List.reverse_append, List.takeWhile_append_dropWhile, List.reverse_reverse]
theorem cutL_le (d : A2) (l : List Rul) : (cutL d l).length ≤ l.length := by
  obtain ⟨t, h⟩ := cutL_front d l
  have := congrArg List.length h
  rw [List.length_append] at this
  omega
theorem addN_mem {l : List Rul} {r n : Rul} (h : n ∈ addN l r) : n ∈ l ∨ normR r = some n := by
  unfold addN at h
  cases hN : normR r with
  | none => rw [hN] at h; exact .inl h
  | some m =>
    rw [hN] at h
    dsimp only at h
    split at h
    · exact .inl h
    · rcases List.mem_append.1 h with h | h
      · exact .inl h
      · rw [List.mem_singleton.1 h]; exact .inr rfl
theorem fold_mem : ∀ (rs l : List Rul) {n : Rul}, n ∈ rs.foldl addN l → n ∈ l ∨ ∃ r ∈ rs, normR r = some n
  | [], _, _, h => .inl h
  | r :: rs, l, n, h => by
    rcases fold_mem rs _ h with h | ⟨x, hx, h⟩
    · rcases addN_mem h with h | h
      · exact .inl h
      · exact .inr ⟨r, .head _, h⟩
    · exact .inr ⟨x, .tail _ hx, h⟩
theorem gOf_mem {s : ByteArray} {rs : List Rul} {n : Rul} (h : n ∈ gOf s rs) : n.name = s ∧ ∃ r ∈ rs, normR r = some n := by
  rw [gOf_filter] at h
  rcases fold_mem _ _ h with h | ⟨r, hr, h⟩
  · cases h
  · obtain ⟨h1, h2⟩ := List.mem_filter.1 hr
    exact ⟨(normR_conds h).2.1.trans (keyB_eq.1 h2).symm, r, h1, h⟩
theorem mem_cutL {d : A2} {l : List Rul} {x : Rul} (h : x ∈ cutL d l) : x ∈ l := by
  obtain ⟨t, ht⟩ := cutL_front d l
  rw [ht]; exact List.mem_append_left _ h
theorem out_mem {d : A2} {rs : List Rul} {N : List (List UInt8)} {n : Rul} (h : n ∈ outR d (groupsOf rs) N) : ∃ r ∈ rs, normR r = some n := by
  unfold outR at h
  obtain ⟨z, hz, h⟩ := List.mem_flatMap.1 h
  have := mem_cutL h
  rw [gget_groups] at this
  exact (gOf_mem this).2
theorem flat_one {X : List Rul} {z0 : List UInt8} : ∀ {N : List (List UInt8)}, N.Pairwise RS → N.flatMap (fun z => if z = z0 then X else []) = if z0 ∈ N then X else []
  | [], _ => by simp
  | z :: N, h => by
    rw [List.pairwise_cons] at h
    rw [List.flatMap_cons, flat_one h.2]
    by_cases hz : z = z0
    · subst hz
      have : z ∉ N := fun hm => RS_irr z (h.1 z hm)
      simp [this]
    · rw [if_neg hz, List.nil_append]
      simp [Ne.symm hz]
theorem filter_flat (s : ByteArray) (F : List UInt8 → List Rul) : ∀ N : List (List UInt8), (N.flatMap F).filter (fun r => keyB s r.name) = N.flatMap fun z => (F z).filter fun r => keyB s r.name
  | [] => rfl
  | z :: N => by rw [List.flatMap_cons, List.filter_append, filter_flat s F N, List.flatMap_cons]
theorem gOf_out (d : A2) (rs : List Rul) (s : ByteArray) : gOf s (outR d (groupsOf rs) (keysOf (groupsOf rs))) = cutL d (gOf s rs) := by
  rw [gOf_filter]
  unfold outR
  rw [filter_flat]
  have e : (fun z : List UInt8 => (cutL d (gget (groupsOf rs) ⟨z.toArray⟩)).filter fun r => keyB s r.name) = fun z => if z = s.data.toList then cutL d (gOf s rs) else [] := by
    funext z
    rw [gget_groups]
    by_cases hz : z = s.data.toList
    · subst hz
      rw [if_pos rfl]
      have es : (⟨s.data.toList.toArray⟩ : ByteArray) = s := by obtain ⟨⟨a⟩⟩ := s; rfl
      rw [es, List.filter_eq_self]
      intro n hn
      rw [(gOf_mem (mem_cutL hn)).1]; exact keyB_refl s
    · rw [if_neg hz, List.filter_eq_nil_iff]
      intro n hn hk
      have := (gOf_mem (mem_cutL hn)).1
      rw [this] at hk
      exact hz (by rw [keyB_eq.1 hk])
  rw [e, flat_one (keys_strict (groups_nodup rs))]
  have hg : GoodG (cutL d (gOf s rs)) := by
    obtain ⟨t, ht⟩ := cutL_front d (gOf s rs)
    have := gOf_good s rs
    rw [ht] at this
    exact good_front this
  by_cases hm : s.data.toList ∈ keysOf (groupsOf rs)
  · rw [if_pos hm]; exact good_fold hg
  · rw [if_neg hm]
    have : gget (groupsOf rs) s = [] := by
      by_cases h : gget (groupsOf rs) s = []
      · exact h
      · exact absurd (keys_memK16.2 (gget_mem h)) hm
    rw [gget_groups] at this
    rw [this]; rfl
/-- A normal form has no more rules. -/
def totL (H : List (ByteArray × List Rul)) : Nat := (H.map fun h => h.2.length).sum
theorem gadd_tot {t : ByteArray} {n : Rul} : ∀ H : List (ByteArray × List Rul), totL (gadd H t n) = totL H + 1
  | [] => rfl
  | h :: H => by
    unfold gadd
    by_cases ht : keyB t h.1 = true
    · rw [if_pos ht]; unfold totL; simp; omega
    · rw [if_neg ht]
      have := gadd_tot (t := t) (n := n) H
      unfold totL at this ⊢
      rw [List.map_cons, List.sum_cons, this, List.map_cons, List.sum_cons]; omega
theorem gstep_tot {H : List (ByteArray × List Rul)} {r : Rul} : totL (gstep H r) ≤ totL H + 1 := by
  unfold gstep
  cases normR r with
  | none => exact Nat.le_succ _
  | some n =>
    dsimp only
    split
    · exact Nat.le_succ _
    · rw [gadd_tot]; exact Nat.le_refl _
theorem groups_tot (rs : List Rul) : totL (groupsOf rs) ≤ rs.length := by
  have key : ∀ (rs : List Rul) (H : List (ByteArray × List Rul)), totL (rs.foldl gstep H) ≤ totL H + rs.length := by
    intro rs
    induction rs with
    | nil => intro H; exact Nat.le_refl _
    | cons r rs ih =>
      intro H
      have h1 := ih (gstep H r)
      have h2 := gstep_tot (H := H) (r := r)
      rw [List.foldl_cons, List.length_cons]; omega
  have := key rs []
  rw [show totL [] = 0 from rfl, Nat.zero_add] at this
  exact this
theorem gget_key : ∀ {H : List (ByteArray × List Rul)}, (H.map (·.1)).Nodup → ∀ h ∈ H, gget H h.1 = h.2
  | [], _, _, hm => by cases hm
  | g :: H, hn, h, hm => by
    rw [List.map_cons, List.nodup_cons] at hn
    rcases List.mem_cons.1 hm with rfl | hm
    · exact if_pos (keyB_refl _)
    · have : ¬ keyB h.1 g.1 = true := fun hk => hn.1 (by rw [← keyB_eq.1 hk]; exact List.mem_map_of_mem hm)
      show (if keyB h.1 g.1 = true then g.2 else gget H h.1) = _
      rw [if_neg this]; exact gget_key hn.2 h hm
theorem out_len (d : A2) (rs : List Rul) : (outR d (groupsOf rs) (keysOf (groupsOf rs))).length ≤ rs.length := by
  refine Nat.le_trans ?_ (groups_tot rs)
  have hn := groups_nodup rs
  generalize groupsOf rs = H at hn
  unfold outR
  have hp : (keysOf H).Perm (H.map fun h => h.1.data.toList) := List.mergeSort_perm _ _
  rw [List.length_flatMap, (hp.map _).sum_nat, List.map_map]
  unfold totL
  have e : ∀ h ∈ H, ((fun a : List UInt8 => (cutL d (gget H ⟨a.toArray⟩)).length) ∘ fun h : ByteArray × List Rul => h.1.data.toList) h ≤ h.2.length := fun h hh => by
    show (cutL d (gget H ⟨h.1.data.toList.toArray⟩)).length ≤ _
    have es : (⟨h.1.data.toList.toArray⟩ : ByteArray) = h.1 := by obtain ⟨⟨⟨a⟩⟩, b⟩ := h; rfl
    rw [es, gget_key hn h hh]
    exact cutL_le d h.2
  clear hp hn
  generalize (fun a : List UInt8 => (cutL d (gget H ⟨a.toArray⟩)).length) ∘ (fun h : ByteArray × List Rul => h.1.data.toList) = f at e
  induction H with
  | nil => simp
  | cons h H ih =>
    rw [List.map_cons, List.sum_cons, List.map_cons, List.sum_cons]
    have h1 := e h (.head _)
    have h2 := ih fun x hx => e x (.tail _ hx)
    omega
theorem norm_right {p : Pol} (h : rightP p = true) : rightP (normP p) = true := by
  unfold rightP at h ⊢
  simp only [Bool.and_eq_true, decide_eq_true_eq, Bool.not_eq_true', List.any_eq_false] at h ⊢
  have hl := out_len p.dflt p.rules
  refine ⟨h.1, Nat.le_trans hl h.2.1, fun n hn => ?_⟩
  obtain ⟨r, hr, hN⟩ := out_mem hn
  have h2 := h.2.2 r hr
  have : rightR r = true := by simpa using h2
  rw [(normR_again hN).2.1 this]; decide
end Go.Proofs.W

namespace Go.Proofs.W
open Go.Vl
set_option maxRecDepth 100000

/-- A row of a table. -/
structure TRow where
  name : ByteArray
  a0 : Int
  a1 : Int
  a2 : Int
  a3 : Int
  a4 : Int
  mux : Int
  sub : Int
def TRow.num (r : TRow) : Nat → Int
  | 0 => r.a0
  | 1 => r.a1
  | 2 => r.a2
  | 3 => r.a3
  | _ => r.a4
def trow0 : TRow := ⟨⟨#[]⟩, 0, 0, 0, 0, 0, 0, 0⟩
def trowC (r : TRow) : List AV := [strA r.name, int r.a0, int r.a1, int r.a2, int r.a3, int r.a4, int r.mux, int r.sub]
def trowA (r : TRow) : AV := .ag (trowC r)
def trows (l : List TRow) : AV := slOf 8 trowA trow0 l
def arr5 (r : TRow) : AV := .ag [int r.a0, int r.a1, int r.a2, int r.a3, int r.a4]
theorem pairT : PairT Tryz.prog 175 3 := ⟨by kernel_rfl, by kernel_rfl, by kernel_rfl, by kernel_rfl, fun _ => rfl, fun _ => rfl, fun _ _ => rfl⟩
theorem z_boolT : (Tryz.prog.info? 4).bind (·.zero) = some (.bool false) := by kernel_rfl
theorem met_spec (s nx nn : Nat) (es : List (Int × Int)) (a n : Int) :
    ECall Tryz.prog 58 [.om (0, s), int a, int n] ⟨[((0, s), .mp (es.map entA))], [], nx, 1⟩ fun r h' => ∃ nx' nn', r = boolA (decide ((a, n) ∈ es)) ∧ h' = ⟨[((0, s), .mp ((addA (a, n) es).map entA))], [], nx', nn'⟩ := by
  refine ECall.wk (ecall_of_aw Tryz.func58 rfl rfl ?_)
  ((repeat((conv=>whnf);first|apply ω0|apply ω2|refine τ3 rfl ?_|refine τ4 rfl ?_|refine ⟨rfl,?_⟩|apply τa|refine τb rfl ?_|refine ⟨⟨by kernel_rfl,by kernel_rfl⟩,?_⟩|refine ⟨by decide,?_⟩|apply τt|apply τf)); refine aw_region ?_; (repeat((conv=>whnf);first|apply ω0|apply ω2|refine τ3 rfl ?_|refine τ4 rfl ?_|refine ⟨rfl,?_⟩|apply τa|refine τb rfl ?_|refine ⟨⟨by kernel_rfl,by kernel_rfl⟩,?_⟩|refine ⟨by decide,?_⟩|apply τt|apply τf)); refine aw_region ?_; (repeat((conv=>whnf);first|apply ω0|apply ω2|refine τ3 rfl ?_|refine τ4 rfl ?_|refine ⟨rfl,?_⟩|apply τa|refine τb rfl ?_|refine ⟨⟨by kernel_rfl,by kernel_rfl⟩,?_⟩|refine ⟨by decide,?_⟩|apply τt|apply τf)))
  refine AW.le (E' := mk 18 [(0, .om (0, s)), (6, boolA false), (7, .bp (1, nx) 0)] ⟨[((1, nx), .c [int a, int n]), ((0, s), .mp (es.map entA))], [], nx + 1, 2⟩) (ele_tell (pm := []) _ [] rfl rfl (List.Sublist.refl _) (List.Sublist.refl _) (BxLe.refl _) trivial ⟨AVle.refl _, AVle.refl _, AVle.refl _, trivial⟩) ?_
  (repeat((conv=>whnf);first|apply ω0|apply ω2|refine τ3 rfl ?_|refine τ4 rfl ?_|refine ⟨rfl,?_⟩|apply τa|refine τb rfl ?_|refine ⟨⟨by kernel_rfl,by kernel_rfl⟩,?_⟩|refine ⟨by decide,?_⟩|apply τt|apply τf))
  refine aw_regionY (fun i => match i with | 0 => true | _ => false) 3 ?_
  (repeat((conv=>whnf);first|apply ω0|apply ω1|apply ω2|refine τ3 rfl ?_|refine τ4 rfl ?_|refine ⟨rfl,?_⟩|apply τa|refine τb rfl ?_|refine ⟨⟨by kernel_rfl,by kernel_rfl⟩,?_⟩|refine ⟨by decide,?_⟩|apply τt|apply τf))
  refine splitO_eq (b := kA (a, n)) rfl ?_
  (conv => whnf)
  refine aop_lookupA (x := (a, n)) (i := (0, s)) (es := es) rfl Tryz.underlying109 pairT z_boolT rfl rfl rfl ?_
  (repeat((conv=>whnf);first|apply ω0|apply ω2|refine τ3 rfl ?_|refine τ4 rfl ?_|refine ⟨rfl,?_⟩|apply τa|refine τb rfl ?_|refine ⟨⟨by kernel_rfl,by kernel_rfl⟩,?_⟩|refine ⟨by decide,?_⟩|apply τt|apply τf))
  refine aw_regionY (fun i => match i with | 0 => true | _ => false) 3 ?_
  (repeat((conv=>whnf);first|apply ω0|apply ω1|apply ω2|refine τ3 rfl ?_|refine τ4 rfl ?_|refine ⟨rfl,?_⟩|apply τa|refine τb rfl ?_|refine ⟨⟨by kernel_rfl,by kernel_rfl⟩,?_⟩|refine ⟨by decide,?_⟩|apply τt|apply τf))
  refine splitO_eq (b := kA (a, n)) rfl ?_
  (conv => whnf)
  refine AOp.any (aop_updateA (x := (a, n)) (i := (0, s)) (es := es) (.inl rfl) Tryz.underlying109 pairT rfl rfl rfl rfl ?_)
  (repeat((conv=>whnf);first|apply ω0|apply ω1|apply ω2|refine τ3 rfl ?_|refine τ4 rfl ?_|refine ⟨rfl,?_⟩|apply τa|refine τb rfl ?_|refine ⟨⟨by kernel_rfl,by kernel_rfl⟩,?_⟩|refine ⟨by decide,?_⟩|apply τt|apply τf))
  exact ret_is rfl ⟨_, ⟨[((0, s), .mp ((addA (a, n) es).map entA))], [], nx + 1, 1⟩, AVle.refl _, hle_tell _ _ rfl (.cons _ (List.Sublist.refl _)) (List.Sublist.refl _) (BxLe.refl _) (PmEq.refl _), _, _, rfl, rfl⟩
def badR (r : TRow) : Bool := [r.a0, r.a1, r.a2, r.a3, r.a4].any badN
def rangedR (r : TRow) : Bool := !badR r && (if r.mux = 0 then decide (r.sub = 0) else (decide (r.mux = 1) || decide (r.mux = 2)) && decide (1 ≤ r.sub) && decide (r.sub ≤ 255))
theorem ranged_spec (r : TRow) : Tells Tryz.prog 57 [trowA r] (boolA (rangedR r)) := by
  have hc := cntf_int [r.a0, r.a1, r.a2, r.a3, r.a4] badN 107 (by show 5 ≤ _; decide) (fun i _ => ranged1_spec _)
  unfold rangedR
  have hb : badR r = [r.a0, r.a1, r.a2, r.a3, r.a4].any badN := rfl
  rw [← hb] at hc
  generalize badR r = b at hc
  obtain ⟨nm, a0, a1, a2, a3, a4, mux, sub⟩ := r
  dsimp only at hc ⊢
  refine tells_of_aw Tryz.func57 rfl rfl fun nx => ?_
  ((repeat((conv=>whnf);first|apply ω0|apply ω2|refine τ3 rfl ?_|refine τ4 rfl ?_|refine ⟨rfl,?_⟩|apply τa|refine τb rfl ?_|refine ⟨⟨by kernel_rfl,by kernel_rfl⟩,?_⟩|refine ⟨by decide,?_⟩|apply τt|apply τf)); refine aw_region ?_; (repeat((conv=>whnf);first|apply ω0|apply ω2|refine τ3 rfl ?_|refine τ4 rfl ?_|refine ⟨rfl,?_⟩|apply τa|refine τb rfl ?_|refine ⟨⟨by kernel_rfl,by kernel_rfl⟩,?_⟩|refine ⟨by decide,?_⟩|apply τt|apply τf)))
  refine aw_freeze (n := 30) (nx := nx + 1) (nn := 1) (pm := []) (bx := []) (L := [(1, .rp [strA nm, int a0, int a1, int a2, int a3, int a4, int mux, int sub])]) (df := some []) [((0, nx), .c [strA nm, int a0, int a1, int a2, int a3, int a4, int mux, int sub])] rfl rfl rfl (List.Perm.refl _) (List.Sublist.refl _) ⟨Frz.bp (.head _) rfl, trivial⟩ ?_
  refine aw_regionY (fun n => match n with | 0 => true | _ => false) 2 ?_
  (repeat((conv=>whnf);first|apply ω0|apply ω1|apply ω2|refine τ3 rfl ?_|refine τ4 rfl ?_|refine ⟨rfl,?_⟩|apply τa|refine τb rfl ?_|refine ⟨⟨by kernel_rfl,by kernel_rfl⟩,?_⟩|refine ⟨by decide,?_⟩|apply τt|apply τf))
  refine aop_ahead (n := 5) (e := 3) (cs := [int a0, int a1, int a2, int a3, int a4, int mux, int sub]) rfl rfl Tryz.underlying74 Tryz.underlying3 (by kernel_rfl) (by decide) (by show 5 * 1 ≤ 7; decide) (by simp [int, AV.cells]) ?_
  (repeat((conv=>whnf);first|apply ω0|apply ω1|apply ω2|refine τ3 rfl ?_|refine τ4 rfl ?_|refine ⟨rfl,?_⟩|apply τa|refine τb rfl ?_|refine ⟨⟨by kernel_rfl,by kernel_rfl⟩,?_⟩|refine ⟨by decide,?_⟩|apply τt|apply τf))
  refine aop_tells rfl rfl hc ⟨AVle.sl_fun fun k hk => ?_, AVle.refl _, trivial⟩ fun nx1 => ?_
  · match k, hk with
    | 0, _ | 1, _ | 2, _ | 3, _ | 4, _ => rfl
  cases b
  · (repeat((conv=>whnf);first|apply ω0|apply ω1|apply ω2|refine τ3 rfl ?_|refine τ4 rfl ?_|refine ⟨rfl,?_⟩|apply τa|refine τb rfl ?_|refine ⟨⟨by kernel_rfl,by kernel_rfl⟩,?_⟩|refine ⟨by decide,?_⟩|apply τt|apply τf))
    intro c g; cases c
    · have g : ¬ mux = 0 := fun h => by subst h; simp at g
      rw [if_neg g]
      (repeat((conv=>whnf);first|apply ω0|apply ω1|apply ω2|refine τ3 rfl ?_|refine τ4 rfl ?_|refine ⟨rfl,?_⟩|apply τa|refine τb rfl ?_|refine ⟨⟨by kernel_rfl,by kernel_rfl⟩,?_⟩|refine ⟨by decide,?_⟩|apply τt|apply τf))
      intro c t1; cases c
      · have t1 : decide (mux = 1) = false := decide_eq_false (by simpa using t1.symm)
        rw [t1]
        (repeat((conv=>whnf);first|apply ω0|apply ω1|apply ω2|refine τ3 rfl ?_|refine τ4 rfl ?_|refine ⟨rfl,?_⟩|apply τa|refine τb rfl ?_|refine ⟨⟨by kernel_rfl,by kernel_rfl⟩,?_⟩|refine ⟨by decide,?_⟩|apply τt|apply τf))
        intro c t2; cases c
        · have t2 : decide (mux = 2) = false := decide_eq_false (by simpa using t2.symm)
          rw [t2]
          (repeat((conv=>whnf);first|apply ω0|apply ω1|apply ω2|refine τ3 rfl ?_|refine τ4 rfl ?_|refine ⟨rfl,?_⟩|apply τa|refine τb rfl ?_|refine ⟨⟨by kernel_rfl,by kernel_rfl⟩,?_⟩|refine ⟨by decide,?_⟩|apply τt|apply τf))
          exact ret_tells rfl (AVle.refl _)
        · have t2 : decide (mux = 2) = true := decide_eq_true (by simpa using t2.symm)
          rw [t2]
          (repeat((conv=>whnf);first|apply ω0|apply ω1|apply ω2|refine τ3 rfl ?_|refine τ4 rfl ?_|refine ⟨rfl,?_⟩|apply τa|refine τb rfl ?_|refine ⟨⟨by kernel_rfl,by kernel_rfl⟩,?_⟩|refine ⟨by decide,?_⟩|apply τt|apply τf))
          intro c t3; cases c
          · (repeat((conv=>whnf);first|apply ω0|apply ω1|apply ω2|refine τ3 rfl ?_|refine τ4 rfl ?_|refine ⟨rfl,?_⟩|apply τa|refine τb rfl ?_|refine ⟨⟨by kernel_rfl,by kernel_rfl⟩,?_⟩|refine ⟨by decide,?_⟩|apply τt|apply τf))
            exact ret_tells rfl (le_bool (by rw [show decide (1 ≤ sub) = false from t3.symm]; rfl))
          · (repeat((conv=>whnf);first|apply ω0|apply ω1|apply ω2|refine τ3 rfl ?_|refine τ4 rfl ?_|refine ⟨rfl,?_⟩|apply τa|refine τb rfl ?_|refine ⟨⟨by kernel_rfl,by kernel_rfl⟩,?_⟩|refine ⟨by decide,?_⟩|apply τt|apply τf))
            intro c t4; cases c
            all_goals
              (repeat((conv=>whnf);first|apply ω0|apply ω1|apply ω2|refine τ3 rfl ?_|refine τ4 rfl ?_|refine ⟨rfl,?_⟩|apply τa|refine τb rfl ?_|refine ⟨⟨by kernel_rfl,by kernel_rfl⟩,?_⟩|refine ⟨by decide,?_⟩|apply τt|apply τf))
              exact ret_tells rfl (le_bool (t4.trans (by rw [show decide (1 ≤ sub) = true from t3.symm]; rfl)))
      · have t1 : decide (mux = 1) = true := decide_eq_true (by simpa using t1.symm)
        rw [t1]
        (repeat((conv=>whnf);first|apply ω0|apply ω1|apply ω2|refine τ3 rfl ?_|refine τ4 rfl ?_|refine ⟨rfl,?_⟩|apply τa|refine τb rfl ?_|refine ⟨⟨by kernel_rfl,by kernel_rfl⟩,?_⟩|refine ⟨by decide,?_⟩|apply τt|apply τf))
        intro c t3; cases c
        · (repeat((conv=>whnf);first|apply ω0|apply ω1|apply ω2|refine τ3 rfl ?_|refine τ4 rfl ?_|refine ⟨rfl,?_⟩|apply τa|refine τb rfl ?_|refine ⟨⟨by kernel_rfl,by kernel_rfl⟩,?_⟩|refine ⟨by decide,?_⟩|apply τt|apply τf))
          exact ret_tells rfl (le_bool (by rw [show decide (1 ≤ sub) = false from t3.symm]; rfl))
        · (repeat((conv=>whnf);first|apply ω0|apply ω1|apply ω2|refine τ3 rfl ?_|refine τ4 rfl ?_|refine ⟨rfl,?_⟩|apply τa|refine τb rfl ?_|refine ⟨⟨by kernel_rfl,by kernel_rfl⟩,?_⟩|refine ⟨by decide,?_⟩|apply τt|apply τf))
          intro c t4; cases c
          all_goals
            (repeat((conv=>whnf);first|apply ω0|apply ω1|apply ω2|refine τ3 rfl ?_|refine τ4 rfl ?_|refine ⟨rfl,?_⟩|apply τa|refine τb rfl ?_|refine ⟨⟨by kernel_rfl,by kernel_rfl⟩,?_⟩|refine ⟨by decide,?_⟩|apply τt|apply τf))
            exact ret_tells rfl (le_bool (t4.trans (by rw [show decide (1 ≤ sub) = true from t3.symm]; rfl)))
    · have g : mux = 0 := by simpa using g.symm
      rw [if_pos g]
      (repeat((conv=>whnf);first|apply ω0|apply ω1|apply ω2|refine τ3 rfl ?_|refine τ4 rfl ?_|refine ⟨rfl,?_⟩|apply τa|refine τb rfl ?_|refine ⟨⟨by kernel_rfl,by kernel_rfl⟩,?_⟩|refine ⟨by decide,?_⟩|apply τt|apply τf))
      intro c h; cases c
      all_goals
        (repeat((conv=>whnf);first|apply ω0|apply ω1|apply ω2|refine τ3 rfl ?_|refine τ4 rfl ?_|refine ⟨rfl,?_⟩|apply τa|refine τb rfl ?_|refine ⟨⟨by kernel_rfl,by kernel_rfl⟩,?_⟩|refine ⟨by decide,?_⟩|apply τt|apply τf))
        exact ret_tells rfl (le_bool (h.trans (by rw [Bool.eq_iff_iff]; simp)))
  · (repeat((conv=>whnf);first|apply ω0|apply ω1|apply ω2|refine τ3 rfl ?_|refine τ4 rfl ?_|refine ⟨rfl,?_⟩|apply τa|refine τb rfl ?_|refine ⟨⟨by kernel_rfl,by kernel_rfl⟩,?_⟩|refine ⟨by decide,?_⟩|apply τt|apply τf))
    exact ret_tells rfl (le_bool (by simp))
end Go.Proofs.W

namespace Go.Proofs.W
open Go.Vl
set_option maxRecDepth 100000

/-- A way of calling. -/
structure Inf where
  name : ByteArray
  token : Nat
  bit : Bool
  bits : Int
def inf0 : Inf := ⟨⟨#[]⟩, 0, false, 0⟩
def infC (i : Inf) : List AV := [strA i.name, u32 i.token, boolA i.bit, int i.bits]
def infA (i : Inf) : AV := .ag (infC i)
def infL : List Inf := [⟨⟨#[120, 56, 54, 95, 54, 52]⟩, 3221225534, false, 64⟩, ⟨⟨#[120, 51, 50]⟩, 3221225534, true, 64⟩, ⟨⟨#[105, 51, 56, 54]⟩, 1073741827, false, 32⟩, ⟨⟨#[97, 114, 109, 54, 52]⟩, 3221225655, false, 64⟩, ⟨⟨#[114, 105, 115, 99, 118, 54, 52]⟩, 3221225715, false, 64⟩]
def infN : List (Nat × Inf) := [(0, infL.getD 0 inf0), (1, infL.getD 1 inf0), (2, infL.getD 2 inf0), (3, infL.getD 3 inf0), (4, infL.getD 4 inf0)]
def infE (p : Nat × Inf) : List AV := [int p.1, infA p.2]
def infAll : AV := .ag (infL.flatMap infC)
theorem rows_iter : IterSpec Tryz.prog 157 [] [] infE infN := by
  intro i σ Cb Cp I J hc s0 nx nn h0
  refine ECall.wk (ecall_of_aw Tryz.func157 rfl rfl ?_)
  refine AW.le (E' := mk 22 [(0, .yl i)] ⟨Cb s0, Cp s0, nx, 0⟩) (ele_tell (bx := Cb s0) (pm := Cp s0) _ _ rfl rfl (List.Sublist.refl _) (List.Sublist.refl _) (BxLe.refl _) (PmEq.refl _) ⟨AVle.refl _, trivial⟩) ?_
  (repeat((conv=>whnf);first|apply ω0|apply ω1|apply ω2|refine τ3 rfl ?_|refine τ4 rfl ?_|refine ⟨rfl,?_⟩|apply τa|refine τb rfl ?_|refine ⟨⟨by kernel_rfl,by kernel_rfl⟩,?_⟩|refine ⟨by decide,?_⟩|apply τt|apply τf))
  refine AW.le (E' := mk 22 [(0, .yl i), (11, infAll), (12, int 0)] ⟨Cb s0, Cp s0, nx + 1, 0⟩) (ele_tell (bx := Cb s0) (pm := Cp s0) _ _ rfl rfl (.cons _ (List.Sublist.refl _)) (List.Sublist.refl _) (BxLe.refl _) (PmEq.refl _) ⟨AVle.refl _, AVle.refl _, AVle.refl _, trivial⟩) ?_
  refine aw_loop (fun y : Nat × σ × Nat => mk 22 [(0, .yl i), (11, infAll), (12, int y.1)] ⟨Cb y.2.1, Cp y.2.1, y.2.2, 0⟩) (fun y => y.1 ≤ 5 ∧ I (infN.take y.1) y.2.1) (fun y => 5 - y.1) ?_ ?_
  · exact ⟨(0, s0, nx + 1), ⟨Nat.zero_le _, h0⟩, ele_tell _ _ rfl rfl (List.Sublist.refl _) (List.Sublist.refl _) (BxLe.refl _) (PmEq.refl _) ⟨AVle.refl _, AVle.refl _, AVle.refl _, trivial⟩⟩
  · rintro ⟨k, s, nx1⟩ ⟨hk, hI⟩
    dsimp only at hk hI
    rcases k with _ | _ | _ | _ | _ | _ | k
    · (repeat((conv=>whnf);first|apply ω0|apply ω1|apply ω2|refine τ3 rfl ?_|refine τ4 rfl ?_|refine ⟨rfl,?_⟩|apply τa|refine τb rfl ?_|refine ⟨⟨by kernel_rfl,by kernel_rfl⟩,?_⟩|refine ⟨by decide,?_⟩|apply τt|apply τf))
      refine aop_hand [((0, nx1), .c (infC (infL.getD 0 inf0)))] [] rfl rfl rfl hc (show infN = infN.take 0 ++ (0, infL.getD 0 inf0) :: infN.drop (0 + 1) from rfl) hI ⟨AVle.refl _, AVle.refl _, trivial⟩ (fun s' nx' hI' => ?_) (fun s' nx' hJ => ?_)
      · (repeat((conv=>whnf);first|apply ω0|apply ω1|apply ω2|refine τ3 rfl ?_|refine τ4 rfl ?_|refine ⟨rfl,?_⟩|apply τa|refine τb rfl ?_|refine ⟨⟨by kernel_rfl,by kernel_rfl⟩,?_⟩|refine ⟨by decide,?_⟩|apply τt|apply τf))
        exact back (0 + 1, s', nx') ⟨by dsimp only; omega, hI'⟩ (by dsimp only; omega) (ele_tell _ _ rfl rfl (.cons _ (List.Sublist.refl _)) (List.Sublist.refl _) (BxLe.refl _) (PmEq.refl _) ⟨AVle.refl _, AVle.refl _, AVle.refl _, trivial⟩)
      · (repeat((conv=>whnf);first|apply ω0|apply ω1|apply ω2|refine τ3 rfl ?_|refine τ4 rfl ?_|refine ⟨rfl,?_⟩|apply τa|refine τb rfl ?_|refine ⟨⟨by kernel_rfl,by kernel_rfl⟩,?_⟩|refine ⟨by decide,?_⟩|apply τt|apply τf))
        exact ret_is rfl ⟨_, ⟨Cb s', Cp s', nx', 0⟩, AVle.refl _, hle_tell _ _ rfl (.cons _ (List.Sublist.refl _)) (List.Sublist.refl _) (BxLe.refl _) (PmEq.refl _), s', .inr ⟨_, _, _, rfl, hJ⟩, rfl, rfl⟩
    · (repeat((conv=>whnf);first|apply ω0|apply ω1|apply ω2|refine τ3 rfl ?_|refine τ4 rfl ?_|refine ⟨rfl,?_⟩|apply τa|refine τb rfl ?_|refine ⟨⟨by kernel_rfl,by kernel_rfl⟩,?_⟩|refine ⟨by decide,?_⟩|apply τt|apply τf))
      refine aop_hand [((0, nx1), .c (infC (infL.getD 1 inf0)))] [] rfl rfl rfl hc (show infN = infN.take 1 ++ (1, infL.getD 1 inf0) :: infN.drop (1 + 1) from rfl) hI ⟨AVle.refl _, AVle.refl _, trivial⟩ (fun s' nx' hI' => ?_) (fun s' nx' hJ => ?_)
      · (repeat((conv=>whnf);first|apply ω0|apply ω1|apply ω2|refine τ3 rfl ?_|refine τ4 rfl ?_|refine ⟨rfl,?_⟩|apply τa|refine τb rfl ?_|refine ⟨⟨by kernel_rfl,by kernel_rfl⟩,?_⟩|refine ⟨by decide,?_⟩|apply τt|apply τf))
        exact back (1 + 1, s', nx') ⟨by dsimp only; omega, hI'⟩ (by dsimp only; omega) (ele_tell _ _ rfl rfl (.cons _ (List.Sublist.refl _)) (List.Sublist.refl _) (BxLe.refl _) (PmEq.refl _) ⟨AVle.refl _, AVle.refl _, AVle.refl _, trivial⟩)
      · (repeat((conv=>whnf);first|apply ω0|apply ω1|apply ω2|refine τ3 rfl ?_|refine τ4 rfl ?_|refine ⟨rfl,?_⟩|apply τa|refine τb rfl ?_|refine ⟨⟨by kernel_rfl,by kernel_rfl⟩,?_⟩|refine ⟨by decide,?_⟩|apply τt|apply τf))
        exact ret_is rfl ⟨_, ⟨Cb s', Cp s', nx', 0⟩, AVle.refl _, hle_tell _ _ rfl (.cons _ (List.Sublist.refl _)) (List.Sublist.refl _) (BxLe.refl _) (PmEq.refl _), s', .inr ⟨_, _, _, rfl, hJ⟩, rfl, rfl⟩
    · (repeat((conv=>whnf);first|apply ω0|apply ω1|apply ω2|refine τ3 rfl ?_|refine τ4 rfl ?_|refine ⟨rfl,?_⟩|apply τa|refine τb rfl ?_|refine ⟨⟨by kernel_rfl,by kernel_rfl⟩,?_⟩|refine ⟨by decide,?_⟩|apply τt|apply τf))
      refine aop_hand [((0, nx1), .c (infC (infL.getD 2 inf0)))] [] rfl rfl rfl hc (show infN = infN.take 2 ++ (2, infL.getD 2 inf0) :: infN.drop (2 + 1) from rfl) hI ⟨AVle.refl _, AVle.refl _, trivial⟩ (fun s' nx' hI' => ?_) (fun s' nx' hJ => ?_)
      · (repeat((conv=>whnf);first|apply ω0|apply ω1|apply ω2|refine τ3 rfl ?_|refine τ4 rfl ?_|refine ⟨rfl,?_⟩|apply τa|refine τb rfl ?_|refine ⟨⟨by kernel_rfl,by kernel_rfl⟩,?_⟩|refine ⟨by decide,?_⟩|apply τt|apply τf))
        exact back (2 + 1, s', nx') ⟨by dsimp only; omega, hI'⟩ (by dsimp only; omega) (ele_tell _ _ rfl rfl (.cons _ (List.Sublist.refl _)) (List.Sublist.refl _) (BxLe.refl _) (PmEq.refl _) ⟨AVle.refl _, AVle.refl _, AVle.refl _, trivial⟩)
      · (repeat((conv=>whnf);first|apply ω0|apply ω1|apply ω2|refine τ3 rfl ?_|refine τ4 rfl ?_|refine ⟨rfl,?_⟩|apply τa|refine τb rfl ?_|refine ⟨⟨by kernel_rfl,by kernel_rfl⟩,?_⟩|refine ⟨by decide,?_⟩|apply τt|apply τf))
        exact ret_is rfl ⟨_, ⟨Cb s', Cp s', nx', 0⟩, AVle.refl _, hle_tell _ _ rfl (.cons _ (List.Sublist.refl _)) (List.Sublist.refl _) (BxLe.refl _) (PmEq.refl _), s', .inr ⟨_, _, _, rfl, hJ⟩, rfl, rfl⟩
    · (repeat((conv=>whnf);first|apply ω0|apply ω1|apply ω2|refine τ3 rfl ?_|refine τ4 rfl ?_|refine ⟨rfl,?_⟩|apply τa|refine τb rfl ?_|refine ⟨⟨by kernel_rfl,by kernel_rfl⟩,?_⟩|refine ⟨by decide,?_⟩|apply τt|apply τf))
      refine aop_hand [((0, nx1), .c (infC (infL.getD 3 inf0)))] [] rfl rfl rfl hc (show infN = infN.take 3 ++ (3, infL.getD 3 inf0) :: infN.drop (3 + 1) from rfl) hI ⟨AVle.refl _, AVle.refl _, trivial⟩ (fun s' nx' hI' => ?_) (fun s' nx' hJ => ?_)
      · (repeat((conv=>whnf);first|apply ω0|apply ω1|apply ω2|refine τ3 rfl ?_|refine τ4 rfl ?_|refine ⟨rfl,?_⟩|apply τa|refine τb rfl ?_|refine ⟨⟨by kernel_rfl,by kernel_rfl⟩,?_⟩|refine ⟨by decide,?_⟩|apply τt|apply τf))
        exact back (3 + 1, s', nx') ⟨by dsimp only; omega, hI'⟩ (by dsimp only; omega) (ele_tell _ _ rfl rfl (.cons _ (List.Sublist.refl _)) (List.Sublist.refl _) (BxLe.refl _) (PmEq.refl _) ⟨AVle.refl _, AVle.refl _, AVle.refl _, trivial⟩)
      · (repeat((conv=>whnf);first|apply ω0|apply ω1|apply ω2|refine τ3 rfl ?_|refine τ4 rfl ?_|refine ⟨rfl,?_⟩|apply τa|refine τb rfl ?_|refine ⟨⟨by kernel_rfl,by kernel_rfl⟩,?_⟩|refine ⟨by decide,?_⟩|apply τt|apply τf))
        exact ret_is rfl ⟨_, ⟨Cb s', Cp s', nx', 0⟩, AVle.refl _, hle_tell _ _ rfl (.cons _ (List.Sublist.refl _)) (List.Sublist.refl _) (BxLe.refl _) (PmEq.refl _), s', .inr ⟨_, _, _, rfl, hJ⟩, rfl, rfl⟩
    · (repeat((conv=>whnf);first|apply ω0|apply ω1|apply ω2|refine τ3 rfl ?_|refine τ4 rfl ?_|refine ⟨rfl,?_⟩|apply τa|refine τb rfl ?_|refine ⟨⟨by kernel_rfl,by kernel_rfl⟩,?_⟩|refine ⟨by decide,?_⟩|apply τt|apply τf))
      refine aop_hand [((0, nx1), .c (infC (infL.getD 4 inf0)))] [] rfl rfl rfl hc (show infN = infN.take 4 ++ (4, infL.getD 4 inf0) :: infN.drop (4 + 1) from rfl) hI ⟨AVle.refl _, AVle.refl _, trivial⟩ (fun s' nx' hI' => ?_) (fun s' nx' hJ => ?_)
      · (repeat((conv=>whnf);first|apply ω0|apply ω1|apply ω2|refine τ3 rfl ?_|refine τ4 rfl ?_|refine ⟨rfl,?_⟩|apply τa|refine τb rfl ?_|refine ⟨⟨by kernel_rfl,by kernel_rfl⟩,?_⟩|refine ⟨by decide,?_⟩|apply τt|apply τf))
        exact back (4 + 1, s', nx') ⟨by dsimp only; omega, hI'⟩ (by dsimp only; omega) (ele_tell _ _ rfl rfl (.cons _ (List.Sublist.refl _)) (List.Sublist.refl _) (BxLe.refl _) (PmEq.refl _) ⟨AVle.refl _, AVle.refl _, AVle.refl _, trivial⟩)
      · (repeat((conv=>whnf);first|apply ω0|apply ω1|apply ω2|refine τ3 rfl ?_|refine τ4 rfl ?_|refine ⟨rfl,?_⟩|apply τa|refine τb rfl ?_|refine ⟨⟨by kernel_rfl,by kernel_rfl⟩,?_⟩|refine ⟨by decide,?_⟩|apply τt|apply τf))
        exact ret_is rfl ⟨_, ⟨Cb s', Cp s', nx', 0⟩, AVle.refl _, hle_tell _ _ rfl (.cons _ (List.Sublist.refl _)) (List.Sublist.refl _) (BxLe.refl _) (PmEq.refl _), s', .inr ⟨_, _, _, rfl, hJ⟩, rfl, rfl⟩
    · (repeat((conv=>whnf);first|apply ω0|apply ω1|apply ω2|refine τ3 rfl ?_|refine τ4 rfl ?_|refine ⟨rfl,?_⟩|apply τa|refine τb rfl ?_|refine ⟨⟨by kernel_rfl,by kernel_rfl⟩,?_⟩|refine ⟨by decide,?_⟩|apply τt|apply τf))
      exact ret_is rfl ⟨_, ⟨Cb s, Cp s, nx1, 0⟩, AVle.refl _, HLe.refl _, s, .inl hI, rfl, rfl⟩
    · omega
theorem abirows_spec : Tells Tryz.prog 108 [] (.fn (.func 157) [] []) := by
  refine tells_of_aw Tryz.func108 rfl rfl fun nx => ?_
  (repeat((conv=>whnf);first|apply ω0|apply ω1|apply ω2|refine τ3 rfl ?_|refine τ4 rfl ?_|refine ⟨rfl,?_⟩|apply τa|refine τb rfl ?_|refine ⟨⟨by kernel_rfl,by kernel_rfl⟩,?_⟩|refine ⟨by decide,?_⟩|apply τt|apply τf))
  exact ret_tells rfl (AVle.refl _)
theorem inf_cases {pre post : List (Nat × Inf)} {x : Nat × Inf} (h : infN = pre ++ x :: post) : (pre = infN.take 0 ∧ x = (0, infL.getD 0 inf0)) ∨ (pre = infN.take 1 ∧ x = (1, infL.getD 1 inf0)) ∨ (pre = infN.take 2 ∧ x = (2, infL.getD 2 inf0)) ∨ (pre = infN.take 3 ∧ x = (3, infL.getD 3 inf0)) ∨ (pre = infN.take 4 ∧ x = (4, infL.getD 4 inf0)) := by
  have hl : pre.length < 5 := by have := congrArg List.length h; simp [infN] at this; omega
  have hp : pre = infN.take pre.length := by rw [h]; simp
  have hx : infN[pre.length]? = some x := by rw [h]; simp
  rcases (by omega : pre.length = 0 ∨ pre.length = 1 ∨ pre.length = 2 ∨ pre.length = 3 ∨ pre.length = 4) with e | e | e | e | e
  all_goals rw [e] at hp hx
  · exact .inl ⟨hp, (Option.some.inj hx).symm⟩
  · exact .inr (.inl ⟨hp, (Option.some.inj hx).symm⟩)
  · exact .inr (.inr (.inl ⟨hp, (Option.some.inj hx).symm⟩))
  · exact .inr (.inr (.inr (.inl ⟨hp, (Option.some.inj hx).symm⟩)))
  · exact .inr (.inr (.inr (.inr ⟨hp, (Option.some.inj hx).symm⟩)))
def withB (num : Nat) : Bool := decide (num &&& 1073741824 ≠ 0) && decide (num ≠ 4294967295)
def selB (arch : Nat) (w : Bool) (x : Nat × Inf) : Bool := decide (x.2.token = arch) && ((decide (x.1 ≠ 0) && decide (x.1 ≠ 1)) || (x.2.bit == w))
def selA (arch num : Nat) : AV := match infN.find? (selB arch (withB num)) with
  | some x => .tup [int x.1, boolA true]
  | none => .tup [int 0, boolA false]
theorem sel_none {arch num : Nat} (h : ∀ y ∈ infN, selB arch (withB num) y = false) : selA arch num = .tup [int 0, boolA false] := by
  unfold selA
  rw [List.find?_eq_none.2 (fun x hx => by rw [h x hx]; decide)]
theorem sel_some {arch num : Nat} {pre post : List (Nat × Inf)} {x : Nat × Inf} (hx : infN = pre ++ x :: post) (h : ∀ y ∈ pre, selB arch (withB num) y = false) (hs : selB arch (withB num) x = true) : selA arch num = .tup [int x.1, boolA true] := by
  unfold selA
  have : infN.find? (selB arch (withB num)) = some x := by
    rw [hx, List.find?_append, List.find?_eq_none.2 (fun y hy => by rw [h y hy]; decide), List.find?_cons, hs]; rfl
  rw [this]
theorem and32 {a b : Nat} (ha : a < 4294967296) (hb : b < 4294967296) : bitsI .and .u32 (a : Int) (b : Int) = ((a &&& b : Nat) : Int) :=
  bits_and (k := .u32) ha hb (by
    have : a &&& b ≤ a := Nat.and_le_left
    simp [IntKind.wrap, IntKind.signed, IntKind.bits] at this ⊢
    omega)
theorem sel_tok {arch : Nat} {w : Bool} {x : Nat × Inf} (h : false = ((x.2.token : Int) == (arch : Int))) : selB arch w x = false := by
  unfold selB
  rw [show decide (x.2.token = arch) = false from decide_eq_false (fun e => by rw [e] at h; simp at h)]; rfl
theorem sel_no {arch : Nat} {w : Bool} {x : Nat × Inf} (t : true = ((x.2.token : Int) == (arch : Int))) (h : ((decide (x.1 ≠ 0) && decide (x.1 ≠ 1)) || (x.2.bit == w)) = false) : selB arch w x = false := by
  unfold selB; rw [h, Bool.and_false]
theorem sel_yes {arch : Nat} {w : Bool} {x : Nat × Inf} (t : true = ((x.2.token : Int) == (arch : Int))) (h : ((decide (x.1 ≠ 0) && decide (x.1 ≠ 1)) || (x.2.bit == w)) = true) : selB arch w x = true := by
  unfold selB
  have e : x.2.token = arch := by have : (x.2.token : Int) = (arch : Int) := by simpa using t.symm
                                  omega
  rw [h, decide_eq_true e]; rfl
theorem sel_more {arch : Nat} {w : Bool} {x : Nat × Inf} {pre : List (Nat × Inf)} (h : ∀ z ∈ pre, selB arch w z = false) (hx : selB arch w x = false) : ∀ z ∈ pre ++ [x], selB arch w z = false := fun z hz => by
  rcases List.mem_append.1 hz with q | q
  · exact h z q
  · rw [List.mem_singleton.1 q]; exact hx
set_option maxHeartbeats 4000000 in
theorem select_spec (arch num : Nat) (ha : arch < 4294967296) (hn : num < 4294967296) : Tells Tryz.prog 59 [u32 arch, u32 num] (selA arch num) := by
  refine tells_of_aw Tryz.func59 rfl rfl fun nx => ?_
  ((repeat((conv=>whnf);first|apply ω0|apply ω2|refine τ3 rfl ?_|refine τ4 rfl ?_|refine ⟨rfl,?_⟩|apply τa|refine τb rfl ?_|refine ⟨⟨by kernel_rfl,by kernel_rfl⟩,?_⟩|refine ⟨by decide,?_⟩|apply τt|apply τf)); refine aw_region ?_; (repeat((conv=>whnf);first|apply ω0|apply ω2|refine τ3 rfl ?_|refine τ4 rfl ?_|refine ⟨rfl,?_⟩|apply τa|refine τb rfl ?_|refine ⟨⟨by kernel_rfl,by kernel_rfl⟩,?_⟩|refine ⟨by decide,?_⟩|apply τt|apply τf)))
  refine aw_mid (fun y : Nat => mk 38 [(2, .bp (0, nx) 0), (4, .bp (1, nx + 1) 0), (5, .bp (2, nx + 2) 0), (6, .bp (3, nx + 3) 0)] ⟨[((3, nx + 3), .c [boolA (withB num)]), ((2, nx + 2), .c [boolA false]), ((1, nx + 1), .c [int 0]), ((0, nx), .c [u32 arch])], [], y, 4⟩) (fun _ => True) ?_ ?_
  · have hw : withB num = (decide (num &&& 1073741824 ≠ 0) && decide (num ≠ 4294967295)) := rfl
    (repeat((conv=>whnf);first|apply ω0|apply ω1|apply ω2|refine τ3 rfl ?_|refine τ4 rfl ?_|refine ⟨rfl,?_⟩|apply τa|refine τb rfl ?_|refine ⟨⟨by kernel_rfl,by kernel_rfl⟩,?_⟩|refine ⟨by decide,?_⟩|apply τt|apply τf))
    intro c hc
    have hc2 : c = decide (num &&& 1073741824 ≠ 0) := by
      rw [hc]
      show (bitsI .and .u32 (num : Int) ((1073741824 : Nat) : Int) != 0) = _
      rw [and32 hn (by decide), Bool.eq_iff_iff]
      simp
    clear hc
    rw [← hc2] at hw
    clear hc2
    cases c
    · rw [hw]
      (repeat((conv=>whnf);first|apply ω0|apply ω1|apply ω2|refine τ3 rfl ?_|refine τ4 rfl ?_|refine ⟨rfl,?_⟩|apply τa|refine τb rfl ?_|refine ⟨⟨by kernel_rfl,by kernel_rfl⟩,?_⟩|refine ⟨by decide,?_⟩|apply τt|apply τf))
      exact ⟨nx + 4, trivial, ele_tell (pm := []) _ [] rfl rfl (List.Sublist.refl _) (List.Sublist.refl _) (BxLe.refl _) trivial ⟨AVle.refl _, AVle.refl _, AVle.refl _, AVle.refl _, trivial⟩⟩
    · rw [Bool.true_and] at hw
      (repeat((conv=>whnf);first|apply ω0|apply ω1|apply ω2|refine τ3 rfl ?_|refine τ4 rfl ?_|refine ⟨rfl,?_⟩|apply τa|refine τb rfl ?_|refine ⟨⟨by kernel_rfl,by kernel_rfl⟩,?_⟩|refine ⟨by decide,?_⟩|apply τt|apply τf))
      intro c hc
      have hc2 : c = withB num := by
        rw [hw, hc, Bool.eq_iff_iff]
        simp
        omega
      rw [← hc2]
      clear hc hc2 hw
      cases c
      all_goals
        (repeat((conv=>whnf);first|apply ω0|apply ω1|apply ω2|refine τ3 rfl ?_|refine τ4 rfl ?_|refine ⟨rfl,?_⟩|apply τa|refine τb rfl ?_|refine ⟨⟨by kernel_rfl,by kernel_rfl⟩,?_⟩|refine ⟨by decide,?_⟩|apply τt|apply τf))
        exact ⟨nx + 4, trivial, ele_tell (pm := []) _ [] rfl rfl (List.Sublist.refl _) (List.Sublist.refl _) (BxLe.refl _) trivial ⟨AVle.refl _, AVle.refl _, AVle.refl _, AVle.refl _, trivial⟩⟩
  · rintro nx2 -
    (repeat((conv=>whnf);first|apply ω0|apply ω1|apply ω2|refine τ3 rfl ?_|refine τ4 rfl ?_|refine ⟨rfl,?_⟩|apply τa|refine τb rfl ?_|refine ⟨⟨by kernel_rfl,by kernel_rfl⟩,?_⟩|refine ⟨by decide,?_⟩|apply τt|apply τf))
    refine aop_tells rfl rfl abirows_spec trivial fun nx3 => ?_
    (repeat((conv=>whnf);first|apply ω0|apply ω1|apply ω2|refine τ3 rfl ?_|refine τ4 rfl ?_|refine ⟨rfl,?_⟩|apply τa|refine τb rfl ?_|refine ⟨⟨by kernel_rfl,by kernel_rfl⟩,?_⟩|refine ⟨by decide,?_⟩|apply τt|apply τf))
    refine AW.le (E' := mk 38 [(2, .bp (0, nx) 0), (4, .bp (1, nx + 1) 0), (5, .bp (2, nx + 2) 0), (6, .bp (3, nx + 3) 0), (16, .fn (.func 157) [] [])] ⟨[((3, nx + 3), .c [boolA (withB num)]), ((2, nx + 2), .c [boolA false]), ((1, nx + 1), .c [int 0]), ((0, nx), .c [u32 arch])], [], nx3, 4⟩) (ele_tell _ _ rfl rfl (List.Sublist.refl _) (List.Sublist.refl _) (BxLe.refl _) (PmEq.refl _) ⟨AVle.refl _, AVle.refl _, AVle.refl _, AVle.refl _, AVle.refl _, trivial⟩) ?_
    generalize hw : withB num = w
    refine aw_forX (σ := Option Nat) (α := Nat × Inf) (e := infE) (xs := infN) (first' := []) (caps' := []) (fun y => [((3, nx + 3), .c [boolA (w)]), ((2, nx + 2), .c [boolA y.isSome]), ((1, nx + 1), .c [int (y.getD 0 : Nat)]), ((0, nx), .c [u32 arch])]) (fun _ => []) (fun pre y => y = none ∧ ∀ z ∈ pre, selB arch w z = false) (fun pre x y => y = some x.1 ∧ selB arch w x = true ∧ ∀ z ∈ pre, selB arch w z = false) none rfl rfl rows_iter trivial trivial rfl rfl ⟨rfl, fun z hz => by cases hz⟩ (fun _ => rfl) ?_ ?_ ?_
    · rintro pre x post s nx4 nn4 hx ⟨rfl, hI⟩
      rcases inf_cases hx with ⟨rfl, rfl⟩ | ⟨rfl, rfl⟩ | ⟨rfl, rfl⟩ | ⟨rfl, rfl⟩ | ⟨rfl, rfl⟩
      · refine AW.le (ele_drop (nn := 9) (List.Sublist.refl _) (List.Sublist.refl _)) ?_
        (repeat((conv=>whnf);first|apply ω0|apply ω1|apply ω2|refine τ3 rfl ?_|refine τ4 rfl ?_|refine ⟨rfl,?_⟩|apply τa|refine τb rfl ?_|refine ⟨⟨by kernel_rfl,by kernel_rfl⟩,?_⟩|refine ⟨by decide,?_⟩|apply τt|apply τf))
        intro c t1; cases c
        · (repeat((conv=>whnf);first|apply ω0|apply ω1|apply ω2|refine τ3 rfl ?_|refine τ4 rfl ?_|refine ⟨rfl,?_⟩|apply τa|refine τb rfl ?_|refine ⟨⟨by kernel_rfl,by kernel_rfl⟩,?_⟩|refine ⟨by decide,?_⟩|apply τt|apply τf))
          exact ⟨_, ⟨_, _, _, 0⟩, AVle.refl _, hle_tell _ _ rfl (.cons _ (List.Sublist.refl _)) (List.Sublist.refl _) (BxLe.refl _) (PmEq.refl _), .inl ⟨rfl, none, ⟨rfl, sel_more hI (sel_tok t1)⟩, rfl, rfl⟩⟩
        · cases w
          · (repeat((conv=>whnf);first|apply ω0|apply ω1|apply ω2|refine τ3 rfl ?_|refine τ4 rfl ?_|refine ⟨rfl,?_⟩|apply τa|refine τb rfl ?_|refine ⟨⟨by kernel_rfl,by kernel_rfl⟩,?_⟩|refine ⟨by decide,?_⟩|apply τt|apply τf))
            exact ⟨_, ⟨_, _, _, 0⟩, AVle.refl _, hle_tell _ _ rfl (.cons _ (List.Sublist.refl _)) (List.Sublist.refl _) (BxLe.refl _) (PmEq.refl _), .inr ⟨rfl, some 0, ⟨rfl, sel_yes t1 rfl, hI⟩, rfl, rfl⟩⟩
          · (repeat((conv=>whnf);first|apply ω0|apply ω1|apply ω2|refine τ3 rfl ?_|refine τ4 rfl ?_|refine ⟨rfl,?_⟩|apply τa|refine τb rfl ?_|refine ⟨⟨by kernel_rfl,by kernel_rfl⟩,?_⟩|refine ⟨by decide,?_⟩|apply τt|apply τf))
            exact ⟨_, ⟨_, _, _, 0⟩, AVle.refl _, hle_tell _ _ rfl (.cons _ (List.Sublist.refl _)) (List.Sublist.refl _) (BxLe.refl _) (PmEq.refl _), .inl ⟨rfl, none, ⟨rfl, sel_more hI (sel_no t1 rfl)⟩, rfl, rfl⟩⟩
      · refine AW.le (ele_drop (nn := 9) (List.Sublist.refl _) (List.Sublist.refl _)) ?_
        (repeat((conv=>whnf);first|apply ω0|apply ω1|apply ω2|refine τ3 rfl ?_|refine τ4 rfl ?_|refine ⟨rfl,?_⟩|apply τa|refine τb rfl ?_|refine ⟨⟨by kernel_rfl,by kernel_rfl⟩,?_⟩|refine ⟨by decide,?_⟩|apply τt|apply τf))
        intro c t1; cases c
        · (repeat((conv=>whnf);first|apply ω0|apply ω1|apply ω2|refine τ3 rfl ?_|refine τ4 rfl ?_|refine ⟨rfl,?_⟩|apply τa|refine τb rfl ?_|refine ⟨⟨by kernel_rfl,by kernel_rfl⟩,?_⟩|refine ⟨by decide,?_⟩|apply τt|apply τf))
          exact ⟨_, ⟨_, _, _, 0⟩, AVle.refl _, hle_tell _ _ rfl (.cons _ (List.Sublist.refl _)) (List.Sublist.refl _) (BxLe.refl _) (PmEq.refl _), .inl ⟨rfl, none, ⟨rfl, sel_more hI (sel_tok t1)⟩, rfl, rfl⟩⟩
        · cases w
          · (repeat((conv=>whnf);first|apply ω0|apply ω1|apply ω2|refine τ3 rfl ?_|refine τ4 rfl ?_|refine ⟨rfl,?_⟩|apply τa|refine τb rfl ?_|refine ⟨⟨by kernel_rfl,by kernel_rfl⟩,?_⟩|refine ⟨by decide,?_⟩|apply τt|apply τf))
            exact ⟨_, ⟨_, _, _, 0⟩, AVle.refl _, hle_tell _ _ rfl (.cons _ (List.Sublist.refl _)) (List.Sublist.refl _) (BxLe.refl _) (PmEq.refl _), .inl ⟨rfl, none, ⟨rfl, sel_more hI (sel_no t1 rfl)⟩, rfl, rfl⟩⟩
          · (repeat((conv=>whnf);first|apply ω0|apply ω1|apply ω2|refine τ3 rfl ?_|refine τ4 rfl ?_|refine ⟨rfl,?_⟩|apply τa|refine τb rfl ?_|refine ⟨⟨by kernel_rfl,by kernel_rfl⟩,?_⟩|refine ⟨by decide,?_⟩|apply τt|apply τf))
            exact ⟨_, ⟨_, _, _, 0⟩, AVle.refl _, hle_tell _ _ rfl (.cons _ (List.Sublist.refl _)) (List.Sublist.refl _) (BxLe.refl _) (PmEq.refl _), .inr ⟨rfl, some 1, ⟨rfl, sel_yes t1 rfl, hI⟩, rfl, rfl⟩⟩
      · refine AW.le (ele_drop (nn := 9) (List.Sublist.refl _) (List.Sublist.refl _)) ?_
        (repeat((conv=>whnf);first|apply ω0|apply ω1|apply ω2|refine τ3 rfl ?_|refine τ4 rfl ?_|refine ⟨rfl,?_⟩|apply τa|refine τb rfl ?_|refine ⟨⟨by kernel_rfl,by kernel_rfl⟩,?_⟩|refine ⟨by decide,?_⟩|apply τt|apply τf))
        intro c t1; cases c
        · (repeat((conv=>whnf);first|apply ω0|apply ω1|apply ω2|refine τ3 rfl ?_|refine τ4 rfl ?_|refine ⟨rfl,?_⟩|apply τa|refine τb rfl ?_|refine ⟨⟨by kernel_rfl,by kernel_rfl⟩,?_⟩|refine ⟨by decide,?_⟩|apply τt|apply τf))
          exact ⟨_, ⟨_, _, _, 0⟩, AVle.refl _, hle_tell _ _ rfl (.cons _ (List.Sublist.refl _)) (List.Sublist.refl _) (BxLe.refl _) (PmEq.refl _), .inl ⟨rfl, none, ⟨rfl, sel_more hI (sel_tok t1)⟩, rfl, rfl⟩⟩
        · cases w
          · (repeat((conv=>whnf);first|apply ω0|apply ω1|apply ω2|refine τ3 rfl ?_|refine τ4 rfl ?_|refine ⟨rfl,?_⟩|apply τa|refine τb rfl ?_|refine ⟨⟨by kernel_rfl,by kernel_rfl⟩,?_⟩|refine ⟨by decide,?_⟩|apply τt|apply τf))
            exact ⟨_, ⟨_, _, _, 0⟩, AVle.refl _, hle_tell _ _ rfl (.cons _ (List.Sublist.refl _)) (List.Sublist.refl _) (BxLe.refl _) (PmEq.refl _), .inr ⟨rfl, some 2, ⟨rfl, sel_yes t1 rfl, hI⟩, rfl, rfl⟩⟩
          · (repeat((conv=>whnf);first|apply ω0|apply ω1|apply ω2|refine τ3 rfl ?_|refine τ4 rfl ?_|refine ⟨rfl,?_⟩|apply τa|refine τb rfl ?_|refine ⟨⟨by kernel_rfl,by kernel_rfl⟩,?_⟩|refine ⟨by decide,?_⟩|apply τt|apply τf))
            exact ⟨_, ⟨_, _, _, 0⟩, AVle.refl _, hle_tell _ _ rfl (.cons _ (List.Sublist.refl _)) (List.Sublist.refl _) (BxLe.refl _) (PmEq.refl _), .inr ⟨rfl, some 2, ⟨rfl, sel_yes t1 rfl, hI⟩, rfl, rfl⟩⟩
      · refine AW.le (ele_drop (nn := 9) (List.Sublist.refl _) (List.Sublist.refl _)) ?_
        (repeat((conv=>whnf);first|apply ω0|apply ω1|apply ω2|refine τ3 rfl ?_|refine τ4 rfl ?_|refine ⟨rfl,?_⟩|apply τa|refine τb rfl ?_|refine ⟨⟨by kernel_rfl,by kernel_rfl⟩,?_⟩|refine ⟨by decide,?_⟩|apply τt|apply τf))
        intro c t1; cases c
        · (repeat((conv=>whnf);first|apply ω0|apply ω1|apply ω2|refine τ3 rfl ?_|refine τ4 rfl ?_|refine ⟨rfl,?_⟩|apply τa|refine τb rfl ?_|refine ⟨⟨by kernel_rfl,by kernel_rfl⟩,?_⟩|refine ⟨by decide,?_⟩|apply τt|apply τf))
          exact ⟨_, ⟨_, _, _, 0⟩, AVle.refl _, hle_tell _ _ rfl (.cons _ (List.Sublist.refl _)) (List.Sublist.refl _) (BxLe.refl _) (PmEq.refl _), .inl ⟨rfl, none, ⟨rfl, sel_more hI (sel_tok t1)⟩, rfl, rfl⟩⟩
        · cases w
          · (repeat((conv=>whnf);first|apply ω0|apply ω1|apply ω2|refine τ3 rfl ?_|refine τ4 rfl ?_|refine ⟨rfl,?_⟩|apply τa|refine τb rfl ?_|refine ⟨⟨by kernel_rfl,by kernel_rfl⟩,?_⟩|refine ⟨by decide,?_⟩|apply τt|apply τf))
            exact ⟨_, ⟨_, _, _, 0⟩, AVle.refl _, hle_tell _ _ rfl (.cons _ (List.Sublist.refl _)) (List.Sublist.refl _) (BxLe.refl _) (PmEq.refl _), .inr ⟨rfl, some 3, ⟨rfl, sel_yes t1 rfl, hI⟩, rfl, rfl⟩⟩
          · (repeat((conv=>whnf);first|apply ω0|apply ω1|apply ω2|refine τ3 rfl ?_|refine τ4 rfl ?_|refine ⟨rfl,?_⟩|apply τa|refine τb rfl ?_|refine ⟨⟨by kernel_rfl,by kernel_rfl⟩,?_⟩|refine ⟨by decide,?_⟩|apply τt|apply τf))
            exact ⟨_, ⟨_, _, _, 0⟩, AVle.refl _, hle_tell _ _ rfl (.cons _ (List.Sublist.refl _)) (List.Sublist.refl _) (BxLe.refl _) (PmEq.refl _), .inr ⟨rfl, some 3, ⟨rfl, sel_yes t1 rfl, hI⟩, rfl, rfl⟩⟩
      · refine AW.le (ele_drop (nn := 9) (List.Sublist.refl _) (List.Sublist.refl _)) ?_
        (repeat((conv=>whnf);first|apply ω0|apply ω1|apply ω2|refine τ3 rfl ?_|refine τ4 rfl ?_|refine ⟨rfl,?_⟩|apply τa|refine τb rfl ?_|refine ⟨⟨by kernel_rfl,by kernel_rfl⟩,?_⟩|refine ⟨by decide,?_⟩|apply τt|apply τf))
        intro c t1; cases c
        · (repeat((conv=>whnf);first|apply ω0|apply ω1|apply ω2|refine τ3 rfl ?_|refine τ4 rfl ?_|refine ⟨rfl,?_⟩|apply τa|refine τb rfl ?_|refine ⟨⟨by kernel_rfl,by kernel_rfl⟩,?_⟩|refine ⟨by decide,?_⟩|apply τt|apply τf))
          exact ⟨_, ⟨_, _, _, 0⟩, AVle.refl _, hle_tell _ _ rfl (.cons _ (List.Sublist.refl _)) (List.Sublist.refl _) (BxLe.refl _) (PmEq.refl _), .inl ⟨rfl, none, ⟨rfl, sel_more hI (sel_tok t1)⟩, rfl, rfl⟩⟩
        · cases w
          · (repeat((conv=>whnf);first|apply ω0|apply ω1|apply ω2|refine τ3 rfl ?_|refine τ4 rfl ?_|refine ⟨rfl,?_⟩|apply τa|refine τb rfl ?_|refine ⟨⟨by kernel_rfl,by kernel_rfl⟩,?_⟩|refine ⟨by decide,?_⟩|apply τt|apply τf))
            exact ⟨_, ⟨_, _, _, 0⟩, AVle.refl _, hle_tell _ _ rfl (.cons _ (List.Sublist.refl _)) (List.Sublist.refl _) (BxLe.refl _) (PmEq.refl _), .inr ⟨rfl, some 4, ⟨rfl, sel_yes t1 rfl, hI⟩, rfl, rfl⟩⟩
          · (repeat((conv=>whnf);first|apply ω0|apply ω1|apply ω2|refine τ3 rfl ?_|refine τ4 rfl ?_|refine ⟨rfl,?_⟩|apply τa|refine τb rfl ?_|refine ⟨⟨by kernel_rfl,by kernel_rfl⟩,?_⟩|refine ⟨by decide,?_⟩|apply τt|apply τf))
            exact ⟨_, ⟨_, _, _, 0⟩, AVle.refl _, hle_tell _ _ rfl (.cons _ (List.Sublist.refl _)) (List.Sublist.refl _) (BxLe.refl _) (PmEq.refl _), .inr ⟨rfl, some 4, ⟨rfl, sel_yes t1 rfl, hI⟩, rfl, rfl⟩⟩
    · rintro s' nx4 nn4 ⟨rfl, hI⟩
      rw [sel_none (by rw [hw]; exact hI)]
      (repeat((conv=>whnf);first|apply ω0|apply ω1|apply ω2|refine τ3 rfl ?_|refine τ4 rfl ?_|refine ⟨rfl,?_⟩|apply τa|refine τb rfl ?_|refine ⟨⟨by kernel_rfl,by kernel_rfl⟩,?_⟩|refine ⟨by decide,?_⟩|apply τt|apply τf))
      exact ret_tells_all rfl ⟨⟨rfl, Nat.le_of_ble_eq_true rfl⟩, ⟨rfl, Nat.le_of_ble_eq_true rfl⟩, trivial⟩ (AVle.refl _)
    · rintro pre x post s' nx4 nn4 hx ⟨rfl, h1, h2⟩
      rw [sel_some hx (by rw [hw]; exact h2) (by rw [hw]; exact h1)]
      (repeat((conv=>whnf);first|apply ω0|apply ω1|apply ω2|refine τ3 rfl ?_|refine τ4 rfl ?_|refine ⟨rfl,?_⟩|apply τa|refine τb rfl ?_|refine ⟨⟨by kernel_rfl,by kernel_rfl⟩,?_⟩|refine ⟨by decide,?_⟩|apply τt|apply τf))
      exact ret_tells_all rfl ⟨⟨rfl, Nat.le_of_ble_eq_true rfl⟩, ⟨rfl, Nat.le_of_ble_eq_true rfl⟩, trivial⟩ (AVle.refl _)
end Go.Proofs.W

namespace Go.Proofs.W
open Go.Vl
set_option maxRecDepth 100000

/-- A record. -/
structure Rec where
  num : Nat
  arch : Nat
  ptr : Nat
  a0 : Nat
  a1 : Nat
  a2 : Nat
  a3 : Nat
  a4 : Nat
  a5 : Nat
def Rec.ok (r : Rec) : Prop := r.num < 4294967296 ∧ r.arch < 4294967296 ∧ r.ptr < 18446744073709551616 ∧ r.a0 < 18446744073709551616 ∧ r.a1 < 18446744073709551616 ∧ r.a2 < 18446744073709551616 ∧ r.a3 < 18446744073709551616 ∧ r.a4 < 18446744073709551616 ∧ r.a5 < 18446744073709551616
def Rec.arg (r : Rec) : Nat → Nat
  | 0 => r.a0
  | 1 => r.a1
  | 2 => r.a2
  | 3 => r.a3
  | 4 => r.a4
  | _ => r.a5
def recC (r : Rec) : List AV := [u32 r.num, u32 r.arch, u64 r.ptr, u64 r.a0, u64 r.a1, u64 r.a2, u64 r.a3, u64 r.a4, u64 r.a5]
def recA (r : Rec) : AV := .ag (recC r)
theorem find_of {a : Nat} (h : a < 5) (hn : ∀ z ∈ infN, z.1 ≠ a) : False := by
  rcases (by omega : a = 0 ∨ a = 1 ∨ a = 2 ∨ a = 3 ∨ a = 4) with rfl | rfl | rfl | rfl | rfl
  · exact hn (0, infL.getD 0 inf0) (by simp [infN]) rfl
  · exact hn (1, infL.getD 1 inf0) (by simp [infN]) rfl
  · exact hn (2, infL.getD 2 inf0) (by simp [infN]) rfl
  · exact hn (3, infL.getD 3 inf0) (by simp [infN]) rfl
  · exact hn (4, infL.getD 4 inf0) (by simp [infN]) rfl
theorem of_no {k a : Nat} {pre : List (Nat × Inf)} {i : Inf} (h : ∀ z ∈ pre, z.1 ≠ a) (t : false = ((k : Int) == (a : Int))) : ∀ z ∈ pre ++ [(k, i)], z.1 ≠ a := fun z hz => by
  rcases List.mem_append.1 hz with q | q
  · exact h z q
  · rw [List.mem_singleton.1 q]
    intro e
    dsimp only at e
    subst e; simp at t
theorem of_yes {k a : Nat} (t : true = ((k : Int) == (a : Int))) : k = a := by
  have : (k : Int) = (a : Int) := by simpa using t.symm
  omega
set_option maxHeartbeats 4000000 in
theorem abiof_spec (a : Nat) (ha : a < 5) : Tells Tryz.prog 76 [int a] (.tup [infA (infL.getD a inf0), int 0]) := by
  refine tells_of_aw Tryz.func76 rfl rfl fun nx => ?_
  (repeat((conv=>whnf);first|apply ω0|apply ω1|apply ω2|refine τ3 rfl ?_|refine τ4 rfl ?_|refine ⟨rfl,?_⟩|apply τa|refine τb rfl ?_|refine ⟨⟨by kernel_rfl,by kernel_rfl⟩,?_⟩|refine ⟨by decide,?_⟩|apply τt|apply τf))
  refine aop_tells rfl rfl abirows_spec trivial fun nx3 => ?_
  (repeat((conv=>whnf);first|apply ω0|apply ω1|apply ω2|refine τ3 rfl ?_|refine τ4 rfl ?_|refine ⟨rfl,?_⟩|apply τa|refine τb rfl ?_|refine ⟨⟨by kernel_rfl,by kernel_rfl⟩,?_⟩|refine ⟨by decide,?_⟩|apply τt|apply τf))
  refine AW.le (E' := mk 14 [(1, .bp (0, nx) 0), (2, .bp (1, nx + 1) 0), (3, .bp (2, nx + 2) 0), (6, .fn (.func 157) [] [])] ⟨[((2, nx + 2), .c [int 0]), ((1, nx + 1), .c (infC inf0)), ((0, nx), .c [int a])], [], nx3, 3⟩) (ele_tell (pm := []) _ [] rfl rfl (List.Sublist.refl _) (List.Sublist.refl _) (BxLe.refl _) trivial ⟨AVle.refl _, AVle.refl _, AVle.refl _, AVle.refl _, trivial⟩) ?_
  refine aw_forX (σ := Option Nat) (α := Nat × Inf) (e := infE) (xs := infN) (first' := []) (caps' := []) (fun y => [((2, nx + 2), .c [int 0]), ((1, nx + 1), .c (infC (y.elim inf0 fun k => infL.getD k inf0))), ((0, nx), .c [int a])]) (fun _ => []) (fun pre y => y = none ∧ ∀ z ∈ pre, z.1 ≠ a) (fun pre x y => y = some a) none rfl rfl rows_iter trivial trivial rfl rfl ⟨rfl, fun z hz => by cases hz⟩ (fun _ => rfl) ?_ ?_ ?_
  · rintro pre x post s nx4 nn4 hx ⟨rfl, hI⟩
    rcases inf_cases hx with ⟨rfl, rfl⟩ | ⟨rfl, rfl⟩ | ⟨rfl, rfl⟩ | ⟨rfl, rfl⟩ | ⟨rfl, rfl⟩
    all_goals
      refine AW.le (ele_drop (nn := 9) (List.Sublist.refl _) (List.Sublist.refl _)) ?_
      (repeat((conv=>whnf);first|apply ω0|apply ω1|apply ω2|refine τ3 rfl ?_|refine τ4 rfl ?_|refine ⟨rfl,?_⟩|apply τa|refine τb rfl ?_|refine ⟨⟨by kernel_rfl,by kernel_rfl⟩,?_⟩|refine ⟨by decide,?_⟩|apply τt|apply τf))
      intro c t1; cases c
      · (repeat((conv=>whnf);first|apply ω0|apply ω1|apply ω2|refine τ3 rfl ?_|refine τ4 rfl ?_|refine ⟨rfl,?_⟩|apply τa|refine τb rfl ?_|refine ⟨⟨by kernel_rfl,by kernel_rfl⟩,?_⟩|refine ⟨by decide,?_⟩|apply τt|apply τf))
        exact ⟨_, ⟨_, _, _, 0⟩, AVle.refl _, hle_tell _ _ rfl (.cons _ (List.Sublist.refl _)) (List.Sublist.refl _) (BxLe.refl _) (PmEq.refl _), .inl ⟨rfl, none, ⟨rfl, of_no hI t1⟩, rfl, rfl⟩⟩
      · have e := of_yes t1
        clear t1
        subst e
        (repeat((conv=>whnf);first|apply ω0|apply ω1|apply ω2|refine τ3 rfl ?_|refine τ4 rfl ?_|refine ⟨rfl,?_⟩|apply τa|refine τb rfl ?_|refine ⟨⟨by kernel_rfl,by kernel_rfl⟩,?_⟩|refine ⟨by decide,?_⟩|apply τt|apply τf))
        exact ⟨_, ⟨_, _, _, 0⟩, AVle.refl _, hle_tell _ _ rfl (.cons _ (List.Sublist.refl _)) (List.Sublist.refl _) (BxLe.refl _) (PmEq.refl _), .inr ⟨rfl, some _, rfl, rfl, rfl⟩⟩
  · rintro s' nx4 nn4 ⟨rfl, hI⟩
    exact (find_of ha hI).elim
  · rintro pre x post s' nx4 nn4 hx rfl
    (repeat((conv=>whnf);first|apply ω0|apply ω1|apply ω2|refine τ3 rfl ?_|refine τ4 rfl ?_|refine ⟨rfl,?_⟩|apply τa|refine τb rfl ?_|refine ⟨⟨by kernel_rfl,by kernel_rfl⟩,?_⟩|refine ⟨by decide,?_⟩|apply τt|apply τf))
    exact ret_tells_all rfl ⟨rfl, ⟨rfl, Nat.le_of_ble_eq_true rfl⟩, trivial⟩ (AVle.refl _)
def arrA (f : Nat → Nat) : AV := .ag [u64 (f 0 : Nat), u64 (f 1 : Nat), u64 (f 2 : Nat), u64 (f 3 : Nat), u64 (f 4 : Nat), u64 (f 5 : Nat)]
/-- A record's arguments, as a way of calling sees them. -/
def argI (a : Nat) (r : Rec) (k : Nat) : Nat := if a = 2 then r.arg k % 4294967296 else r.arg k
theorem low32 {n : Nat} (h : n < 18446744073709551616) : IntKind.u64.wrap (IntKind.u32.wrap (n : Int)) = ((n % 4294967296 : Nat) : Int) := by
  simp [IntKind.wrap, IntKind.signed, IntKind.bits]; omega
theorem inf_bits {a : Nat} (h : a < 5) : ((infL.getD a inf0).bits == 32) = decide (a = 2) := by
  rcases (by omega : a = 0 ∨ a = 1 ∨ a = 2 ∨ a = 3 ∨ a = 4) with rfl | rfl | rfl | rfl | rfl <;> rfl
theorem c_u64 : Tryz.prog.cellsOf 27 = 1 := by kernel_rfl
def arrC (f : Nat → Nat) : List AV := [u64 (f 0 : Nat), u64 (f 1 : Nat), u64 (f 2 : Nat), u64 (f 3 : Nat), u64 (f 4 : Nat), u64 (f 5 : Nat)]
def lowK (k : Nat) (r : Rec) (j : Nat) : Nat := bif Nat.blt j k then r.arg j % 4294967296 else r.arg j
theorem le_arg {a : Nat} {r : Rec} (e : a = 2) (k : Nat) : AVle (u64 (r.arg k % 4294967296 : Nat)) (u64 (argI a r k : Nat)) := by
  unfold argI; rw [if_pos e]; exact AVle.refl _
set_option maxHeartbeats 4000000 in
theorem abiargs_spec (a : Nat) (ha : a < 5) (r : Rec) (hr : r.ok) : Tells Tryz.prog 66 [int a, recA r] (arrA (argI a r)) := by
  have hof := abiof_spec a ha
  have hbits := inf_bits ha
  obtain ⟨-, -, -, r0, r1, r2, r3, r4, r5⟩ := hr
  refine tells_of_aw Tryz.func66 rfl rfl fun nx => ?_
  (repeat((conv=>whnf);first|apply ω0|apply ω1|apply ω2|refine τ3 rfl ?_|refine τ4 rfl ?_|refine ⟨rfl,?_⟩|apply τa|refine τb rfl ?_|refine ⟨⟨by kernel_rfl,by kernel_rfl⟩,?_⟩|refine ⟨by decide,?_⟩|apply τt|apply τf))
  refine aop_tells rfl rfl hof ⟨AVle.refl _, trivial⟩ fun nx2 => ?_
  (repeat((conv=>whnf);first|apply ω0|apply ω1|apply ω2|refine τ3 rfl ?_|refine τ4 rfl ?_|refine ⟨rfl,?_⟩|apply τa|refine τb rfl ?_|refine ⟨⟨by kernel_rfl,by kernel_rfl⟩,?_⟩|refine ⟨by decide,?_⟩|apply τt|apply τf))
  intro c hc
  have hc2 : c = decide (a = 2) := hc.trans hbits
  clear hc
  cases c
  · have e : ¬ a = 2 := of_decide_eq_false hc2.symm
    have eA : argI a r = r.arg := by funext k; unfold argI; rw [if_neg e]
    rw [eA]
    (repeat((conv=>whnf);first|apply ω0|apply ω1|apply ω2|refine τ3 rfl ?_|refine τ4 rfl ?_|refine ⟨rfl,?_⟩|apply τa|refine τb rfl ?_|refine ⟨⟨by kernel_rfl,by kernel_rfl⟩,?_⟩|refine ⟨by decide,?_⟩|apply τt|apply τf))
    exact ret_tells_all rfl ⟨rfl, trivial⟩ (AVle.refl _)
  · have e : a = 2 := of_decide_eq_true hc2.symm
    (repeat((conv=>whnf);first|apply ω0|apply ω1|apply ω2|refine τ3 rfl ?_|refine τ4 rfl ?_|refine ⟨rfl,?_⟩|apply τa|refine τb rfl ?_|refine ⟨⟨by kernel_rfl,by kernel_rfl⟩,?_⟩|refine ⟨by decide,?_⟩|apply τt|apply τf))
    refine aw_loop (fun y : Nat × Nat => mk 35 [(3, .bp (0, nx) 0), (4, .bp (1, nx + 1) 0), (5, .bp (2, nx + 2) 0), (23, int y.1)] ⟨[((3, nx2), .c (infC (infL.getD a inf0))), ((2, nx + 2), .c (arrC (lowK y.1 r))), ((1, nx + 1), .c (arrC fun _ => 0)), ((0, nx), .c (recC r))], [], y.2, 4⟩) (fun y => y.1 ≤ 6) (fun y => 6 - y.1) ?_ ?_
    · exact ⟨(0, nx2 + 1), Nat.zero_le _, ele_tell (pm := []) _ [] rfl rfl (List.Sublist.refl _) (List.Sublist.refl _) ⟨rfl, OwnLe.refl _, rfl, ⟨AVle.refl _, AVle.refl _, AVle.refl _, AVle.refl _, AVle.refl _, AVle.refl _, trivial⟩, rfl, ⟨AVle.refl _, AVle.refl _, AVle.refl _, AVle.refl _, AVle.refl _, AVle.refl _, trivial⟩, BxLe.refl _⟩ trivial ⟨AVle.refl _, AVle.refl _, AVle.refl _, AVle.refl _, trivial⟩⟩
    · rintro ⟨k, nx3⟩ hk
      dsimp only at hk
      rcases k with _ | _ | _ | _ | _ | _ | _ | k
      · (repeat((conv=>whnf);first|apply ω0|apply ω1|apply ω2|refine τ3 rfl ?_|refine τ4 rfl ?_|refine ⟨rfl,?_⟩|apply τa|refine τb rfl ?_|refine ⟨⟨by kernel_rfl,by kernel_rfl⟩,?_⟩|refine ⟨by decide,?_⟩|apply τt|apply τf))
        refine ⟨⟨Int.natCast_nonneg _, show ((0 : Nat) : Int) < 6 by decide⟩, splitO_eq (b := .bp (2, nx + 2) 0) (congrArg (AV.bp (2, nx + 2)) (by rw [c_u64]; rfl)) ?_⟩
        (repeat((conv=>whnf);first|apply ω0|apply ω1|apply ω2|refine τ3 rfl ?_|refine τ4 rfl ?_|refine ⟨rfl,?_⟩|apply τa|refine τb rfl ?_|refine ⟨⟨by kernel_rfl,by kernel_rfl⟩,?_⟩|refine ⟨by decide,?_⟩|apply τt|apply τf))
        refine ⟨⟨Int.natCast_nonneg _, show ((0 : Nat) : Int) < 6 by decide⟩, splitO_eq (b := .bp (2, nx + 2) 0) (congrArg (AV.bp (2, nx + 2)) (by rw [c_u64]; rfl)) ?_⟩
        (repeat((conv=>whnf);first|apply ω0|apply ω1|apply ω2|refine τ3 rfl ?_|refine τ4 rfl ?_|refine ⟨rfl,?_⟩|apply τa|refine τb rfl ?_|refine ⟨⟨by kernel_rfl,by kernel_rfl⟩,?_⟩|refine ⟨by decide,?_⟩|apply τt|apply τf))
        exact back (0 + 1, nx3) (show 0 + 1 ≤ 6 by decide) (by dsimp only; omega) (ele_tell (bx := [((3, nx2), .c (infC (infL.getD a inf0))), ((2, nx + 2), .c (arrC (lowK (0 + 1) r))), ((1, nx + 1), .c (arrC fun _ => 0)), ((0, nx), .c (recC r))]) (pm := []) _ [] rfl rfl (List.Sublist.refl _) (List.Sublist.refl _) ⟨rfl, OwnLe.refl _, rfl, ⟨le_u64 (low32 r0), AVle.refl _, AVle.refl _, AVle.refl _, AVle.refl _, AVle.refl _, trivial⟩, BxLe.refl _⟩ trivial ⟨AVle.refl _, AVle.refl _, AVle.refl _, AVle.refl _, trivial⟩)
      · (repeat((conv=>whnf);first|apply ω0|apply ω1|apply ω2|refine τ3 rfl ?_|refine τ4 rfl ?_|refine ⟨rfl,?_⟩|apply τa|refine τb rfl ?_|refine ⟨⟨by kernel_rfl,by kernel_rfl⟩,?_⟩|refine ⟨by decide,?_⟩|apply τt|apply τf))
        refine ⟨⟨Int.natCast_nonneg _, show ((1 : Nat) : Int) < 6 by decide⟩, splitO_eq (b := .bp (2, nx + 2) 1) (congrArg (AV.bp (2, nx + 2)) (by rw [c_u64]; rfl)) ?_⟩
        (repeat((conv=>whnf);first|apply ω0|apply ω1|apply ω2|refine τ3 rfl ?_|refine τ4 rfl ?_|refine ⟨rfl,?_⟩|apply τa|refine τb rfl ?_|refine ⟨⟨by kernel_rfl,by kernel_rfl⟩,?_⟩|refine ⟨by decide,?_⟩|apply τt|apply τf))
        refine ⟨⟨Int.natCast_nonneg _, show ((1 : Nat) : Int) < 6 by decide⟩, splitO_eq (b := .bp (2, nx + 2) 1) (congrArg (AV.bp (2, nx + 2)) (by rw [c_u64]; rfl)) ?_⟩
        (repeat((conv=>whnf);first|apply ω0|apply ω1|apply ω2|refine τ3 rfl ?_|refine τ4 rfl ?_|refine ⟨rfl,?_⟩|apply τa|refine τb rfl ?_|refine ⟨⟨by kernel_rfl,by kernel_rfl⟩,?_⟩|refine ⟨by decide,?_⟩|apply τt|apply τf))
        exact back (1 + 1, nx3) (show 1 + 1 ≤ 6 by decide) (by dsimp only; omega) (ele_tell (bx := [((3, nx2), .c (infC (infL.getD a inf0))), ((2, nx + 2), .c (arrC (lowK (1 + 1) r))), ((1, nx + 1), .c (arrC fun _ => 0)), ((0, nx), .c (recC r))]) (pm := []) _ [] rfl rfl (List.Sublist.refl _) (List.Sublist.refl _) ⟨rfl, OwnLe.refl _, rfl, ⟨AVle.refl _, le_u64 (low32 r1), AVle.refl _, AVle.refl _, AVle.refl _, AVle.refl _, trivial⟩, BxLe.refl _⟩ trivial ⟨AVle.refl _, AVle.refl _, AVle.refl _, AVle.refl _, trivial⟩)
      · (repeat((conv=>whnf);first|apply ω0|apply ω1|apply ω2|refine τ3 rfl ?_|refine τ4 rfl ?_|refine ⟨rfl,?_⟩|apply τa|refine τb rfl ?_|refine ⟨⟨by kernel_rfl,by kernel_rfl⟩,?_⟩|refine ⟨by decide,?_⟩|apply τt|apply τf))
        refine ⟨⟨Int.natCast_nonneg _, show ((2 : Nat) : Int) < 6 by decide⟩, splitO_eq (b := .bp (2, nx + 2) 2) (congrArg (AV.bp (2, nx + 2)) (by rw [c_u64]; rfl)) ?_⟩
        (repeat((conv=>whnf);first|apply ω0|apply ω1|apply ω2|refine τ3 rfl ?_|refine τ4 rfl ?_|refine ⟨rfl,?_⟩|apply τa|refine τb rfl ?_|refine ⟨⟨by kernel_rfl,by kernel_rfl⟩,?_⟩|refine ⟨by decide,?_⟩|apply τt|apply τf))
        refine ⟨⟨Int.natCast_nonneg _, show ((2 : Nat) : Int) < 6 by decide⟩, splitO_eq (b := .bp (2, nx + 2) 2) (congrArg (AV.bp (2, nx + 2)) (by rw [c_u64]; rfl)) ?_⟩
        (repeat((conv=>whnf);first|apply ω0|apply ω1|apply ω2|refine τ3 rfl ?_|refine τ4 rfl ?_|refine ⟨rfl,?_⟩|apply τa|refine τb rfl ?_|refine ⟨⟨by kernel_rfl,by kernel_rfl⟩,?_⟩|refine ⟨by decide,?_⟩|apply τt|apply τf))
        exact back (2 + 1, nx3) (show 2 + 1 ≤ 6 by decide) (by dsimp only; omega) (ele_tell (bx := [((3, nx2), .c (infC (infL.getD a inf0))), ((2, nx + 2), .c (arrC (lowK (2 + 1) r))), ((1, nx + 1), .c (arrC fun _ => 0)), ((0, nx), .c (recC r))]) (pm := []) _ [] rfl rfl (List.Sublist.refl _) (List.Sublist.refl _) ⟨rfl, OwnLe.refl _, rfl, ⟨AVle.refl _, AVle.refl _, le_u64 (low32 r2), AVle.refl _, AVle.refl _, AVle.refl _, trivial⟩, BxLe.refl _⟩ trivial ⟨AVle.refl _, AVle.refl _, AVle.refl _, AVle.refl _, trivial⟩)
      · (repeat((conv=>whnf);first|apply ω0|apply ω1|apply ω2|refine τ3 rfl ?_|refine τ4 rfl ?_|refine ⟨rfl,?_⟩|apply τa|refine τb rfl ?_|refine ⟨⟨by kernel_rfl,by kernel_rfl⟩,?_⟩|refine ⟨by decide,?_⟩|apply τt|apply τf))
        refine ⟨⟨Int.natCast_nonneg _, show ((3 : Nat) : Int) < 6 by decide⟩, splitO_eq (b := .bp (2, nx + 2) 3) (congrArg (AV.bp (2, nx + 2)) (by rw [c_u64]; rfl)) ?_⟩
        (repeat((conv=>whnf);first|apply ω0|apply ω1|apply ω2|refine τ3 rfl ?_|refine τ4 rfl ?_|refine ⟨rfl,?_⟩|apply τa|refine τb rfl ?_|refine ⟨⟨by kernel_rfl,by kernel_rfl⟩,?_⟩|refine ⟨by decide,?_⟩|apply τt|apply τf))
        refine ⟨⟨Int.natCast_nonneg _, show ((3 : Nat) : Int) < 6 by decide⟩, splitO_eq (b := .bp (2, nx + 2) 3) (congrArg (AV.bp (2, nx + 2)) (by rw [c_u64]; rfl)) ?_⟩
        (repeat((conv=>whnf);first|apply ω0|apply ω1|apply ω2|refine τ3 rfl ?_|refine τ4 rfl ?_|refine ⟨rfl,?_⟩|apply τa|refine τb rfl ?_|refine ⟨⟨by kernel_rfl,by kernel_rfl⟩,?_⟩|refine ⟨by decide,?_⟩|apply τt|apply τf))
        exact back (3 + 1, nx3) (show 3 + 1 ≤ 6 by decide) (by dsimp only; omega) (ele_tell (bx := [((3, nx2), .c (infC (infL.getD a inf0))), ((2, nx + 2), .c (arrC (lowK (3 + 1) r))), ((1, nx + 1), .c (arrC fun _ => 0)), ((0, nx), .c (recC r))]) (pm := []) _ [] rfl rfl (List.Sublist.refl _) (List.Sublist.refl _) ⟨rfl, OwnLe.refl _, rfl, ⟨AVle.refl _, AVle.refl _, AVle.refl _, le_u64 (low32 r3), AVle.refl _, AVle.refl _, trivial⟩, BxLe.refl _⟩ trivial ⟨AVle.refl _, AVle.refl _, AVle.refl _, AVle.refl _, trivial⟩)
      · (repeat((conv=>whnf);first|apply ω0|apply ω1|apply ω2|refine τ3 rfl ?_|refine τ4 rfl ?_|refine ⟨rfl,?_⟩|apply τa|refine τb rfl ?_|refine ⟨⟨by kernel_rfl,by kernel_rfl⟩,?_⟩|refine ⟨by decide,?_⟩|apply τt|apply τf))
        refine ⟨⟨Int.natCast_nonneg _, show ((4 : Nat) : Int) < 6 by decide⟩, splitO_eq (b := .bp (2, nx + 2) 4) (congrArg (AV.bp (2, nx + 2)) (by rw [c_u64]; rfl)) ?_⟩
        (repeat((conv=>whnf);first|apply ω0|apply ω1|apply ω2|refine τ3 rfl ?_|refine τ4 rfl ?_|refine ⟨rfl,?_⟩|apply τa|refine τb rfl ?_|refine ⟨⟨by kernel_rfl,by kernel_rfl⟩,?_⟩|refine ⟨by decide,?_⟩|apply τt|apply τf))
        refine ⟨⟨Int.natCast_nonneg _, show ((4 : Nat) : Int) < 6 by decide⟩, splitO_eq (b := .bp (2, nx + 2) 4) (congrArg (AV.bp (2, nx + 2)) (by rw [c_u64]; rfl)) ?_⟩
        (repeat((conv=>whnf);first|apply ω0|apply ω1|apply ω2|refine τ3 rfl ?_|refine τ4 rfl ?_|refine ⟨rfl,?_⟩|apply τa|refine τb rfl ?_|refine ⟨⟨by kernel_rfl,by kernel_rfl⟩,?_⟩|refine ⟨by decide,?_⟩|apply τt|apply τf))
        exact back (4 + 1, nx3) (show 4 + 1 ≤ 6 by decide) (by dsimp only; omega) (ele_tell (bx := [((3, nx2), .c (infC (infL.getD a inf0))), ((2, nx + 2), .c (arrC (lowK (4 + 1) r))), ((1, nx + 1), .c (arrC fun _ => 0)), ((0, nx), .c (recC r))]) (pm := []) _ [] rfl rfl (List.Sublist.refl _) (List.Sublist.refl _) ⟨rfl, OwnLe.refl _, rfl, ⟨AVle.refl _, AVle.refl _, AVle.refl _, AVle.refl _, le_u64 (low32 r4), AVle.refl _, trivial⟩, BxLe.refl _⟩ trivial ⟨AVle.refl _, AVle.refl _, AVle.refl _, AVle.refl _, trivial⟩)
      · (repeat((conv=>whnf);first|apply ω0|apply ω1|apply ω2|refine τ3 rfl ?_|refine τ4 rfl ?_|refine ⟨rfl,?_⟩|apply τa|refine τb rfl ?_|refine ⟨⟨by kernel_rfl,by kernel_rfl⟩,?_⟩|refine ⟨by decide,?_⟩|apply τt|apply τf))
        refine ⟨⟨Int.natCast_nonneg _, show ((5 : Nat) : Int) < 6 by decide⟩, splitO_eq (b := .bp (2, nx + 2) 5) (congrArg (AV.bp (2, nx + 2)) (by rw [c_u64]; rfl)) ?_⟩
        (repeat((conv=>whnf);first|apply ω0|apply ω1|apply ω2|refine τ3 rfl ?_|refine τ4 rfl ?_|refine ⟨rfl,?_⟩|apply τa|refine τb rfl ?_|refine ⟨⟨by kernel_rfl,by kernel_rfl⟩,?_⟩|refine ⟨by decide,?_⟩|apply τt|apply τf))
        refine ⟨⟨Int.natCast_nonneg _, show ((5 : Nat) : Int) < 6 by decide⟩, splitO_eq (b := .bp (2, nx + 2) 5) (congrArg (AV.bp (2, nx + 2)) (by rw [c_u64]; rfl)) ?_⟩
        (repeat((conv=>whnf);first|apply ω0|apply ω1|apply ω2|refine τ3 rfl ?_|refine τ4 rfl ?_|refine ⟨rfl,?_⟩|apply τa|refine τb rfl ?_|refine ⟨⟨by kernel_rfl,by kernel_rfl⟩,?_⟩|refine ⟨by decide,?_⟩|apply τt|apply τf))
        exact back (5 + 1, nx3) (show 5 + 1 ≤ 6 by decide) (by dsimp only; omega) (ele_tell (bx := [((3, nx2), .c (infC (infL.getD a inf0))), ((2, nx + 2), .c (arrC (lowK (5 + 1) r))), ((1, nx + 1), .c (arrC fun _ => 0)), ((0, nx), .c (recC r))]) (pm := []) _ [] rfl rfl (List.Sublist.refl _) (List.Sublist.refl _) ⟨rfl, OwnLe.refl _, rfl, ⟨AVle.refl _, AVle.refl _, AVle.refl _, AVle.refl _, AVle.refl _, le_u64 (low32 r5), trivial⟩, BxLe.refl _⟩ trivial ⟨AVle.refl _, AVle.refl _, AVle.refl _, AVle.refl _, trivial⟩)
      · (repeat((conv=>whnf);first|apply ω0|apply ω1|apply ω2|refine τ3 rfl ?_|refine τ4 rfl ?_|refine ⟨rfl,?_⟩|apply τa|refine τb rfl ?_|refine ⟨⟨by kernel_rfl,by kernel_rfl⟩,?_⟩|refine ⟨by decide,?_⟩|apply τt|apply τf))
        refine ret_tells_all rfl ⟨rfl, trivial⟩ (AVle.ags ⟨le_arg e 0, le_arg e 1, le_arg e 2, le_arg e 3, le_arg e 4, le_arg e 5, trivial⟩)
      · omega
end Go.Proofs.W

namespace Go.Proofs.W
open Go.Vl
set_option maxRecDepth 100000

theorem idxf_trow (l : List TRow) (p : TRow → Bool) (f : Nat) (x y : List AV) (hl : l.length ≤ 1000000000) (hp : ∀ i, i < l.length → Tells Tryz.prog f [trowA (l.getD i trow0), .rp x, .rp y] (boolA (p (l.getD i trow0)))) :
    Tells Tryz.prog 109 [slOf 8 trowA trow0 l, (.fn (.func f) [] [.rp x, .rp y])] (int (optI (l.findIdx? p))) := by
  refine tells_of_aw Tryz.func109 rfl rfl fun nx => ?_
  (repeat((conv=>whnf);first|apply ω0|apply ω1|apply ω2|refine τ3 rfl ?_|refine τ4 rfl ?_|refine ⟨rfl,?_⟩|apply τa|refine τb rfl ?_|refine ⟨⟨by kernel_rfl,by kernel_rfl⟩,?_⟩|refine ⟨by decide,?_⟩|apply τt|apply τf))
  refine aw_loop (fun s : Nat × Nat => mk 19 [(0, slOf 8 trowA trow0 l), (1, (.fn (.func f) [] [.rp x, .rp y])), (7, int l.length), (8, int s.1)] ⟨[], [], s.2, 0⟩) (fun s => s.1 ≤ l.length ∧ ∀ j, j < s.1 → p (l.getD j trow0) = false) (fun s => l.length - s.1) ?_ ?_
  · exact ⟨(0, nx), ⟨by simp, by intro j hj; simp at hj⟩, ele_mk rfl rfl ⟨AVle.refl _, AVle.refl _, AVle.refl _, AVle.refl _, trivial⟩⟩
  · rintro ⟨i, nx⟩ ⟨h1, h2⟩
    dsimp only at h1 h2
    (repeat((conv=>whnf);first|apply ω0|apply ω1|apply ω2|refine τ3 rfl ?_|refine τ4 rfl ?_|refine ⟨rfl,?_⟩|apply τa|refine τb rfl ?_|refine ⟨⟨by kernel_rfl,by kernel_rfl⟩,?_⟩|refine ⟨by decide,?_⟩|apply τt|apply τf))
    intro c h3; cases c
    · have h3 := not_of h3
      dsimp only at h3
      (repeat((conv=>whnf);first|apply ω0|apply ω1|apply ω2|refine τ3 rfl ?_|refine τ4 rfl ?_|refine ⟨rfl,?_⟩|apply τa|refine τb rfl ?_|refine ⟨⟨by kernel_rfl,by kernel_rfl⟩,?_⟩|refine ⟨by decide,?_⟩|apply τt|apply τf))
      refine ret_tells rfl (le_int ?_)
      rw [idx_none trow0 (fun j hj => h2 j (by omega))]; rfl
    · have h3 := yes_of h3
      dsimp only at h3
      have hi : i < l.length := by omega
      (repeat((conv=>whnf);first|apply ω0|apply ω1|apply ω2|refine τ3 rfl ?_|refine τ4 rfl ?_|refine ⟨rfl,?_⟩|apply τa|refine τb rfl ?_|refine ⟨⟨by kernel_rfl,by kernel_rfl⟩,?_⟩|refine ⟨by decide,?_⟩|apply τt|apply τf))
      refine ⟨⟨by dsimp only; omega, by dsimp only; omega⟩, ?_⟩
      (repeat((conv=>whnf);first|apply ω0|apply ω1|apply ω2|refine τ3 rfl ?_|refine τ4 rfl ?_|refine ⟨rfl,?_⟩|apply τa|refine τb rfl ?_|refine ⟨⟨by kernel_rfl,by kernel_rfl⟩,?_⟩|refine ⟨by decide,?_⟩|apply τt|apply τf))
      refine aop_tells rfl rfl (hp i hi) ⟨AVle.refl _, AVle.refl _, AVle.refl _, trivial⟩ fun nx' => ?_
      intro c h4; cases c
      · (repeat((conv=>whnf);first|apply ω0|apply ω1|apply ω2|refine τ3 rfl ?_|refine τ4 rfl ?_|refine ⟨rfl,?_⟩|apply τa|refine τb rfl ?_|refine ⟨⟨by kernel_rfl,by kernel_rfl⟩,?_⟩|refine ⟨by decide,?_⟩|apply τt|apply τf))
        refine back (i + 1, nx') ⟨by dsimp only; omega, fun j hj => ?_⟩ (by dsimp only; omega) (ele_mk rfl rfl ⟨AVle.refl _, AVle.refl _, AVle.refl _, le_int (wrap_succ (by dsimp only; omega)), trivial⟩)
        dsimp only at hj
        rcases Nat.lt_or_ge j i with h | h
        · exact h2 j h
        · obtain rfl : j = i := by omega
          exact h4.symm
      · (repeat((conv=>whnf);first|apply ω0|apply ω1|apply ω2|refine τ3 rfl ?_|refine τ4 rfl ?_|refine ⟨rfl,?_⟩|apply τa|refine τb rfl ?_|refine ⟨⟨by kernel_rfl,by kernel_rfl⟩,?_⟩|refine ⟨by decide,?_⟩|apply τt|apply τf))
        refine ret_tells rfl (le_int ?_)
        rw [idx_at trow0 hi h2 h4.symm]; rfl
def subB (mux sub : Int) (r : TRow) : Bool := decide (r.mux = mux) && (decide (r.sub = sub) && decide (mux ≠ 0))
theorem sub1_spec (r : TRow) (mux sub : Int) : Tells Tryz.prog 110 [trowA r, .rp [int mux], .rp [int sub]] (boolA (subB mux sub r)) := by
  refine tells_of_aw Tryz.func110 rfl rfl fun nx => ?_
  (repeat((conv=>whnf);first|apply ω0|apply ω1|apply ω2|refine τ3 rfl ?_|refine τ4 rfl ?_|refine ⟨rfl,?_⟩|apply τa|refine τb rfl ?_|refine ⟨⟨by kernel_rfl,by kernel_rfl⟩,?_⟩|refine ⟨by decide,?_⟩|apply τt|apply τf))
  intro c t1; cases c
  · have e : subB mux sub r = false := by unfold subB; rw [decide_eq_false (by simpa using t1.symm)]; rfl
    rw [e]
    (repeat((conv=>whnf);first|apply ω0|apply ω1|apply ω2|refine τ3 rfl ?_|refine τ4 rfl ?_|refine ⟨rfl,?_⟩|apply τa|refine τb rfl ?_|refine ⟨⟨by kernel_rfl,by kernel_rfl⟩,?_⟩|refine ⟨by decide,?_⟩|apply τt|apply τf))
    exact ret_tells rfl (AVle.refl _)
  · have t1 : r.mux = mux := by simpa using t1.symm
    have e : subB mux sub r = (decide (r.sub = sub) && decide (mux ≠ 0)) := by unfold subB; rw [decide_eq_true t1]; rfl
    rw [e]
    (repeat((conv=>whnf);first|apply ω0|apply ω1|apply ω2|refine τ3 rfl ?_|refine τ4 rfl ?_|refine ⟨rfl,?_⟩|apply τa|refine τb rfl ?_|refine ⟨⟨by kernel_rfl,by kernel_rfl⟩,?_⟩|refine ⟨by decide,?_⟩|apply τt|apply τf))
    intro c t2; cases c
    · rw [decide_eq_false (show ¬ r.sub = sub by simpa using t2.symm)]
      (repeat((conv=>whnf);first|apply ω0|apply ω1|apply ω2|refine τ3 rfl ?_|refine τ4 rfl ?_|refine ⟨rfl,?_⟩|apply τa|refine τb rfl ?_|refine ⟨⟨by kernel_rfl,by kernel_rfl⟩,?_⟩|refine ⟨by decide,?_⟩|apply τt|apply τf))
      exact ret_tells rfl (AVle.refl _)
    · rw [decide_eq_true (show r.sub = sub by simpa using t2.symm)]
      (repeat((conv=>whnf);first|apply ω0|apply ω1|apply ω2|refine τ3 rfl ?_|refine τ4 rfl ?_|refine ⟨rfl,?_⟩|apply τa|refine τb rfl ?_|refine ⟨⟨by kernel_rfl,by kernel_rfl⟩,?_⟩|refine ⟨by decide,?_⟩|apply τt|apply τf))
      intro c t3; cases c
      all_goals
        (repeat((conv=>whnf);first|apply ω0|apply ω1|apply ω2|refine τ3 rfl ?_|refine τ4 rfl ?_|refine ⟨rfl,?_⟩|apply τa|refine τb rfl ?_|refine ⟨⟨by kernel_rfl,by kernel_rfl⟩,?_⟩|refine ⟨by decide,?_⟩|apply τt|apply τf))
        exact ret_tells rfl (le_bool (t3.trans (by rw [Bool.true_and, Bool.eq_iff_iff]; simp)))
def subRes (l : List TRow) : Option Nat → AV
  | some i => .tup [strA (l.getD i trow0).name, boolA true]
  | none => .tup [strA ⟨#[]⟩, boolA false]
theorem idx_lt {l : List TRow} {p : TRow → Bool} {i : Nat} (h : l.findIdx? p = some i) : i < l.length := (List.findIdx?_eq_some_iff_getElem.1 h).1
theorem tabsub_spec (l : List TRow) (mux sub : Int) (hl : l.length ≤ 1000000000) : Tells Tryz.prog 62 [trows l, int mux, int sub] (subRes l (l.findIdx? (subB mux sub))) := by
  have hi := idxf_trow l (subB mux sub) 110 [int mux] [int sub] hl (fun i _ => sub1_spec _ mux sub)
  have hlt := fun i => idx_lt (l := l) (p := subB mux sub) (i := i)
  generalize l.findIdx? (subB mux sub) = o at hi hlt ⊢
  refine tells_of_aw Tryz.func62 rfl rfl fun nx => ?_
  ((repeat((conv=>whnf);first|apply ω0|apply ω2|refine τ3 rfl ?_|refine τ4 rfl ?_|refine ⟨rfl,?_⟩|apply τa|refine τb rfl ?_|refine ⟨⟨by kernel_rfl,by kernel_rfl⟩,?_⟩|refine ⟨by decide,?_⟩|apply τt|apply τf)); refine aw_region ?_; (repeat((conv=>whnf);first|apply ω0|apply ω2|refine τ3 rfl ?_|refine τ4 rfl ?_|refine ⟨rfl,?_⟩|apply τa|refine τb rfl ?_|refine ⟨⟨by kernel_rfl,by kernel_rfl⟩,?_⟩|refine ⟨by decide,?_⟩|apply τt|apply τf)))
  refine aw_freeze (n := 19) (nx := nx + 2) (nn := 2) (pm := []) (bx := []) (L := [(0, trows l), (4, .rp [int mux]), (5, .rp [int sub])]) (df := some []) [((1, nx + 1), .c [int sub]), ((0, nx), .c [int mux])] rfl rfl rfl (List.Perm.refl _) (List.Sublist.refl _) ⟨Frz.refl _, Frz.bp (.tail _ (.head _)) rfl, Frz.bp (.head _) rfl, trivial⟩ ?_
  (repeat((conv=>whnf);first|apply ω0|apply ω1|apply ω2|refine τ3 rfl ?_|refine τ4 rfl ?_|refine ⟨rfl,?_⟩|apply τa|refine τb rfl ?_|refine ⟨⟨by kernel_rfl,by kernel_rfl⟩,?_⟩|refine ⟨by decide,?_⟩|apply τt|apply τf))
  refine aop_tells rfl rfl hi ⟨AVle.refl _, AVle.refl _, trivial⟩ fun nx2 => ?_
  rcases o with _ | i
  · (repeat((conv=>whnf);first|apply ω0|apply ω1|apply ω2|refine τ3 rfl ?_|refine τ4 rfl ?_|refine ⟨rfl,?_⟩|apply τa|refine τb rfl ?_|refine ⟨⟨by kernel_rfl,by kernel_rfl⟩,?_⟩|refine ⟨by decide,?_⟩|apply τt|apply τf))
    exact ret_tells rfl (AVle.refl _)
  · have hi := hlt i rfl
    (repeat((conv=>whnf);first|apply ω0|apply ω1|apply ω2|refine τ3 rfl ?_|refine τ4 rfl ?_|refine ⟨rfl,?_⟩|apply τa|refine τb rfl ?_|refine ⟨⟨by kernel_rfl,by kernel_rfl⟩,?_⟩|refine ⟨by decide,?_⟩|apply τt|apply τf))
    refine ⟨⟨Int.natCast_nonneg i, show (i : Int) < (l.length : Int) by omega⟩, ?_⟩
    (repeat((conv=>whnf);first|apply ω0|apply ω1|apply ω2|refine τ3 rfl ?_|refine τ4 rfl ?_|refine ⟨rfl,?_⟩|apply τa|refine τb rfl ?_|refine ⟨⟨by kernel_rfl,by kernel_rfl⟩,?_⟩|refine ⟨by decide,?_⟩|apply τt|apply τf))
    exact ret_tells rfl (AVle.refl _)
def nameB5 (a : Nat) (n : Int) (r : TRow) : Bool := decide (r.num a = n)
theorem name1_spec (r : TRow) (a : Nat) (ha : a < 5) (n : Int) (hn : 0 ≤ n) : Tells Tryz.prog 111 [trowA r, .rp [int a], .rp [int n]] (boolA (nameB5 a n r)) := by
  have hne : decide (n ≠ -1) = true := decide_eq_true (by omega)
  have hne2 : (n != -1) = true := by simp; omega
  unfold nameB5
  refine tells_of_aw Tryz.func111 rfl rfl fun nx => ?_
  rcases (by omega : a = 0 ∨ a = 1 ∨ a = 2 ∨ a = 3 ∨ a = 4) with rfl | rfl | rfl | rfl | rfl
  all_goals
    (repeat((conv=>whnf);first|apply ω0|apply ω1|apply ω2|refine τ3 rfl ?_|refine τ4 rfl ?_|refine ⟨rfl,?_⟩|apply τa|refine τb rfl ?_|refine ⟨⟨by kernel_rfl,by kernel_rfl⟩,?_⟩|refine ⟨by decide,?_⟩|apply τt|apply τf))
    (refine aw_draw 11 ?_ ?_ ?_ ?_; (· kernel_rfl); (· kernel_rfl); (· kernel_rfl))
    (repeat((conv=>whnf);first|apply ω0|apply ω1|apply ω2|refine τ3 rfl ?_|refine τ4 rfl ?_|refine ⟨rfl,?_⟩|apply τa|refine τb rfl ?_|refine ⟨⟨by kernel_rfl,by kernel_rfl⟩,?_⟩|refine ⟨by decide,?_⟩|apply τt|apply τf))
    intro c t1; cases c
    · (repeat((conv=>whnf);first|apply ω0|apply ω1|apply ω2|refine τ3 rfl ?_|refine τ4 rfl ?_|refine ⟨rfl,?_⟩|apply τa|refine τb rfl ?_|refine ⟨⟨by kernel_rfl,by kernel_rfl⟩,?_⟩|refine ⟨by decide,?_⟩|apply τt|apply τf))
      exact ret_tells rfl (le_bool (decide_eq_false (beq_eq_false_iff_ne.1 t1.symm)).symm)
    · (repeat((conv=>whnf);first|apply ω0|apply ω1|apply ω2|refine τ3 rfl ?_|refine τ4 rfl ?_|refine ⟨rfl,?_⟩|apply τa|refine τb rfl ?_|refine ⟨⟨by kernel_rfl,by kernel_rfl⟩,?_⟩|refine ⟨by decide,?_⟩|apply τt|apply τf))
      (conv => whnf)
      refine lit_eq hne2 ?_
      (repeat((conv=>whnf);first|apply ω0|apply ω1|apply ω2|refine τ3 rfl ?_|refine τ4 rfl ?_|refine ⟨rfl,?_⟩|apply τa|refine τb rfl ?_|refine ⟨⟨by kernel_rfl,by kernel_rfl⟩,?_⟩|refine ⟨by decide,?_⟩|apply τt|apply τf))
      exact ret_tells rfl (le_bool (decide_eq_true (beq_iff_eq.1 t1.symm)).symm)
def nameRes (l : List TRow) : Option Nat → AV
  | some i => .tup [strA (l.getD i trow0).name, int 0]
  | none => .tup [strA ⟨#[]⟩, int 14]
theorem tabname_spec (l : List TRow) (a : Nat) (ha : a < 5) (n : Int) (hn : 0 ≤ n) (hl : l.length ≤ 1000000000) : Tells Tryz.prog 64 [trows l, int a, int n] (nameRes l (l.findIdx? (nameB5 a n))) := by
  have hi := idxf_trow l (nameB5 a n) 111 [int a] [int n] hl (fun i _ => name1_spec _ a ha n hn)
  have hlt := fun i => idx_lt (l := l) (p := nameB5 a n) (i := i)
  generalize l.findIdx? (nameB5 a n) = o at hi hlt ⊢
  have hd1 : decide ((a : Int) < 0) = false := decide_eq_false (by omega)
  have hd2 : decide ((a : Int) ≥ 5) = false := decide_eq_false (by omega)
  have hd3 : decide (n < 0) = false := decide_eq_false (by omega)
  refine tells_of_aw Tryz.func64 rfl rfl fun nx => ?_
  ((repeat((conv=>whnf);first|apply ω0|apply ω2|refine τ3 rfl ?_|refine τ4 rfl ?_|refine ⟨rfl,?_⟩|apply τa|refine τb rfl ?_|refine ⟨⟨by kernel_rfl,by kernel_rfl⟩,?_⟩|refine ⟨by decide,?_⟩|apply τt|apply τf)); refine aw_region ?_; (repeat((conv=>whnf);first|apply ω0|apply ω2|refine τ3 rfl ?_|refine τ4 rfl ?_|refine ⟨rfl,?_⟩|apply τa|refine τb rfl ?_|refine ⟨⟨by kernel_rfl,by kernel_rfl⟩,?_⟩|refine ⟨by decide,?_⟩|apply τt|apply τf)))
  refine aw_freeze (n := 47) (nx := nx + 2) (nn := 2) (pm := []) (bx := []) (L := [(0, trows l), (4, .rp [int a]), (5, .rp [int n])]) (df := some []) [((1, nx + 1), .c [int n]), ((0, nx), .c [int a])] rfl rfl rfl (List.Perm.refl _) (List.Sublist.refl _) ⟨Frz.refl _, Frz.bp (.tail _ (.head _)) rfl, Frz.bp (.head _) rfl, trivial⟩ ?_
  (repeat((conv=>whnf);first|apply ω0|apply ω1|apply ω2|refine τ3 rfl ?_|refine τ4 rfl ?_|refine ⟨rfl,?_⟩|apply τa|refine τb rfl ?_|refine ⟨⟨by kernel_rfl,by kernel_rfl⟩,?_⟩|refine ⟨by decide,?_⟩|apply τt|apply τf))
  (conv => whnf)
  refine lit_eq hd2 ?_
  (repeat((conv=>whnf);first|apply ω0|apply ω1|apply ω2|refine τ3 rfl ?_|refine τ4 rfl ?_|refine ⟨rfl,?_⟩|apply τa|refine τb rfl ?_|refine ⟨⟨by kernel_rfl,by kernel_rfl⟩,?_⟩|refine ⟨by decide,?_⟩|apply τt|apply τf))
  refine aop_tells rfl rfl hi ⟨AVle.refl _, AVle.refl _, trivial⟩ fun nx2 => ?_
  rcases o with _ | i
  · (repeat((conv=>whnf);first|apply ω0|apply ω1|apply ω2|refine τ3 rfl ?_|refine τ4 rfl ?_|refine ⟨rfl,?_⟩|apply τa|refine τb rfl ?_|refine ⟨⟨by kernel_rfl,by kernel_rfl⟩,?_⟩|refine ⟨by decide,?_⟩|apply τt|apply τf))
    (refine aw_draw 20 ?_ ?_ ?_ ?_; (· kernel_rfl); (· kernel_rfl); (· kernel_rfl))
    (repeat((conv=>whnf);first|apply ω0|apply ω1|apply ω2|refine τ3 rfl ?_|refine τ4 rfl ?_|refine ⟨rfl,?_⟩|apply τa|refine τb rfl ?_|refine ⟨⟨by kernel_rfl,by kernel_rfl⟩,?_⟩|refine ⟨by decide,?_⟩|apply τt|apply τf))
    (conv => whnf)
    refine lit_eq hd3 ?_
    (repeat((conv=>whnf);first|apply ω0|apply ω1|apply ω2|refine τ3 rfl ?_|refine τ4 rfl ?_|refine ⟨rfl,?_⟩|apply τa|refine τb rfl ?_|refine ⟨⟨by kernel_rfl,by kernel_rfl⟩,?_⟩|refine ⟨by decide,?_⟩|apply τt|apply τf))
    exact ret_tells rfl (AVle.refl _)
  · have hi := hlt i rfl
    (repeat((conv=>whnf);first|apply ω0|apply ω1|apply ω2|refine τ3 rfl ?_|refine τ4 rfl ?_|refine ⟨rfl,?_⟩|apply τa|refine τb rfl ?_|refine ⟨⟨by kernel_rfl,by kernel_rfl⟩,?_⟩|refine ⟨by decide,?_⟩|apply τt|apply τf))
    (refine aw_draw 20 ?_ ?_ ?_ ?_; (· kernel_rfl); (· kernel_rfl); (· kernel_rfl))
    (repeat((conv=>whnf);first|apply ω0|apply ω1|apply ω2|refine τ3 rfl ?_|refine τ4 rfl ?_|refine ⟨rfl,?_⟩|apply τa|refine τb rfl ?_|refine ⟨⟨by kernel_rfl,by kernel_rfl⟩,?_⟩|refine ⟨by decide,?_⟩|apply τt|apply τf))
    (conv => whnf)
    refine lit_eq hd3 ?_
    (repeat((conv=>whnf);first|apply ω0|apply ω1|apply ω2|refine τ3 rfl ?_|refine τ4 rfl ?_|refine ⟨rfl,?_⟩|apply τa|refine τb rfl ?_|refine ⟨⟨by kernel_rfl,by kernel_rfl⟩,?_⟩|refine ⟨by decide,?_⟩|apply τt|apply τf))
    refine ⟨⟨Int.natCast_nonneg i, show (i : Int) < (l.length : Int) by omega⟩, ?_⟩
    (repeat((conv=>whnf);first|apply ω0|apply ω1|apply ω2|refine τ3 rfl ?_|refine τ4 rfl ?_|refine ⟨rfl,?_⟩|apply τa|refine τb rfl ?_|refine ⟨⟨by kernel_rfl,by kernel_rfl⟩,?_⟩|refine ⟨by decide,?_⟩|apply τt|apply τf))
    exact ret_tells rfl (AVle.refl _)
end Go.Proofs.W
