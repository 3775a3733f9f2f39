import Derived.Test.YtbmbjpphmgnmnaaGreatD
import Derived.KernelRfl
import Derived.Test.YtbmbjpphmgnmnaaGreatProg
import Derived.Test.YtbmbjpphmgnmnaaGreatC
import Derived.Shelf.SortM.Plain
import Derived.Shelf.SortM.SortNone
import Derived.Shelf.SlGeneric
import Derived.Ground.SlgmProg
set_option linter.unusedVariables false
set_option linter.unusedSimpArgs false
namespace Go.Proofs.W
open Go.Vl
set_option maxRecDepth 100000

def hpX_u32 (s s2 : Nat) (z : Int) (d : Array (Int)) (tl : List AV) : List (Vl.Id × Own) := [((1, s2), .c [.v (.int .u64 z)]), ((0, s), .c (rowG eA_u32 d tl))]

set_option maxHeartbeats 4000000 in
theorem break_u32 (d0 : Array (Int)) (tl : List AV) (n a b : Nat) (hn : d0.size = n) (hab : a ≤ b) (hb : b ≤ n) (hsz : n ≤ 1000000) (s cap nx : Nat) :
    ECall Tryz.prog 68 [.hs (0, s) 0 n cap, int a, int b] ⟨rowH_u32 s d0 tl, [], nx, 1⟩ (fun r h' => ∃ d' nx' nn', Go.Sort.PermIn a b d0 d' ∧ h' = ⟨rowH_u32 s d' tl, [], nx', nn'⟩) := by
  refine ECall.wk (ecall_of_aw Tryz.func68 rfl rfl ?_)
  have el : IntKind.i64.wrap ((b : Int) - (a : Int)) = ((b - a : Nat) : Int) := wrapN (by omega) (by omega)
  obtain ⟨L, hL⟩ : ∃ L, L = b - a := ⟨_, rfl⟩
  rw [← hL] at el
  ((repeat((conv=>whnf);first|apply ω0|apply ω2|refine τ3 rfl ?_|refine τ4 rfl ?_|refine ⟨rfl,?_⟩|apply τa|refine τb rfl ?_|refine ⟨⟨by kernel_rfl,by kernel_rfl⟩,?_⟩|refine ⟨by decide,?_⟩|apply τt|apply τf)); refine aw_region ?_; (repeat((conv=>whnf);first|apply ω0|apply ω2|refine τ3 rfl ?_|refine τ4 rfl ?_|refine ⟨rfl,?_⟩|apply τa|refine τb rfl ?_|refine ⟨⟨by kernel_rfl,by kernel_rfl⟩,?_⟩|refine ⟨by decide,?_⟩|apply τt|apply τf)))
  refine aw_reset (bx := rowH_u32 s d0 tl) (pm := []) (nx := nx) (nn := 1) (df := some []) (L := [(0, .hs (0, s) 0 n cap), (1, int a), (6, int L)]) rfl rfl rfl (List.Sublist.refl _) .slnil ⟨AVle.refl _, AVle.refl _, le_int el, trivial⟩ ?_
  (repeat((conv=>whnf);first|apply ω0|apply ω1|apply ω2|refine τ3 rfl ?_|refine τ4 rfl ?_|refine ⟨rfl,?_⟩|apply τa|refine τb rfl ?_|refine ⟨⟨by kernel_rfl,by kernel_rfl⟩,?_⟩|refine ⟨by decide,?_⟩|apply τt|apply τf))
  intro c g8; cases c
  · (repeat((conv=>whnf);first|apply ω0|apply ω1|apply ω2|refine τ3 rfl ?_|refine τ4 rfl ?_|refine ⟨rfl,?_⟩|apply τa|refine τb rfl ?_|refine ⟨⟨by kernel_rfl,by kernel_rfl⟩,?_⟩|refine ⟨by decide,?_⟩|apply τt|apply τf))
    exact ret_is rfl ⟨_, _, AVle.refl _, hle_tell (rowH_u32 s d0 tl) [] rfl (List.Sublist.refl _) .slnil (BxLe.refl _) (PmEq.refl _), d0, _, 1, Go.Sort.permIn_refl _ _ _, rfl⟩
  · have g8 := yes_of g8
    try dsimp only at g8
    have hM2 := bitLen_two (n := L) (by omega) (by omega)
    have hM0 : 0 < 2 ^ Lib.bitLen L := Nat.two_pow_pos _
    have hnp := nextPow_spec L (by omega) (by omega)
    (repeat((conv=>whnf);first|apply ω0|apply ω1|apply ω2|refine τ3 rfl ?_|refine τ4 rfl ?_|refine ⟨rfl,?_⟩|apply τa|refine τb rfl ?_|refine ⟨⟨by kernel_rfl,by kernel_rfl⟩,?_⟩|refine ⟨by decide,?_⟩|apply τt|apply τf))
    refine aop_tells rfl rfl hnp ⟨AVle.refl _, trivial⟩ fun nx1 => ?_
    replace hM2 := hM2.1
    generalize 2 ^ Lib.bitLen L = M at hM0 hM2 hnp
    have e1 : IntKind.i64.wrap (IntKind.i64.wrap ((a : Int) + IntKind.i64.wrap (IntKind.i64.wrap (Int.tdiv (L : Int) 4) * 2)) - 1) = ((a + L / 4 * 2 - 1 + 0 : Nat) : Int) := by
      rw [show Int.tdiv (L : Int) 4 = ((L / 4 : Nat) : Int) from rfl, wrap_id (n := ((L / 4 : Nat) : Int)) (by omega) (by omega), wrap_id (n := ((L / 4 : Nat) : Int) * 2) (by omega) (by omega), wrap_id (n := (a : Int) + ((L / 4 : Nat) : Int) * 2) (by omega) (by omega), wrap_id (by omega) (by omega)]
      omega
    have e2 : IntKind.i64.wrap (IntKind.i64.wrap ((a : Int) + IntKind.i64.wrap (IntKind.i64.wrap (Int.tdiv (L : Int) 4) * 2)) + 1) = ((a + L / 4 * 2 + 1 : Nat) : Int) := by
      rw [show Int.tdiv (L : Int) 4 = ((L / 4 : Nat) : Int) from rfl, wrap_id (n := ((L / 4 : Nat) : Int)) (by omega) (by omega), wrap_id (n := ((L / 4 : Nat) : Int) * 2) (by omega) (by omega), wrap_id (n := (a : Int) + ((L / 4 : Nat) : Int) * 2) (by omega) (by omega), wrap_id (by omega) (by omega)]
      omega
    have eM : IntKind.u64.wrap ((M : Int) - 1) = ((M - 1 : Nat) : Int) := (IntWalk.u64_in _ (by omega)).trans (by omega)
    (repeat((conv=>whnf);first|apply ω0|apply ω1|apply ω2|refine τ3 rfl ?_|refine τ4 rfl ?_|refine ⟨rfl,?_⟩|apply τa|refine τb rfl ?_|refine ⟨⟨by kernel_rfl,by kernel_rfl⟩,?_⟩|refine ⟨by decide,?_⟩|apply τt|apply τf))
    refine aw_loop (fun y : Array (Int) × Nat × Int × Nat => mk 65 [(0, .hs (0, s) 0 n cap), (1, int a), (6, int L), (7, .bp (1, nx) 0), (8, .v (.int .u64 (M : Int))), (9, int (a + L / 4 * 2 - 1 + y.2.1 : Nat))] ⟨hpX_u32 s nx y.2.2.1 y.1 tl, [], y.2.2.2, 2⟩) (fun y => y.1.size = n ∧ y.2.1 ≤ 3 ∧ Go.Sort.PermIn a b d0 y.1) (fun y => 3 - y.2.1) ?_ ?_
    · exact ⟨(d0, 0, _, nx1), ⟨hn, by dsimp only; omega, Go.Sort.permIn_refl _ _ _⟩, ele_tell _ _ rfl rfl (List.Sublist.refl _) .slnil (BxLe.refl _) trivial ⟨AVle.refl _, AVle.refl _, AVle.refl _, AVle.refl _, AVle.refl _, le_int e1, trivial⟩⟩
    · rintro ⟨d, m, z, nx2⟩ ⟨h1, h2, h3⟩
      dsimp only at h1 h2 h3
      (repeat((conv=>whnf);first|apply ω0|apply ω1|apply ω2|refine τ3 rfl ?_|refine τ4 rfl ?_|refine ⟨rfl,?_⟩|apply τa|refine τb rfl ?_|refine ⟨⟨by kernel_rfl,by kernel_rfl⟩,?_⟩|refine ⟨by decide,?_⟩|apply τt|apply τf))
      intro c g; cases c
      · (repeat((conv=>whnf);first|apply ω0|apply ω1|apply ω2|refine τ3 rfl ?_|refine τ4 rfl ?_|refine ⟨rfl,?_⟩|apply τa|refine τb rfl ?_|refine ⟨⟨by kernel_rfl,by kernel_rfl⟩,?_⟩|refine ⟨by decide,?_⟩|apply τt|apply τf))
        exact ret_is rfl ⟨_, _, AVle.refl _, hle_tell (rowH_u32 s d tl) [] rfl (.cons _ (List.Sublist.refl _)) .slnil (BxLe.refl _) (PmEq.refl _), d, _, 1, h3, rfl⟩
      · have g := yes_of g
        replace g := (show ((a + L / 4 * 2 - 1 + m : Nat) : Int) ≤ IntKind.i64.wrap (IntKind.i64.wrap ((a : Int) + IntKind.i64.wrap (IntKind.i64.wrap (Int.tdiv (L : Int) 4) * 2)) + 1) from g)
        rw [e2] at g
        have hm : m ≤ 2 := by omega
        (repeat((conv=>whnf);first|apply ω0|apply ω2|refine τ3 rfl ?_|refine τ4 rfl ?_|refine ⟨rfl,?_⟩|apply τa|refine τb rfl ?_|refine ⟨⟨by kernel_rfl,by kernel_rfl⟩,?_⟩|refine ⟨by decide,?_⟩|apply τt|apply τf))
        refine aw_region ?_
        (repeat((conv=>whnf);first|apply ω0|apply ω2|refine τ3 rfl ?_|refine τ4 rfl ?_|refine ⟨rfl,?_⟩|apply τa|refine τb rfl ?_|refine ⟨⟨by kernel_rfl,by kernel_rfl⟩,?_⟩|refine ⟨by decide,?_⟩|apply τt|apply τf))
        refine aop_callF (xs := [.bp (1, nx) 0]) [] [] 2 rfl rfl rfl rfl ⟨AVle.refl _, trivial⟩ (xorNext_spec z (rowG eA_u32 d tl) s nx _) (BxLe.refl _) (PmEq.refl _) rfl fun r h' hq => ?_
        obtain ⟨z', nx3, nn', rfl, rfl⟩ := hq
        obtain ⟨k, hk1, hk2⟩ := band_le z' (m := M - 1) (by omega)
        rw [← eM] at hk2
        (repeat((conv=>whnf);first|apply ω0|apply ω2|refine τ3 rfl ?_|refine τ4 rfl ?_|refine ⟨rfl,?_⟩|apply τa|refine τb rfl ?_|refine ⟨⟨by kernel_rfl,by kernel_rfl⟩,?_⟩|refine ⟨by decide,?_⟩|apply τt|apply τf))
        refine AW.le (E' := mk 65 [(0, .hs (0, s) 0 n cap), (1, int a), (6, int L), (7, .bp (1, nx) 0), (8, .v (.int .u64 (M : Int))), (9, int (a + L / 4 * 2 - 1 + m : Nat)), (10, int k)] ⟨hpX_u32 s nx z' d tl, [], nx3, 2⟩) (ele_tell _ _ rfl rfl (List.Sublist.refl _) .slnil (BxLe.refl _) trivial ⟨AVle.refl _, AVle.refl _, AVle.refl _, AVle.refl _, AVle.refl _, AVle.refl _, le_int (by rw [hk2]; exact wrapN rfl (by omega)), trivial⟩) ?_
        clear hk2 e2 eM e1
        refine aw_mid2 (fun y : Nat × Nat => mk 65 [(0, .hs (0, s) 0 n cap), (1, int a), (6, int L), (7, .bp (1, nx) 0), (8, .v (.int .u64 (M : Int))), (9, int (a + L / 4 * 2 - 1 + m : Nat)), (10, int y.1)] ⟨hpX_u32 s nx z' d tl, [], y.2, 2⟩) (fun y => y.1 < L) ?_ ?_
        · (repeat((conv=>whnf);first|apply ω0|apply ω1|apply ω2|refine τ3 rfl ?_|refine τ4 rfl ?_|refine ⟨rfl,?_⟩|apply τa|refine τb rfl ?_|refine ⟨⟨by kernel_rfl,by kernel_rfl⟩,?_⟩|refine ⟨by decide,?_⟩|apply τt|apply τf))
          intro c g2; cases c
          · have g2 := not_of g2
            try dsimp only at g2
            (repeat((conv=>whnf);first|apply ω0|apply ω1|apply ω2|refine τ3 rfl ?_|refine τ4 rfl ?_|refine ⟨rfl,?_⟩|apply τa|refine τb rfl ?_|refine ⟨⟨by kernel_rfl,by kernel_rfl⟩,?_⟩|refine ⟨by decide,?_⟩|apply τt|apply τf))
            exact ⟨(k, nx3), by first | omega | (dsimp only; omega), ele_tell _ _ rfl rfl (List.Sublist.refl _) .slnil (BxLe.refl _) trivial ⟨AVle.refl _, AVle.refl _, AVle.refl _, AVle.refl _, AVle.refl _, AVle.refl _, AVle.refl _, trivial⟩⟩
          · have g2 := yes_of g2
            try dsimp only at g2
            (repeat((conv=>whnf);first|apply ω0|apply ω1|apply ω2|refine τ3 rfl ?_|refine τ4 rfl ?_|refine ⟨rfl,?_⟩|apply τa|refine τb rfl ?_|refine ⟨⟨by kernel_rfl,by kernel_rfl⟩,?_⟩|refine ⟨by decide,?_⟩|apply τt|apply τf))
            exact ⟨(k - L, nx3), by first | omega | (dsimp only; omega), ele_tell _ _ rfl rfl (List.Sublist.refl _) .slnil (BxLe.refl _) trivial ⟨AVle.refl _, AVle.refl _, AVle.refl _, AVle.refl _, AVle.refl _, AVle.refl _, le_int (by rw [wrap_id (by first | omega | (dsimp only; omega)) (by first | omega | (dsimp only; omega))]; dsimp only; omega), trivial⟩⟩
        · rintro ⟨o, nx4⟩ ho
          dsimp only at ho
          have eo : IntKind.i64.wrap ((a : Int) + (o : Int)) = ((a + o : Nat) : Int) := wrapN (by omega) (by omega)
          (repeat((conv=>whnf);first|apply ω0|apply ω1|apply ω2|refine τ3 rfl ?_|refine τ4 rfl ?_|refine ⟨rfl,?_⟩|apply τa|refine τb rfl ?_|refine ⟨⟨by kernel_rfl,by kernel_rfl⟩,?_⟩|refine ⟨by decide,?_⟩|apply τt|apply τf))
          refine aw_mix3 20 (fun i => match i with | 17 => true | 19 => true | _ => false) (fun i => match i with | 11 => true | 15 => true | _ => false) [0, 1, 2, 3, 4, 5, 6, 7, 8, 9, 10, 12, 13, 14, 11, 15, 16, 17, 18, 19] (by kernel_rfl) (by kernel_rfl) ?_
          (conv => whnf)
          refine ⟨⟨ixge (i := a + o) (eo), ixlt (i := a + o) (eo) (by omega)⟩, ?_⟩
          (conv => whnf)
          refine ⟨⟨ixge (i := a + L / 4 * 2 - 1 + m) (rfl), ixlt (i := a + L / 4 * 2 - 1 + m) (rfl) (by omega)⟩, ?_⟩
          (conv => whnf)
          refine ⟨eA_u32 d[a + o]!, now_row (E := eA_u32) (d := d) (tl := tl) (j := a + o) rfl rfl rfl (ixof (i := a + o) c_u32 (eo)) rfl u_u32 rfl (by omega), ?_⟩
          (conv => whnf)
          refine ⟨eA_u32 d[a + L / 4 * 2 - 1 + m]!, now_row (E := eA_u32) (d := d) (tl := tl) (j := a + L / 4 * 2 - 1 + m) rfl rfl rfl (ixof (i := a + L / 4 * 2 - 1 + m) c_u32 (rfl)) rfl u_u32 rfl (by omega), ?_⟩
          (conv => whnf)
          refine ⟨⟨ixge (i := a + L / 4 * 2 - 1 + m) (rfl), ixlt (i := a + L / 4 * 2 - 1 + m) (rfl) (by omega)⟩, ?_⟩
          (conv => whnf)
          refine ⟨_, eff_row (E := eA_u32) (d := d) (tl := tl) (j := a + L / 4 * 2 - 1 + m) (z := d[a + o]!) rfl rfl rfl rfl (ixof (i := a + L / 4 * 2 - 1 + m) c_u32 (rfl)) rfl rfl rfl rfl (by kernel_rfl) c_u32 (by omega), fun r0 h0 hr0 => ?_⟩
          subst hr0
          (conv => whnf)
          refine ⟨⟨ixge (i := a + o) (eo), ixlt (i := a + o) (eo) (by omega)⟩, ?_⟩
          (conv => whnf)
          refine ⟨_, eff_row (E := eA_u32) (d := (d).setIfInBounds (a + L / 4 * 2 - 1 + m) d[a + o]!) (tl := tl) (j := a + o) (z := d[a + L / 4 * 2 - 1 + m]!) rfl rfl rfl rfl (ixof (i := a + o) c_u32 (eo)) rfl rfl rfl rfl (by kernel_rfl) c_u32 (by simp; omega), fun r0 h0 hr0 => ?_⟩
          subst hr0
          (repeat((conv=>whnf);first|apply ω0|apply ω1|apply ω2|refine τ3 rfl ?_|refine τ4 rfl ?_|refine ⟨rfl,?_⟩|apply τa|refine τb rfl ?_|refine ⟨⟨by kernel_rfl,by kernel_rfl⟩,?_⟩|refine ⟨by decide,?_⟩|apply τt|apply τf))
          exact back (Go.Sort.swp d (a + L / 4 * 2 - 1 + m) (a + o), m + 1, z', nx4) ⟨by dsimp only; rw [swpG_size]; exact h1, by dsimp only; omega, Go.Sort.permIn_trans _ _ _ a b h3 (Go.Sort.swp_permIn d a b _ _ (by omega) (by omega) (by omega) (by omega) (by omega))⟩ (by dsimp only; omega) (ele_tell _ _ rfl rfl (List.Sublist.refl _) .slnil (BxLe.refl _) trivial ⟨AVle.refl _, AVle.refl _, AVle.refl _, AVle.refl _, AVle.refl _, le_int (by rw [wrap_id (by first | omega | (dsimp only; omega)) (by first | omega | (dsimp only; omega))]; dsimp only; omega), trivial⟩)
set_option maxHeartbeats 8000000 in
theorem pins_u32 (d0 : Array (Int)) (tl : List AV) (n a b : Nat) (hn : d0.size = n) (hab : a < b) (hb : b ≤ n) (hsz : n ≤ 1000000) (s cap nx : Nat) :
    ECall Tryz.prog 71 [.hs (0, s) 0 n cap, int a, int b] ⟨rowH_u32 s d0 tl, [], nx, 1⟩ (fun r h' => ∃ nx' nn', r = .v (.bool (Go.Sort.partialInsertionSort Go.Sort.ltInt d0 a b).2) ∧ h' = ⟨rowH_u32 s (Go.Sort.partialInsertionSort Go.Sort.ltInt d0 a b).1 tl, [], nx', nn'⟩) := by
  refine ECall.wk (ecall_of_aw Tryz.func71 rfl rfl ?_)
  have hP : Go.Sort.partialIns Go.Sort.ltInt a b 5 (a + 1) d0 = Go.Sort.partialInsertionSort Go.Sort.ltInt d0 a b := rfl
  generalize Go.Sort.partialInsertionSort Go.Sort.ltInt d0 a b = Pt at hP ⊢
  (repeat((conv=>whnf);first|apply ω0|apply ω1|apply ω2|refine τ3 rfl ?_|refine τ4 rfl ?_|refine ⟨rfl,?_⟩|apply τa|refine τb rfl ?_|refine ⟨⟨by kernel_rfl,by kernel_rfl⟩,?_⟩|refine ⟨by decide,?_⟩|apply τt|apply τf))
  refine aw_loop (fun y : Array (Int) × (Nat × Nat) × Nat => mk 133 [(0, .hs (0, s) 0 n cap), (1, int a), (2, int b), (7, int y.2.1.1), (8, int y.2.1.2)] ⟨rowH_u32 s y.1 tl, [], y.2.2, 1⟩) (fun y => y.1.size = n ∧ (a + 1 ≤ y.2.1.1 ∧ y.2.1.1 ≤ b) ∧ y.2.1.2 ≤ 5 ∧ Go.Sort.partialIns Go.Sort.ltInt a b (5 - y.2.1.2) y.2.1.1 y.1 = Pt) (fun y => 5 - y.2.1.2) ?_ ?_
  · exact ⟨(d0, (a + 1, 0), _), ⟨hn, ⟨Nat.le_refl _, by dsimp only; omega⟩, by dsimp only; omega, hP⟩, ele_tell _ _ rfl rfl (List.Sublist.refl _) .slnil (BxLe.refl _) trivial ⟨AVle.refl _, AVle.refl _, AVle.refl _, le_int (wrap_succ (by omega)), AVle.refl _, trivial⟩⟩
  · rintro ⟨d1, ⟨i1, st⟩, nx1⟩ ⟨h1, h2, h3, h4⟩
    dsimp only at h1 h2 h3 h4
    (repeat((conv=>whnf);first|apply ω0|apply ω1|apply ω2|refine τ3 rfl ?_|refine τ4 rfl ?_|refine ⟨rfl,?_⟩|apply τa|refine τb rfl ?_|refine ⟨⟨by kernel_rfl,by kernel_rfl⟩,?_⟩|refine ⟨by decide,?_⟩|apply τt|apply τf))
    intro c g; cases c
    · have g := not_of g
      try dsimp only at g
      obtain rfl : st = 5 := by omega
      subst h4
      (repeat((conv=>whnf);first|apply ω0|apply ω1|apply ω2|refine τ3 rfl ?_|refine τ4 rfl ?_|refine ⟨rfl,?_⟩|apply τa|refine τb rfl ?_|refine ⟨⟨by kernel_rfl,by kernel_rfl⟩,?_⟩|refine ⟨by decide,?_⟩|apply τt|apply τf))
      exact ret_is rfl ⟨_, _, AVle.refl _, hle_tell (rowH_u32 s d1 tl) [] rfl (List.Sublist.refl _) .slnil (BxLe.refl _) (PmEq.refl _), _, 1, rfl, rfl⟩
    · have g := yes_of g
      try dsimp only at g
      obtain ⟨m, hm⟩ : ∃ m, 5 - st = m + 1 := ⟨4 - st, by omega⟩
      rw [hm, Go.Sort.partialIns_succ] at h4
      (repeat((conv=>whnf);first|apply ω0|apply ω1|apply ω2|refine τ3 rfl ?_|refine τ4 rfl ?_|refine ⟨rfl,?_⟩|apply τa|refine τb rfl ?_|refine ⟨⟨by kernel_rfl,by kernel_rfl⟩,?_⟩|refine ⟨by decide,?_⟩|apply τt|apply τf))
      refine aw_midB (fun y : Nat × Nat => mk 133 [(0, .hs (0, s) 0 n cap), (1, int a), (2, int b), (7, int y.1), (8, int st)] ⟨rowH_u32 s d1 tl, [], y.2, 1⟩) (fun y => (a + 1 ≤ y.1 ∧ y.1 ≤ b) ∧ y.1 = Go.Sort.scanSorted Go.Sort.ltInt d1 b i1) ?_ ?_
      · refine aw_loop (fun y : Nat × Nat => mk 133 [(0, .hs (0, s) 0 n cap), (1, int a), (2, int b), (7, int y.1), (8, int st)] ⟨rowH_u32 s d1 tl, [], y.2, 1⟩) (fun y => (a + 1 ≤ y.1 ∧ y.1 ≤ b) ∧ Go.Sort.scanSorted Go.Sort.ltInt d1 b y.1 = Go.Sort.scanSorted Go.Sort.ltInt d1 b i1) (fun y => b - y.1) ?_ ?_
        · exact ⟨(i1, nx1), ⟨h2, rfl⟩, ele_tell _ _ rfl rfl (List.Sublist.refl _) .slnil (BxLe.refl _) trivial ⟨AVle.refl _, AVle.refl _, AVle.refl _, AVle.refl _, AVle.refl _, trivial⟩⟩
        · rintro ⟨k, nx2⟩ ⟨k1, k2⟩
          dsimp only at k1 k2
          by_cases hij : k < b
          · have hd : decide (((k : Nat) : Int) < ((b : Nat) : Int)) = true := decide_eq_true (by omega)
            have hj1 : IntKind.i64.wrap ((k : Int) - 1) = ((k - 1 : Nat) : Int) := by rw [wrap_id (by omega) (by omega)]; omega
            (repeat((conv=>whnf);first|apply ω0|apply ω1|apply ω2|refine τ3 rfl ?_|refine τ4 rfl ?_|refine ⟨rfl,?_⟩|apply τa|refine τb rfl ?_|refine ⟨⟨by kernel_rfl,by kernel_rfl⟩,?_⟩|refine ⟨by decide,?_⟩|apply τt|apply τf))
            (refine aw_draw 16 ?_ ?_ ?_ ?_; (· kernel_rfl); (· kernel_rfl); (· kernel_rfl))
            (repeat((conv=>whnf);first|apply ω0|apply ω1|apply ω2|refine τ3 rfl ?_|refine τ4 rfl ?_|refine ⟨rfl,?_⟩|apply τa|refine τb rfl ?_|refine ⟨⟨by kernel_rfl,by kernel_rfl⟩,?_⟩|refine ⟨by decide,?_⟩|apply τt|apply τf))
            (conv => whnf)
            refine lit_eq hd ?_
            (repeat((conv=>whnf);first|apply ω0|apply ω1|apply ω2|refine τ3 rfl ?_|refine τ4 rfl ?_|refine ⟨rfl,?_⟩|apply τa|refine τb rfl ?_|refine ⟨⟨by kernel_rfl,by kernel_rfl⟩,?_⟩|refine ⟨by decide,?_⟩|apply τt|apply τf))
            refine ⟨⟨ixge (i := k) (rfl), ixlt (i := k) (rfl) (by omega)⟩, splitO_eq (b := .bp (0, s) (k)) (congrArg (AV.bp (0, s)) (ixof (i := k) c_u32 (rfl))) ?_⟩
            (conv => whnf)
            refine ⟨⟨rfl, rowG_in (show k < d1.size by omega)⟩, splitO_eq (b := eA_u32 d1[k]!) (rowG_get (show k < d1.size by omega)) ?_⟩
            (repeat((conv=>whnf);first|apply ω0|apply ω1|apply ω2|refine τ3 rfl ?_|refine τ4 rfl ?_|refine ⟨rfl,?_⟩|apply τa|refine τb rfl ?_|refine ⟨⟨by kernel_rfl,by kernel_rfl⟩,?_⟩|refine ⟨by decide,?_⟩|apply τt|apply τf))
            refine ⟨⟨ixge (i := k - 1) (hj1), ixlt (i := k - 1) (hj1) (by omega)⟩, splitO_eq (b := .bp (0, s) (k - 1)) (congrArg (AV.bp (0, s)) (ixof (i := k - 1) c_u32 (hj1))) ?_⟩
            (conv => whnf)
            refine ⟨⟨rfl, rowG_in (show k - 1 < d1.size by omega)⟩, splitO_eq (b := eA_u32 d1[k - 1]!) (rowG_get (show k - 1 < d1.size by omega)) ?_⟩
            (repeat((conv=>whnf);first|apply ω0|apply ω1|apply ω2|refine τ3 rfl ?_|refine τ4 rfl ?_|refine ⟨rfl,?_⟩|apply τa|refine τb rfl ?_|refine ⟨⟨by kernel_rfl,by kernel_rfl⟩,?_⟩|refine ⟨by decide,?_⟩|apply τt|apply τf))
            refine ex_yields (yields_tells rfl rfl (less_u32 d1[k]! d1[k - 1]!) ⟨AVle.refl _, AVle.refl _, trivial⟩ (NoId.v _)) ?_
            (repeat((conv=>whnf);first|apply ω0|apply ω1|apply ω2|refine τ3 rfl ?_|refine τ4 rfl ?_|refine ⟨rfl,?_⟩|apply τa|refine τb rfl ?_|refine ⟨⟨by kernel_rfl,by kernel_rfl⟩,?_⟩|refine ⟨by decide,?_⟩|apply τt|apply τf))
            intro c hlt; cases c
            · rw [scanG_so_go hij hlt.symm] at k2
              (repeat((conv=>whnf);first|apply ω0|apply ω1|apply ω2|refine τ3 rfl ?_|refine τ4 rfl ?_|refine ⟨rfl,?_⟩|apply τa|refine τb rfl ?_|refine ⟨⟨by kernel_rfl,by kernel_rfl⟩,?_⟩|refine ⟨by decide,?_⟩|apply τt|apply τf))
              exact back (k + 1, nx2) ⟨⟨by first | omega | (dsimp only; omega), by first | omega | (dsimp only; omega)⟩, k2⟩ (by first | omega | (dsimp only; omega)) (ele_tell _ _ rfl rfl (List.Sublist.refl _) .slnil (BxLe.refl _) trivial ⟨AVle.refl _, AVle.refl _, AVle.refl _, le_int (wrap_succ (by first | omega | (dsimp only; omega))), AVle.refl _, trivial⟩)
            · rw [scanG_so_end (fun hh => Bool.false_ne_true (hh.2.symm.trans hlt.symm))] at k2
              (repeat((conv=>whnf);first|apply ω0|apply ω1|apply ω2|refine τ3 rfl ?_|refine τ4 rfl ?_|refine ⟨rfl,?_⟩|apply τa|refine τb rfl ?_|refine ⟨⟨by kernel_rfl,by kernel_rfl⟩,?_⟩|refine ⟨by decide,?_⟩|apply τt|apply τf))
              exact ⟨(k, nx2), ⟨k1, k2⟩, ele_tell _ _ rfl rfl (List.Sublist.refl _) .slnil (BxLe.refl _) trivial ⟨AVle.refl _, AVle.refl _, AVle.refl _, AVle.refl _, AVle.refl _, trivial⟩⟩
          · have hd : decide (((k : Nat) : Int) < ((b : Nat) : Int)) = false := decide_eq_false (by omega)
            rw [scanG_so_end (fun hh => hij hh.1)] at k2
            (repeat((conv=>whnf);first|apply ω0|apply ω1|apply ω2|refine τ3 rfl ?_|refine τ4 rfl ?_|refine ⟨rfl,?_⟩|apply τa|refine τb rfl ?_|refine ⟨⟨by kernel_rfl,by kernel_rfl⟩,?_⟩|refine ⟨by decide,?_⟩|apply τt|apply τf))
            (refine aw_draw 16 ?_ ?_ ?_ ?_; (· kernel_rfl); (· kernel_rfl); (· kernel_rfl))
            (repeat((conv=>whnf);first|apply ω0|apply ω1|apply ω2|refine τ3 rfl ?_|refine τ4 rfl ?_|refine ⟨rfl,?_⟩|apply τa|refine τb rfl ?_|refine ⟨⟨by kernel_rfl,by kernel_rfl⟩,?_⟩|refine ⟨by decide,?_⟩|apply τt|apply τf))
            (conv => whnf)
            refine lit_eq hd ?_
            (repeat((conv=>whnf);first|apply ω0|apply ω1|apply ω2|refine τ3 rfl ?_|refine τ4 rfl ?_|refine ⟨rfl,?_⟩|apply τa|refine τb rfl ?_|refine ⟨⟨by kernel_rfl,by kernel_rfl⟩,?_⟩|refine ⟨by decide,?_⟩|apply τt|apply τf))
            exact ⟨(k, nx2), ⟨k1, k2⟩, ele_tell _ _ rfl rfl (List.Sublist.refl _) .slnil (BxLe.refl _) trivial ⟨AVle.refl _, AVle.refl _, AVle.refl _, AVle.refl _, AVle.refl _, trivial⟩⟩
      · rintro ⟨i, nx2⟩ ⟨k1, k2⟩
        dsimp only at k1 k2
        rw [← k2] at h4
        clear k2
        (repeat((conv=>whnf);first|apply ω0|apply ω1|apply ω2|refine τ3 rfl ?_|refine τ4 rfl ?_|refine ⟨rfl,?_⟩|apply τa|refine τb rfl ?_|refine ⟨⟨by kernel_rfl,by kernel_rfl⟩,?_⟩|refine ⟨by decide,?_⟩|apply τt|apply τf))
        intro c g2; cases c
        · have g2 : ¬ i = b := fun h => by
            subst h
            exact Bool.false_ne_true (g2.trans (beq_self_eq_true _))
          rw [if_neg g2] at h4
          (repeat((conv=>whnf);first|apply ω0|apply ω1|apply ω2|refine τ3 rfl ?_|refine τ4 rfl ?_|refine ⟨rfl,?_⟩|apply τa|refine τb rfl ?_|refine ⟨⟨by kernel_rfl,by kernel_rfl⟩,?_⟩|refine ⟨by decide,?_⟩|apply τt|apply τf))
          intro c g3; cases c
          · have g3 := not_of g3
            replace g3 := (show ¬ (IntKind.i64.wrap ((b : Int) - (a : Int)) < 50) from g3)
            rw [wrap_id (by omega) (by omega)] at g3
            rw [if_neg (by omega)] at h4
            have hj1 : IntKind.i64.wrap ((i : Int) - 1) = ((i - 1 : Nat) : Int) := by rw [wrap_id (by omega) (by omega)]; omega
            (repeat((conv=>whnf);first|apply ω0|apply ω1|apply ω2|refine τ3 rfl ?_|refine τ4 rfl ?_|refine ⟨rfl,?_⟩|apply τa|refine τb rfl ?_|refine ⟨⟨by kernel_rfl,by kernel_rfl⟩,?_⟩|refine ⟨by decide,?_⟩|apply τt|apply τf))
            refine aw_mix3 18 (fun i => match i with | 15 => true | 17 => true | _ => false) (fun i => match i with | 9 => true | 13 => true | _ => false) [0, 1, 2, 3, 4, 5, 6, 7, 8, 10, 11, 12, 9, 13, 14, 15, 16, 17] (by kernel_rfl) (by kernel_rfl) ?_
            (conv => whnf)
            refine ⟨⟨ixge (i := i - 1) (hj1), ixlt (i := i - 1) (hj1) (by omega)⟩, ?_⟩
            (conv => whnf)
            refine ⟨⟨ixge (i := i) (rfl), ixlt (i := i) (rfl) (by omega)⟩, ?_⟩
            (conv => whnf)
            refine ⟨eA_u32 d1[i - 1]!, now_row (E := eA_u32) (d := d1) (tl := tl) (j := i - 1) rfl rfl rfl (ixof (i := i - 1) c_u32 (hj1)) rfl u_u32 rfl (by omega), ?_⟩
            (conv => whnf)
            refine ⟨eA_u32 d1[i]!, now_row (E := eA_u32) (d := d1) (tl := tl) (j := i) rfl rfl rfl (ixof (i := i) c_u32 (rfl)) rfl u_u32 rfl (by omega), ?_⟩
            (conv => whnf)
            refine ⟨⟨ixge (i := i) (rfl), ixlt (i := i) (rfl) (by omega)⟩, ?_⟩
            (conv => whnf)
            refine ⟨_, eff_row (E := eA_u32) (d := d1) (tl := tl) (j := i) (z := d1[i - 1]!) rfl rfl rfl rfl (ixof (i := i) c_u32 (rfl)) rfl rfl rfl rfl (by kernel_rfl) c_u32 (by omega), fun r0 h0 hr0 => ?_⟩
            subst hr0
            (conv => whnf)
            refine ⟨⟨ixge (i := i - 1) (hj1), ixlt (i := i - 1) (hj1) (by omega)⟩, ?_⟩
            (conv => whnf)
            refine ⟨_, eff_row (E := eA_u32) (d := (d1).setIfInBounds (i) d1[i - 1]!) (tl := tl) (j := i - 1) (z := d1[i]!) rfl rfl rfl rfl (ixof (i := i - 1) c_u32 (hj1)) rfl rfl rfl rfl (by kernel_rfl) c_u32 (by simp; omega), fun r0 h0 hr0 => ?_⟩
            subst hr0
            (repeat((conv=>whnf);first|apply ω0|apply ω2|refine τ3 rfl ?_|refine τ4 rfl ?_|refine ⟨rfl,?_⟩|apply τa|refine τb rfl ?_|refine ⟨⟨by kernel_rfl,by kernel_rfl⟩,?_⟩|refine ⟨by decide,?_⟩|apply τt|apply τf))
            refine AW.le (E' := mk 133 [(0, .hs (0, s) 0 n cap), (1, int a), (2, int b), (7, int i), (8, int st)] ⟨rowH_u32 s (Go.Sort.swp d1 i (i - 1)) tl, [], nx2, 1⟩) (ele_tell _ _ rfl rfl (List.Sublist.refl _) .slnil (BxLe.refl _) trivial ⟨AVle.refl _, AVle.refl _, AVle.refl _, AVle.refl _, AVle.refl _, trivial⟩) ?_
            have hd1 : (Go.Sort.swp d1 i (i - 1)).size = n := by rw [swpG_size]; exact h1
            generalize Go.Sort.swp d1 i (i - 1) = d at h4 hd1 ⊢
            refine aw_mid2 (fun y : Array (Int) × Nat => mk 133 [(0, .hs (0, s) 0 n cap), (1, int a), (2, int b), (7, int i), (8, int st)] ⟨rowH_u32 s y.1 tl, [], y.2, 1⟩) (fun y => y.1.size = n ∧ y.1 = Go.Sort.fixDown Go.Sort.ltInt a i d) ?_ ?_
            · (repeat((conv=>whnf);first|apply ω0|apply ω1|apply ω2|refine τ3 rfl ?_|refine τ4 rfl ?_|refine ⟨rfl,?_⟩|apply τa|refine τb rfl ?_|refine ⟨⟨by kernel_rfl,by kernel_rfl⟩,?_⟩|refine ⟨by decide,?_⟩|apply τt|apply τf))
              intro c g; cases c
              · have g := not_of g
                replace g := (show ¬ (IntKind.i64.wrap ((i : Int) - (a : Int)) ≥ 2) from g)
                rw [wrap_id (by omega) (by omega)] at g
                have hfx : Go.Sort.fixDown Go.Sort.ltInt a i d = d := if_neg (by omega)
                (repeat((conv=>whnf);first|apply ω0|apply ω1|apply ω2|refine τ3 rfl ?_|refine τ4 rfl ?_|refine ⟨rfl,?_⟩|apply τa|refine τb rfl ?_|refine ⟨⟨by kernel_rfl,by kernel_rfl⟩,?_⟩|refine ⟨by decide,?_⟩|apply τt|apply τf))
                exact ⟨(d, _), ⟨hd1, hfx.symm⟩, ele_tell _ _ rfl rfl (List.Sublist.refl _) .slnil (BxLe.refl _) trivial ⟨AVle.refl _, AVle.refl _, AVle.refl _, AVle.refl _, AVle.refl _, trivial⟩⟩
              · have g := yes_of g
                replace g := (show IntKind.i64.wrap ((i : Int) - (a : Int)) ≥ 2 from g)
                rw [wrap_id (by omega) (by omega)] at g
                have hfx : Go.Sort.fixDown Go.Sort.ltInt a i d = Go.Sort.shiftDown Go.Sort.ltInt (i - 1) d := if_pos (by omega)
                rw [hfx]
                (repeat((conv=>whnf);first|apply ω0|apply ω1|apply ω2|refine τ3 rfl ?_|refine τ4 rfl ?_|refine ⟨rfl,?_⟩|apply τa|refine τb rfl ?_|refine ⟨⟨by kernel_rfl,by kernel_rfl⟩,?_⟩|refine ⟨by decide,?_⟩|apply τt|apply τf))
                refine aw_loop (fun y : Array (Int) × Nat × Nat => mk 133 [(0, .hs (0, s) 0 n cap), (1, int a), (2, int b), (7, int i), (8, int st), (9, int y.2.1)] ⟨rowH_u32 s y.1 tl, [], y.2.2, 1⟩) (fun y => (y.1.size = n ∧ y.2.1 ≤ i - 1 ∧ Go.Sort.shiftDown Go.Sort.ltInt y.2.1 y.1 = Go.Sort.shiftDown Go.Sort.ltInt (i - 1) d)) (fun y => y.2.1) ?_ ?_
                · exact ⟨(d, i - 1, _), ⟨hd1, Nat.le_refl _, rfl⟩, ele_tell _ _ rfl rfl (List.Sublist.refl _) .slnil (BxLe.refl _) trivial ⟨AVle.refl _, AVle.refl _, AVle.refl _, AVle.refl _, AVle.refl _, le_int (by rw [wrap_id (by omega) (by omega)]; dsimp only; omega), trivial⟩⟩
                · rintro ⟨e, j, nx5⟩ ⟨q1, q2, q4⟩
                  dsimp only at q1 q2 q4
                  (repeat((conv=>whnf);first|apply ω0|apply ω1|apply ω2|refine τ3 rfl ?_|refine τ4 rfl ?_|refine ⟨rfl,?_⟩|apply τa|refine τb rfl ?_|refine ⟨⟨by kernel_rfl,by kernel_rfl⟩,?_⟩|refine ⟨by decide,?_⟩|apply τt|apply τf))
                  intro c g2; cases c
                  · have g2 := not_of g2
                    try dsimp only at g2
                    obtain rfl : j = 0 := by omega
                    (repeat((conv=>whnf);first|apply ω0|apply ω1|apply ω2|refine τ3 rfl ?_|refine τ4 rfl ?_|refine ⟨rfl,?_⟩|apply τa|refine τb rfl ?_|refine ⟨⟨by kernel_rfl,by kernel_rfl⟩,?_⟩|refine ⟨by decide,?_⟩|apply τt|apply τf))
                    exact ⟨(e, nx5), ⟨q1, q4⟩, ele_tell _ _ rfl rfl (List.Sublist.refl _) .slnil (BxLe.refl _) trivial ⟨AVle.refl _, AVle.refl _, AVle.refl _, AVle.refl _, AVle.refl _, trivial⟩⟩
                  · have g2 := yes_of g2
                    try dsimp only at g2
                    have hj1 : IntKind.i64.wrap ((j : Int) - 1) = ((j - 1 : Nat) : Int) := by rw [wrap_id (by omega) (by omega)]; omega
                    (repeat((conv=>whnf);first|apply ω0|apply ω1|apply ω2|refine τ3 rfl ?_|refine τ4 rfl ?_|refine ⟨rfl,?_⟩|apply τa|refine τb rfl ?_|refine ⟨⟨by kernel_rfl,by kernel_rfl⟩,?_⟩|refine ⟨by decide,?_⟩|apply τt|apply τf))
                    (refine aw_draw 11 ?_ ?_ ?_ ?_; (· kernel_rfl); (· kernel_rfl); (· kernel_rfl))
                    (repeat((conv=>whnf);first|apply ω0|apply ω1|apply ω2|refine τ3 rfl ?_|refine τ4 rfl ?_|refine ⟨rfl,?_⟩|apply τa|refine τb rfl ?_|refine ⟨⟨by kernel_rfl,by kernel_rfl⟩,?_⟩|refine ⟨by decide,?_⟩|apply τt|apply τf))
                    refine ⟨⟨ixge (i := j) (rfl), ixlt (i := j) (rfl) (by omega)⟩, splitO_eq (b := .bp (0, s) (j)) (congrArg (AV.bp (0, s)) (ixof (i := j) c_u32 (rfl))) ?_⟩
                    (conv => whnf)
                    refine ⟨⟨rfl, rowG_in (show j < e.size by omega)⟩, splitO_eq (b := eA_u32 e[j]!) (rowG_get (show j < e.size by omega)) ?_⟩
                    (repeat((conv=>whnf);first|apply ω0|apply ω1|apply ω2|refine τ3 rfl ?_|refine τ4 rfl ?_|refine ⟨rfl,?_⟩|apply τa|refine τb rfl ?_|refine ⟨⟨by kernel_rfl,by kernel_rfl⟩,?_⟩|refine ⟨by decide,?_⟩|apply τt|apply τf))
                    refine ⟨⟨ixge (i := j - 1) (hj1), ixlt (i := j - 1) (hj1) (by omega)⟩, splitO_eq (b := .bp (0, s) (j - 1)) (congrArg (AV.bp (0, s)) (ixof (i := j - 1) c_u32 (hj1))) ?_⟩
                    (conv => whnf)
                    refine ⟨⟨rfl, rowG_in (show j - 1 < e.size by omega)⟩, splitO_eq (b := eA_u32 e[j - 1]!) (rowG_get (show j - 1 < e.size by omega)) ?_⟩
                    (repeat((conv=>whnf);first|apply ω0|apply ω1|apply ω2|refine τ3 rfl ?_|refine τ4 rfl ?_|refine ⟨rfl,?_⟩|apply τa|refine τb rfl ?_|refine ⟨⟨by kernel_rfl,by kernel_rfl⟩,?_⟩|refine ⟨by decide,?_⟩|apply τt|apply τf))
                    refine ex_yields (yields_tells rfl rfl (less_u32 e[j]! e[j - 1]!) ⟨AVle.refl _, AVle.refl _, trivial⟩ (NoId.v _)) ?_
                    (repeat((conv=>whnf);first|apply ω0|apply ω1|apply ω2|refine τ3 rfl ?_|refine τ4 rfl ?_|refine ⟨rfl,?_⟩|apply τa|refine τb rfl ?_|refine ⟨⟨by kernel_rfl,by kernel_rfl⟩,?_⟩|refine ⟨by decide,?_⟩|apply τt|apply τf))
                    intro c hlt; cases c
                    · rw [shDn_end hlt.symm] at q4
                      (repeat((conv=>whnf);first|apply ω0|apply ω1|apply ω2|refine τ3 rfl ?_|refine τ4 rfl ?_|refine ⟨rfl,?_⟩|apply τa|refine τb rfl ?_|refine ⟨⟨by kernel_rfl,by kernel_rfl⟩,?_⟩|refine ⟨by decide,?_⟩|apply τt|apply τf))
                      exact ⟨(e, nx5), ⟨q1, q4⟩, ele_tell _ _ rfl rfl (List.Sublist.refl _) .slnil (BxLe.refl _) trivial ⟨AVle.refl _, AVle.refl _, AVle.refl _, AVle.refl _, AVle.refl _, trivial⟩⟩
                    · rw [shDn_go (by omega) hlt.symm] at q4
                      (repeat((conv=>whnf);first|apply ω0|apply ω1|apply ω2|refine τ3 rfl ?_|refine τ4 rfl ?_|refine ⟨rfl,?_⟩|apply τa|refine τb rfl ?_|refine ⟨⟨by kernel_rfl,by kernel_rfl⟩,?_⟩|refine ⟨by decide,?_⟩|apply τt|apply τf))
                      refine aw_mix3 18 (fun i => match i with | 15 => true | 17 => true | _ => false) (fun i => match i with | 9 => true | 13 => true | _ => false) [0, 1, 2, 3, 4, 5, 6, 7, 8, 10, 11, 12, 9, 13, 14, 15, 16, 17] (by kernel_rfl) (by kernel_rfl) ?_
                      (conv => whnf)
                      refine ⟨⟨ixge (i := j - 1) (hj1), ixlt (i := j - 1) (hj1) (by omega)⟩, ?_⟩
                      (conv => whnf)
                      refine ⟨⟨ixge (i := j) (rfl), ixlt (i := j) (rfl) (by omega)⟩, ?_⟩
                      (conv => whnf)
                      refine ⟨eA_u32 e[j - 1]!, now_row (E := eA_u32) (d := e) (tl := tl) (j := j - 1) rfl rfl rfl (ixof (i := j - 1) c_u32 (hj1)) rfl u_u32 rfl (by omega), ?_⟩
                      (conv => whnf)
                      refine ⟨eA_u32 e[j]!, now_row (E := eA_u32) (d := e) (tl := tl) (j := j) rfl rfl rfl (ixof (i := j) c_u32 (rfl)) rfl u_u32 rfl (by omega), ?_⟩
                      (conv => whnf)
                      refine ⟨⟨ixge (i := j) (rfl), ixlt (i := j) (rfl) (by omega)⟩, ?_⟩
                      (conv => whnf)
                      refine ⟨_, eff_row (E := eA_u32) (d := e) (tl := tl) (j := j) (z := e[j - 1]!) rfl rfl rfl rfl (ixof (i := j) c_u32 (rfl)) rfl rfl rfl rfl (by kernel_rfl) c_u32 (by omega), fun r0 h0 hr0 => ?_⟩
                      subst hr0
                      (conv => whnf)
                      refine ⟨⟨ixge (i := j - 1) (hj1), ixlt (i := j - 1) (hj1) (by omega)⟩, ?_⟩
                      (conv => whnf)
                      refine ⟨_, eff_row (E := eA_u32) (d := (e).setIfInBounds (j) e[j - 1]!) (tl := tl) (j := j - 1) (z := e[j]!) rfl rfl rfl rfl (ixof (i := j - 1) c_u32 (hj1)) rfl rfl rfl rfl (by kernel_rfl) c_u32 (by simp; omega), fun r0 h0 hr0 => ?_⟩
                      subst hr0
                      (repeat((conv=>whnf);first|apply ω0|apply ω1|apply ω2|refine τ3 rfl ?_|refine τ4 rfl ?_|refine ⟨rfl,?_⟩|apply τa|refine τb rfl ?_|refine ⟨⟨by kernel_rfl,by kernel_rfl⟩,?_⟩|refine ⟨by decide,?_⟩|apply τt|apply τf))
                      exact back (Go.Sort.swp e j (j - 1), j - 1, nx5) ⟨by dsimp only; rw [swpG_size]; exact q1, by first | omega | (dsimp only; omega), q4⟩ (by first | omega | (dsimp only; omega)) (ele_tell _ _ rfl rfl (List.Sublist.refl _) .slnil (BxLe.refl _) trivial ⟨AVle.refl _, AVle.refl _, AVle.refl _, AVle.refl _, AVle.refl _, le_int hj1, trivial⟩)
            rintro ⟨d2, nx3⟩ ⟨hd2, hf⟩
            dsimp only at hd2 hf
            rw [← hf] at h4
            clear hf
            (repeat((conv=>whnf);first|apply ω0|apply ω2|refine τ3 rfl ?_|refine τ4 rfl ?_|refine ⟨rfl,?_⟩|apply τa|refine τb rfl ?_|refine ⟨⟨by kernel_rfl,by kernel_rfl⟩,?_⟩|refine ⟨by decide,?_⟩|apply τt|apply τf))
            refine aw_mid2B (fun y : Array (Int) × Nat => mk 133 [(0, .hs (0, s) 0 n cap), (1, int a), (2, int b), (7, int i), (8, int st)] ⟨rowH_u32 s y.1 tl, [], y.2, 1⟩) (fun y => y.1.size = n ∧ y.1 = Go.Sort.fixUp Go.Sort.ltInt b i d2) ?_ ?_
            · (repeat((conv=>whnf);first|apply ω0|apply ω1|apply ω2|refine τ3 rfl ?_|refine τ4 rfl ?_|refine ⟨rfl,?_⟩|apply τa|refine τb rfl ?_|refine ⟨⟨by kernel_rfl,by kernel_rfl⟩,?_⟩|refine ⟨by decide,?_⟩|apply τt|apply τf))
              intro c g; cases c
              · have g := not_of g
                replace g := (show ¬ (IntKind.i64.wrap ((b : Int) - (i : Int)) ≥ 2) from g)
                rw [wrap_id (by omega) (by omega)] at g
                have hfx : Go.Sort.fixUp Go.Sort.ltInt b i d2 = d2 := if_neg (by omega)
                (repeat((conv=>whnf);first|apply ω0|apply ω1|apply ω2|refine τ3 rfl ?_|refine τ4 rfl ?_|refine ⟨rfl,?_⟩|apply τa|refine τb rfl ?_|refine ⟨⟨by kernel_rfl,by kernel_rfl⟩,?_⟩|refine ⟨by decide,?_⟩|apply τt|apply τf))
                exact ⟨(d2, _), ⟨hd2, hfx.symm⟩, ele_tell _ _ rfl rfl (List.Sublist.refl _) .slnil (BxLe.refl _) trivial ⟨AVle.refl _, AVle.refl _, AVle.refl _, AVle.refl _, AVle.refl _, trivial⟩⟩
              · have g := yes_of g
                replace g := (show IntKind.i64.wrap ((b : Int) - (i : Int)) ≥ 2 from g)
                rw [wrap_id (by omega) (by omega)] at g
                have hfx : Go.Sort.fixUp Go.Sort.ltInt b i d2 = Go.Sort.shiftUp Go.Sort.ltInt b (i + 1) d2 := if_pos (by omega)
                rw [hfx]
                (repeat((conv=>whnf);first|apply ω0|apply ω1|apply ω2|refine τ3 rfl ?_|refine τ4 rfl ?_|refine ⟨rfl,?_⟩|apply τa|refine τb rfl ?_|refine ⟨⟨by kernel_rfl,by kernel_rfl⟩,?_⟩|refine ⟨by decide,?_⟩|apply τt|apply τf))
                refine aw_loop (fun y : Array (Int) × Nat × Nat => mk 133 [(0, .hs (0, s) 0 n cap), (1, int a), (2, int b), (7, int i), (8, int st), (10, int y.2.1)] ⟨rowH_u32 s y.1 tl, [], y.2.2, 1⟩) (fun y => (y.1.size = n ∧ i + 1 ≤ y.2.1 ∧ y.2.1 ≤ b + 1 ∧ Go.Sort.shiftUp Go.Sort.ltInt b y.2.1 y.1 = Go.Sort.shiftUp Go.Sort.ltInt b (i + 1) d2)) (fun y => b + 1 - y.2.1) ?_ ?_
                · exact ⟨(d2, i + 1, _), ⟨hd2, Nat.le_refl _, by dsimp only; omega, rfl⟩, ele_tell _ _ rfl rfl (List.Sublist.refl _) .slnil (BxLe.refl _) trivial ⟨AVle.refl _, AVle.refl _, AVle.refl _, AVle.refl _, AVle.refl _, le_int (wrap_succ (by omega)), trivial⟩⟩
                · rintro ⟨e, j, nx5⟩ ⟨q1, q2, q3, q4⟩
                  dsimp only at q1 q2 q3 q4
                  (repeat((conv=>whnf);first|apply ω0|apply ω1|apply ω2|refine τ3 rfl ?_|refine τ4 rfl ?_|refine ⟨rfl,?_⟩|apply τa|refine τb rfl ?_|refine ⟨⟨by kernel_rfl,by kernel_rfl⟩,?_⟩|refine ⟨by decide,?_⟩|apply τt|apply τf))
                  intro c g2; cases c
                  · have g2 := not_of g2
                    try dsimp only at g2
                    rw [shUp_end (fun hh => by omega)] at q4
                    (repeat((conv=>whnf);first|apply ω0|apply ω1|apply ω2|refine τ3 rfl ?_|refine τ4 rfl ?_|refine ⟨rfl,?_⟩|apply τa|refine τb rfl ?_|refine ⟨⟨by kernel_rfl,by kernel_rfl⟩,?_⟩|refine ⟨by decide,?_⟩|apply τt|apply τf))
                    exact ⟨(e, nx5), ⟨q1, q4⟩, ele_tell _ _ rfl rfl (List.Sublist.refl _) .slnil (BxLe.refl _) trivial ⟨AVle.refl _, AVle.refl _, AVle.refl _, AVle.refl _, AVle.refl _, trivial⟩⟩
                  · have g2 := yes_of g2
                    try dsimp only at g2
                    have hj1 : IntKind.i64.wrap ((j : Int) - 1) = ((j - 1 : Nat) : Int) := by rw [wrap_id (by omega) (by omega)]; omega
                    (repeat((conv=>whnf);first|apply ω0|apply ω1|apply ω2|refine τ3 rfl ?_|refine τ4 rfl ?_|refine ⟨rfl,?_⟩|apply τa|refine τb rfl ?_|refine ⟨⟨by kernel_rfl,by kernel_rfl⟩,?_⟩|refine ⟨by decide,?_⟩|apply τt|apply τf))
                    (refine aw_draw 11 ?_ ?_ ?_ ?_; (· kernel_rfl); (· kernel_rfl); (· kernel_rfl))
                    (repeat((conv=>whnf);first|apply ω0|apply ω1|apply ω2|refine τ3 rfl ?_|refine τ4 rfl ?_|refine ⟨rfl,?_⟩|apply τa|refine τb rfl ?_|refine ⟨⟨by kernel_rfl,by kernel_rfl⟩,?_⟩|refine ⟨by decide,?_⟩|apply τt|apply τf))
                    refine ⟨⟨ixge (i := j) (rfl), ixlt (i := j) (rfl) (by omega)⟩, splitO_eq (b := .bp (0, s) (j)) (congrArg (AV.bp (0, s)) (ixof (i := j) c_u32 (rfl))) ?_⟩
                    (conv => whnf)
                    refine ⟨⟨rfl, rowG_in (show j < e.size by omega)⟩, splitO_eq (b := eA_u32 e[j]!) (rowG_get (show j < e.size by omega)) ?_⟩
                    (repeat((conv=>whnf);first|apply ω0|apply ω1|apply ω2|refine τ3 rfl ?_|refine τ4 rfl ?_|refine ⟨rfl,?_⟩|apply τa|refine τb rfl ?_|refine ⟨⟨by kernel_rfl,by kernel_rfl⟩,?_⟩|refine ⟨by decide,?_⟩|apply τt|apply τf))
                    refine ⟨⟨ixge (i := j - 1) (hj1), ixlt (i := j - 1) (hj1) (by omega)⟩, splitO_eq (b := .bp (0, s) (j - 1)) (congrArg (AV.bp (0, s)) (ixof (i := j - 1) c_u32 (hj1))) ?_⟩
                    (conv => whnf)
                    refine ⟨⟨rfl, rowG_in (show j - 1 < e.size by omega)⟩, splitO_eq (b := eA_u32 e[j - 1]!) (rowG_get (show j - 1 < e.size by omega)) ?_⟩
                    (repeat((conv=>whnf);first|apply ω0|apply ω1|apply ω2|refine τ3 rfl ?_|refine τ4 rfl ?_|refine ⟨rfl,?_⟩|apply τa|refine τb rfl ?_|refine ⟨⟨by kernel_rfl,by kernel_rfl⟩,?_⟩|refine ⟨by decide,?_⟩|apply τt|apply τf))
                    refine ex_yields (yields_tells rfl rfl (less_u32 e[j]! e[j - 1]!) ⟨AVle.refl _, AVle.refl _, trivial⟩ (NoId.v _)) ?_
                    (repeat((conv=>whnf);first|apply ω0|apply ω1|apply ω2|refine τ3 rfl ?_|refine τ4 rfl ?_|refine ⟨rfl,?_⟩|apply τa|refine τb rfl ?_|refine ⟨⟨by kernel_rfl,by kernel_rfl⟩,?_⟩|refine ⟨by decide,?_⟩|apply τt|apply τf))
                    intro c hlt; cases c
                    · rw [shUp_end (fun hh => Bool.false_ne_true (hlt.trans hh.2))] at q4
                      (repeat((conv=>whnf);first|apply ω0|apply ω1|apply ω2|refine τ3 rfl ?_|refine τ4 rfl ?_|refine ⟨rfl,?_⟩|apply τa|refine τb rfl ?_|refine ⟨⟨by kernel_rfl,by kernel_rfl⟩,?_⟩|refine ⟨by decide,?_⟩|apply τt|apply τf))
                      exact ⟨(e, nx5), ⟨q1, q4⟩, ele_tell _ _ rfl rfl (List.Sublist.refl _) .slnil (BxLe.refl _) trivial ⟨AVle.refl _, AVle.refl _, AVle.refl _, AVle.refl _, AVle.refl _, trivial⟩⟩
                    · rw [shUp_go (by omega) hlt.symm] at q4
                      (repeat((conv=>whnf);first|apply ω0|apply ω1|apply ω2|refine τ3 rfl ?_|refine τ4 rfl ?_|refine ⟨rfl,?_⟩|apply τa|refine τb rfl ?_|refine ⟨⟨by kernel_rfl,by kernel_rfl⟩,?_⟩|refine ⟨by decide,?_⟩|apply τt|apply τf))
                      refine aw_mix3 18 (fun i => match i with | 15 => true | 17 => true | _ => false) (fun i => match i with | 9 => true | 13 => true | _ => false) [0, 1, 2, 3, 4, 5, 6, 7, 8, 10, 11, 12, 9, 13, 14, 15, 16, 17] (by kernel_rfl) (by kernel_rfl) ?_
                      (conv => whnf)
                      refine ⟨⟨ixge (i := j - 1) (hj1), ixlt (i := j - 1) (hj1) (by omega)⟩, ?_⟩
                      (conv => whnf)
                      refine ⟨⟨ixge (i := j) (rfl), ixlt (i := j) (rfl) (by omega)⟩, ?_⟩
                      (conv => whnf)
                      refine ⟨eA_u32 e[j - 1]!, now_row (E := eA_u32) (d := e) (tl := tl) (j := j - 1) rfl rfl rfl (ixof (i := j - 1) c_u32 (hj1)) rfl u_u32 rfl (by omega), ?_⟩
                      (conv => whnf)
                      refine ⟨eA_u32 e[j]!, now_row (E := eA_u32) (d := e) (tl := tl) (j := j) rfl rfl rfl (ixof (i := j) c_u32 (rfl)) rfl u_u32 rfl (by omega), ?_⟩
                      (conv => whnf)
                      refine ⟨⟨ixge (i := j) (rfl), ixlt (i := j) (rfl) (by omega)⟩, ?_⟩
                      (conv => whnf)
                      refine ⟨_, eff_row (E := eA_u32) (d := e) (tl := tl) (j := j) (z := e[j - 1]!) rfl rfl rfl rfl (ixof (i := j) c_u32 (rfl)) rfl rfl rfl rfl (by kernel_rfl) c_u32 (by omega), fun r0 h0 hr0 => ?_⟩
                      subst hr0
                      (conv => whnf)
                      refine ⟨⟨ixge (i := j - 1) (hj1), ixlt (i := j - 1) (hj1) (by omega)⟩, ?_⟩
                      (conv => whnf)
                      refine ⟨_, eff_row (E := eA_u32) (d := (e).setIfInBounds (j) e[j - 1]!) (tl := tl) (j := j - 1) (z := e[j]!) rfl rfl rfl rfl (ixof (i := j - 1) c_u32 (hj1)) rfl rfl rfl rfl (by kernel_rfl) c_u32 (by simp; omega), fun r0 h0 hr0 => ?_⟩
                      subst hr0
                      (repeat((conv=>whnf);first|apply ω0|apply ω1|apply ω2|refine τ3 rfl ?_|refine τ4 rfl ?_|refine ⟨rfl,?_⟩|apply τa|refine τb rfl ?_|refine ⟨⟨by kernel_rfl,by kernel_rfl⟩,?_⟩|refine ⟨by decide,?_⟩|apply τt|apply τf))
                      exact back (Go.Sort.swp e j (j - 1), j + 1, nx5) ⟨by dsimp only; rw [swpG_size]; exact q1, by first | omega | (dsimp only; omega), by first | omega | (dsimp only; omega), q4⟩ (by first | omega | (dsimp only; omega)) (ele_tell _ _ rfl rfl (List.Sublist.refl _) .slnil (BxLe.refl _) trivial ⟨AVle.refl _, AVle.refl _, AVle.refl _, AVle.refl _, AVle.refl _, le_int (wrap_succ (by first | omega | (dsimp only; omega))), trivial⟩)
            rintro ⟨d3, nx4⟩ ⟨hd3, hf⟩
            dsimp only at hd3 hf
            rw [← hf] at h4
            (repeat((conv=>whnf);first|apply ω0|apply ω1|apply ω2|refine τ3 rfl ?_|refine τ4 rfl ?_|refine ⟨rfl,?_⟩|apply τa|refine τb rfl ?_|refine ⟨⟨by kernel_rfl,by kernel_rfl⟩,?_⟩|refine ⟨by decide,?_⟩|apply τt|apply τf))
            exact back (d3, (i, st + 1), nx4) ⟨hd3, ⟨by first | omega | (dsimp only; omega), by first | omega | (dsimp only; omega)⟩, by first | omega | (dsimp only; omega), by dsimp only; rw [show 5 - (st + 1) = m by omega]; exact h4⟩ (by first | omega | (dsimp only; omega)) (ele_tell _ _ rfl rfl (List.Sublist.refl _) .slnil (BxLe.refl _) trivial ⟨AVle.refl _, AVle.refl _, AVle.refl _, AVle.refl _, le_int (wrap_succ (by first | omega | (dsimp only; omega))), trivial⟩)
          · have g3 := yes_of g3
            replace g3 := (show IntKind.i64.wrap ((b : Int) - (a : Int)) < 50 from g3)
            rw [wrap_id (by omega) (by omega)] at g3
            rw [if_pos (by omega)] at h4
            subst h4
            (repeat((conv=>whnf);first|apply ω0|apply ω1|apply ω2|refine τ3 rfl ?_|refine τ4 rfl ?_|refine ⟨rfl,?_⟩|apply τa|refine τb rfl ?_|refine ⟨⟨by kernel_rfl,by kernel_rfl⟩,?_⟩|refine ⟨by decide,?_⟩|apply τt|apply τf))
            exact ret_is rfl ⟨_, _, AVle.refl _, hle_tell (rowH_u32 s d1 tl) [] rfl (List.Sublist.refl _) .slnil (BxLe.refl _) (PmEq.refl _), _, 1, rfl, rfl⟩
        · have g2 : i = b := by
            have := eq_of_beq g2.symm
            exact Int.ofNat_inj.1 this
          rw [if_pos g2] at h4
          subst h4
          (repeat((conv=>whnf);first|apply ω0|apply ω1|apply ω2|refine τ3 rfl ?_|refine τ4 rfl ?_|refine ⟨rfl,?_⟩|apply τa|refine τb rfl ?_|refine ⟨⟨by kernel_rfl,by kernel_rfl⟩,?_⟩|refine ⟨by decide,?_⟩|apply τt|apply τf))
          exact ret_is rfl ⟨_, _, AVle.refl _, hle_tell (rowH_u32 s d1 tl) [] rfl (List.Sublist.refl _) .slnil (BxLe.refl _) (PmEq.refl _), _, 1, rfl, rfl⟩
end Go.Proofs.W

namespace Go.Proofs.W
open Go.Vl
set_option maxRecDepth 100000

set_option maxHeartbeats 16000000 in
theorem pdq_u32 (tl : List AV) (n : Nat) (hsz : n ≤ 1000000) (s cap : Nat) : ∀ (M : Nat) (d0 : Array (Int)) (a0 b0 : Nat) (lim0 : Int) (nx : Nat), b0 - a0 ≤ M → d0.size = n → a0 ≤ b0 → b0 ≤ n → Go.Sort.Below Go.Sort.ltInt a0 b0 d0 →
    ECall Tryz.prog 59 [.hs (0, s) 0 n cap, int a0, int b0, int lim0] ⟨rowH_u32 s d0 tl, [], nx, 1⟩ (fun r h' => ∃ d' nx' nn', Go.Sort.PermIn a0 b0 d0 d' ∧ Go.Sort.SortedIn Go.Sort.ltInt a0 b0 d' ∧ h' = ⟨rowH_u32 s d' tl, [], nx', nn'⟩) := by
  intro M
  induction M using Nat.strongRecOn with
  | _ M ih =>
  intro d0 a0 b0 lim0 nx hM hn0 hab0 hb0 hB0
  refine ECall.wk (ecall_of_aw Tryz.func59 rfl rfl ?_)
  (repeat((conv=>whnf);first|apply ω0|apply ω1|apply ω2|refine τ3 rfl ?_|refine τ4 rfl ?_|refine ⟨rfl,?_⟩|apply τa|refine τb rfl ?_|refine ⟨⟨by kernel_rfl,by kernel_rfl⟩,?_⟩|refine ⟨by decide,?_⟩|apply τt|apply τf))
  refine aw_loop (fun y : Array (Int) × (Nat × Nat) × Int × (Bool × Bool) × Nat => mk 134 [(0, .hs (0, s) 0 n cap), (1, int y.2.1.1), (2, int y.2.1.2), (3, int y.2.2.1), (8, .v (.bool y.2.2.2.1.1)), (9, .v (.bool y.2.2.2.1.2))] ⟨rowH_u32 s y.1 tl, [], y.2.2.2.2, 1⟩) (fun y => y.1.size = n ∧ (y.2.1.1 ≤ y.2.1.2 ∧ y.2.1.2 ≤ n ∧ y.2.1.2 - y.2.1.1 ≤ b0 - a0) ∧ Go.Sort.Below Go.Sort.ltInt y.2.1.1 y.2.1.2 y.1 ∧ ∀ R, Go.Sort.PermIn y.2.1.1 y.2.1.2 y.1 R → Go.Sort.SortedIn Go.Sort.ltInt y.2.1.1 y.2.1.2 R → Go.Sort.PermIn a0 b0 d0 R ∧ Go.Sort.SortedIn Go.Sort.ltInt a0 b0 R) (fun y => y.2.1.2 - y.2.1.1) ?_ ?_
  · exact ⟨(d0, (a0, b0), lim0, (true, true), _), ⟨hn0, ⟨hab0, hb0, Nat.le_refl _⟩, hB0, fun R h1 h2 => ⟨h1, h2⟩⟩, ele_tell _ _ rfl rfl (List.Sublist.refl _) .slnil (BxLe.refl _) trivial ⟨AVle.refl _, AVle.refl _, AVle.refl _, AVle.refl _, AVle.refl _, AVle.refl _, trivial⟩⟩
  · rintro ⟨d, ⟨a, b⟩, lim, ⟨wb, wp⟩, nx1⟩ ⟨h1, ⟨hab, hb, hle⟩, hB, hK⟩
    dsimp only at h1 hab hb hle hB hK
    have el : IntKind.i64.wrap ((b : Int) - (a : Int)) = ((b - a : Nat) : Int) := wrapN (by omega) (by omega)
    (repeat((conv=>whnf);first|apply ω0|apply ω2|refine τ3 rfl ?_|refine τ4 rfl ?_|refine ⟨rfl,?_⟩|apply τa|refine τb rfl ?_|refine ⟨⟨by kernel_rfl,by kernel_rfl⟩,?_⟩|refine ⟨by decide,?_⟩|apply τt|apply τf))
    refine aw_region ?_
    (repeat((conv=>whnf);first|apply ω0|apply ω2|refine τ3 rfl ?_|refine τ4 rfl ?_|refine ⟨rfl,?_⟩|apply τa|refine τb rfl ?_|refine ⟨⟨by kernel_rfl,by kernel_rfl⟩,?_⟩|refine ⟨by decide,?_⟩|apply τt|apply τf))
    refine AW.le (E' := mk 134 [(0, .hs (0, s) 0 n cap), (1, int a), (2, int b), (3, int lim), (8, .v (.bool wb)), (9, .v (.bool wp)), (10, int (b - a : Nat))] ⟨rowH_u32 s d tl, [], nx1, 1⟩) (ele_tell _ _ rfl rfl (List.Sublist.refl _) .slnil (BxLe.refl _) trivial ⟨AVle.refl _, AVle.refl _, AVle.refl _, AVle.refl _, AVle.refl _, AVle.refl _, le_int el, trivial⟩) ?_
    clear el
    (repeat((conv=>whnf);first|apply ω0|apply ω1|apply ω2|refine τ3 rfl ?_|refine τ4 rfl ?_|refine ⟨rfl,?_⟩|apply τa|refine τb rfl ?_|refine ⟨⟨by kernel_rfl,by kernel_rfl⟩,?_⟩|refine ⟨by decide,?_⟩|apply τt|apply τf))
    intro c g12; cases c
    · have g12 := not_of g12
      try dsimp only at g12
      (repeat((conv=>whnf);first|apply ω0|apply ω1|apply ω2|refine τ3 rfl ?_|refine τ4 rfl ?_|refine ⟨rfl,?_⟩|apply τa|refine τb rfl ?_|refine ⟨⟨by kernel_rfl,by kernel_rfl⟩,?_⟩|refine ⟨by decide,?_⟩|apply τt|apply τf))
      intro c0 hc0
      cases c0
      · (repeat((conv=>whnf);first|apply ω0|apply ω2|refine τ3 rfl ?_|refine τ4 rfl ?_|refine ⟨rfl,?_⟩|apply τa|refine τb rfl ?_|refine ⟨⟨by kernel_rfl,by kernel_rfl⟩,?_⟩|refine ⟨by decide,?_⟩|apply τt|apply τf))
        refine aw_mid2 (fun y : Array (Int) × Int × Nat => mk 134 [(0, .hs (0, s) 0 n cap), (1, int a), (2, int b), (3, int y.2.1), (8, .v (.bool wb)), (9, .v (.bool wp)), (10, int (b - a : Nat))] ⟨rowH_u32 s y.1 tl, [], y.2.2, 1⟩) (fun y => Go.Sort.PermIn a b d y.1) ?_ ?_
        · cases wb
          · (repeat((conv=>whnf);first|apply ω0|apply ω1|apply ω2|refine τ3 rfl ?_|refine τ4 rfl ?_|refine ⟨rfl,?_⟩|apply τa|refine τb rfl ?_|refine ⟨⟨by kernel_rfl,by kernel_rfl⟩,?_⟩|refine ⟨by decide,?_⟩|apply τt|apply τf))
            refine aop_callF (xs := [.hs (0, s) 0 n cap, int a, int b]) [] [] 1 rfl rfl rfl rfl ⟨AVle.refl _, AVle.refl _, AVle.refl _, trivial⟩ (break_u32 d tl n a b h1 hab hb hsz s cap _) (BxLe.refl _) (PmEq.refl _) rfl fun r h' hq => ?_
            obtain ⟨d1, nx2, nn2, hp, rfl⟩ := hq
            (repeat((conv=>whnf);first|apply ω0|apply ω1|apply ω2|refine τ3 rfl ?_|refine τ4 rfl ?_|refine ⟨rfl,?_⟩|apply τa|refine τb rfl ?_|refine ⟨⟨by kernel_rfl,by kernel_rfl⟩,?_⟩|refine ⟨by decide,?_⟩|apply τt|apply τf))
            exact ⟨(d1, _, nx2), hp, ele_tell _ _ rfl rfl (List.Sublist.refl _) .slnil (BxLe.refl _) trivial ⟨AVle.refl _, AVle.refl _, AVle.refl _, AVle.refl _, AVle.refl _, AVle.refl _, AVle.refl _, trivial⟩⟩
          · (repeat((conv=>whnf);first|apply ω0|apply ω1|apply ω2|refine τ3 rfl ?_|refine τ4 rfl ?_|refine ⟨rfl,?_⟩|apply τa|refine τb rfl ?_|refine ⟨⟨by kernel_rfl,by kernel_rfl⟩,?_⟩|refine ⟨by decide,?_⟩|apply τt|apply τf))
            exact ⟨(d, lim, nx1), Go.Sort.permIn_refl _ _ _, ele_tell _ _ rfl rfl (List.Sublist.refl _) .slnil (BxLe.refl _) trivial ⟨AVle.refl _, AVle.refl _, AVle.refl _, AVle.refl _, AVle.refl _, AVle.refl _, AVle.refl _, trivial⟩⟩
        · rintro ⟨d1, lim1, nx2⟩ hp1
          dsimp only at hp1
          have s1 : d1.size = n := hp1.1.trans h1
          (repeat((conv=>whnf);first|apply ω0|apply ω2|refine τ3 rfl ?_|refine τ4 rfl ?_|refine ⟨rfl,?_⟩|apply τa|refine τb rfl ?_|refine ⟨⟨by kernel_rfl,by kernel_rfl⟩,?_⟩|refine ⟨by decide,?_⟩|apply τt|apply τf))
          refine aw_region ?_
          (repeat((conv=>whnf);first|apply ω0|apply ω2|refine τ3 rfl ?_|refine τ4 rfl ?_|refine ⟨rfl,?_⟩|apply τa|refine τb rfl ?_|refine ⟨⟨by kernel_rfl,by kernel_rfl⟩,?_⟩|refine ⟨by decide,?_⟩|apply τt|apply τf))
          refine aop_callF (xs := [.hs (0, s) 0 n cap, int a, int b]) [] [] 1 rfl rfl rfl rfl ⟨AVle.refl _, AVle.refl _, AVle.refl _, trivial⟩ (pivot_u32 d1 tl n a b s1 (by omega) hb hsz s cap _) (BxLe.refl _) (PmEq.refl _) rfl fun r h' hq => ?_
          obtain ⟨p, hint, nx3, nn3, hpa, hpb, rfl, rfl⟩ := hq
          (repeat((conv=>whnf);first|apply ω0|apply ω2|refine τ3 rfl ?_|refine τ4 rfl ?_|refine ⟨rfl,?_⟩|apply τa|refine τb rfl ?_|refine ⟨⟨by kernel_rfl,by kernel_rfl⟩,?_⟩|refine ⟨by decide,?_⟩|apply τt|apply τf))
          refine AW.le (E' := mk 134 [(0, .hs (0, s) 0 n cap), (1, int a), (2, int b), (3, int lim1), (8, .v (.bool wb)), (9, .v (.bool wp)), (10, int (b - a : Nat)), (11, int p), (12, int hint)] ⟨rowH_u32 s d1 tl, [], nx3, 1⟩) (ele_tell _ _ rfl rfl (List.Sublist.refl _) .slnil (BxLe.refl _) trivial ⟨AVle.refl _, AVle.refl _, AVle.refl _, AVle.refl _, AVle.refl _, AVle.refl _, AVle.refl _, AVle.refl _, AVle.refl _, trivial⟩) ?_
          refine aw_mid2 (fun y : Array (Int) × (Nat × Int) × Nat => mk 134 [(0, .hs (0, s) 0 n cap), (1, int a), (2, int b), (3, int lim1), (8, .v (.bool wb)), (9, .v (.bool wp)), (10, int (b - a : Nat)), (11, int y.2.1.1), (12, int y.2.1.2)] ⟨rowH_u32 s y.1 tl, [], y.2.2, 1⟩) (fun y => Go.Sort.PermIn a b d y.1 ∧ a ≤ y.2.1.1 ∧ y.2.1.1 < b) ?_ ?_
          · (repeat((conv=>whnf);first|apply ω0|apply ω1|apply ω2|refine τ3 rfl ?_|refine τ4 rfl ?_|refine ⟨rfl,?_⟩|apply τa|refine τb rfl ?_|refine ⟨⟨by kernel_rfl,by kernel_rfl⟩,?_⟩|refine ⟨by decide,?_⟩|apply τt|apply τf))
            intro c1 hc1
            cases c1
            · (repeat((conv=>whnf);first|apply ω0|apply ω1|apply ω2|refine τ3 rfl ?_|refine τ4 rfl ?_|refine ⟨rfl,?_⟩|apply τa|refine τb rfl ?_|refine ⟨⟨by kernel_rfl,by kernel_rfl⟩,?_⟩|refine ⟨by decide,?_⟩|apply τt|apply τf))
              exact ⟨(d1, (p, hint), nx3), ⟨hp1, hpa, hpb⟩, ele_tell _ _ rfl rfl (List.Sublist.refl _) .slnil (BxLe.refl _) trivial ⟨AVle.refl _, AVle.refl _, AVle.refl _, AVle.refl _, AVle.refl _, AVle.refl _, AVle.refl _, AVle.refl _, AVle.refl _, trivial⟩⟩
            · (repeat((conv=>whnf);first|apply ω0|apply ω1|apply ω2|refine τ3 rfl ?_|refine τ4 rfl ?_|refine ⟨rfl,?_⟩|apply τa|refine τb rfl ?_|refine ⟨⟨by kernel_rfl,by kernel_rfl⟩,?_⟩|refine ⟨by decide,?_⟩|apply τt|apply τf))
              refine aop_callF (xs := [.hs (0, s) 0 n cap, int a, int b]) [] [] 1 rfl rfl rfl rfl ⟨AVle.refl _, AVle.refl _, AVle.refl _, trivial⟩ (rev_u32 d1 tl n a b s1 (by omega) hb hsz s cap _) (BxLe.refl _) (PmEq.refl _) rfl fun r h' hq => ?_
              obtain ⟨nx4, nn4, rfl⟩ := hq
              (repeat((conv=>whnf);first|apply ω0|apply ω1|apply ω2|refine τ3 rfl ?_|refine τ4 rfl ?_|refine ⟨rfl,?_⟩|apply τa|refine τb rfl ?_|refine ⟨⟨by kernel_rfl,by kernel_rfl⟩,?_⟩|refine ⟨by decide,?_⟩|apply τt|apply τf))
              exact ⟨(Go.Sort.reverseRange d1 a b, (b - 1 - (p - a), 1), nx4), ⟨Go.Sort.permIn_trans _ _ _ a b hp1 (Go.Sort.reverseRange_holds d1 a b hab (by omega)), by dsimp only; omega, by dsimp only; omega⟩, ele_tell _ _ rfl rfl (List.Sublist.refl _) .slnil (BxLe.refl _) trivial ⟨AVle.refl _, AVle.refl _, AVle.refl _, AVle.refl _, AVle.refl _, AVle.refl _, AVle.refl _, le_int (by rw [wrap_id (n := (b : Int) - 1) (by omega) (by omega), wrap_id (n := (p : Int) - (a : Int)) (by omega) (by omega), wrap_id (by omega) (by omega)]; dsimp only; omega), AVle.refl _, trivial⟩⟩
          · rintro ⟨d2, ⟨p, hint⟩, nx4⟩ ⟨hp2, hpa, hpb⟩
            clear hp1 s1
            clear d1
            dsimp only at hp2 hpa hpb
            have s2 : d2.size = n := hp2.1.trans h1
            have B2 : Go.Sort.Below Go.Sort.ltInt a b d2 := hB.perm (by omega) hp2
            have hpi := (Go.Sort.partialInsertionSort_holds : Go.Sort.partialInsertionSort_stmt Go.Sort.ltInt) Go.Sort.swo_ltInt d2 a b (by omega) (by omega) B2
            (repeat((conv=>whnf);first|apply ω0|apply ω2|refine τ3 rfl ?_|refine τ4 rfl ?_|refine ⟨rfl,?_⟩|apply τa|refine τb rfl ?_|refine ⟨⟨by kernel_rfl,by kernel_rfl⟩,?_⟩|refine ⟨by decide,?_⟩|apply τt|apply τf))
            refine aw_mid2 (fun y : Array (Int) × Nat => mk 134 [(0, .hs (0, s) 0 n cap), (1, int a), (2, int b), (3, int lim1), (8, .v (.bool wb)), (9, .v (.bool wp)), (10, int (b - a : Nat)), (11, int p)] ⟨rowH_u32 s y.1 tl, [], y.2, 1⟩) (fun y => Go.Sort.PermIn a b d y.1) ?_ ?_
            · cases wb
              · (repeat((conv=>whnf);first|apply ω0|apply ω1|apply ω2|refine τ3 rfl ?_|refine τ4 rfl ?_|refine ⟨rfl,?_⟩|apply τa|refine τb rfl ?_|refine ⟨⟨by kernel_rfl,by kernel_rfl⟩,?_⟩|refine ⟨by decide,?_⟩|apply τt|apply τf))
                exact ⟨(d2, nx4), hp2, ele_tell _ _ rfl rfl (List.Sublist.refl _) .slnil (BxLe.refl _) trivial ⟨AVle.refl _, AVle.refl _, AVle.refl _, AVle.refl _, AVle.refl _, AVle.refl _, AVle.refl _, AVle.refl _, trivial⟩⟩
              · cases wp
                · (repeat((conv=>whnf);first|apply ω0|apply ω1|apply ω2|refine τ3 rfl ?_|refine τ4 rfl ?_|refine ⟨rfl,?_⟩|apply τa|refine τb rfl ?_|refine ⟨⟨by kernel_rfl,by kernel_rfl⟩,?_⟩|refine ⟨by decide,?_⟩|apply τt|apply τf))
                  exact ⟨(d2, nx4), hp2, ele_tell _ _ rfl rfl (List.Sublist.refl _) .slnil (BxLe.refl _) trivial ⟨AVle.refl _, AVle.refl _, AVle.refl _, AVle.refl _, AVle.refl _, AVle.refl _, AVle.refl _, AVle.refl _, trivial⟩⟩
                · (repeat((conv=>whnf);first|apply ω0|apply ω1|apply ω2|refine τ3 rfl ?_|refine τ4 rfl ?_|refine ⟨rfl,?_⟩|apply τa|refine τb rfl ?_|refine ⟨⟨by kernel_rfl,by kernel_rfl⟩,?_⟩|refine ⟨by decide,?_⟩|apply τt|apply τf))
                  intro c2 hc2
                  cases c2
                  · (repeat((conv=>whnf);first|apply ω0|apply ω1|apply ω2|refine τ3 rfl ?_|refine τ4 rfl ?_|refine ⟨rfl,?_⟩|apply τa|refine τb rfl ?_|refine ⟨⟨by kernel_rfl,by kernel_rfl⟩,?_⟩|refine ⟨by decide,?_⟩|apply τt|apply τf))
                    exact ⟨(d2, nx4), hp2, ele_tell _ _ rfl rfl (List.Sublist.refl _) .slnil (BxLe.refl _) trivial ⟨AVle.refl _, AVle.refl _, AVle.refl _, AVle.refl _, AVle.refl _, AVle.refl _, AVle.refl _, AVle.refl _, trivial⟩⟩
                  · (repeat((conv=>whnf);first|apply ω0|apply ω1|apply ω2|refine τ3 rfl ?_|refine τ4 rfl ?_|refine ⟨rfl,?_⟩|apply τa|refine τb rfl ?_|refine ⟨⟨by kernel_rfl,by kernel_rfl⟩,?_⟩|refine ⟨by decide,?_⟩|apply τt|apply τf))
                    refine aop_callF (xs := [.hs (0, s) 0 n cap, int a, int b]) [] [] 1 rfl rfl rfl rfl ⟨AVle.refl _, AVle.refl _, AVle.refl _, trivial⟩ (pins_u32 d2 tl n a b s2 (by omega) hb hsz s cap _) (BxLe.refl _) (PmEq.refl _) rfl fun r h' hq => ?_
                    obtain ⟨nx5, nn5, rfl, rfl⟩ := hq
                    obtain ⟨q1, q2⟩ := hpi
                    generalize Go.Sort.partialInsertionSort Go.Sort.ltInt d2 a b = Pt at q1 q2 ⊢
                    obtain ⟨d3, fl⟩ := Pt
                    dsimp only at q1 q2
                    cases fl
                    · (repeat((conv=>whnf);first|apply ω0|apply ω1|apply ω2|refine τ3 rfl ?_|refine τ4 rfl ?_|refine ⟨rfl,?_⟩|apply τa|refine τb rfl ?_|refine ⟨⟨by kernel_rfl,by kernel_rfl⟩,?_⟩|refine ⟨by decide,?_⟩|apply τt|apply τf))
                      exact ⟨(d3, nx5), Go.Sort.permIn_trans _ _ _ a b hp2 q1, ele_tell _ _ rfl rfl (List.Sublist.refl _) .slnil (BxLe.refl _) trivial ⟨AVle.refl _, AVle.refl _, AVle.refl _, AVle.refl _, AVle.refl _, AVle.refl _, AVle.refl _, AVle.refl _, trivial⟩⟩
                    · obtain ⟨k1, k2⟩ := hK d3 (Go.Sort.permIn_trans _ _ _ a b hp2 q1) (q2 rfl)
                      (repeat((conv=>whnf);first|apply ω0|apply ω1|apply ω2|refine τ3 rfl ?_|refine τ4 rfl ?_|refine ⟨rfl,?_⟩|apply τa|refine τb rfl ?_|refine ⟨⟨by kernel_rfl,by kernel_rfl⟩,?_⟩|refine ⟨by decide,?_⟩|apply τt|apply τf))
                      exact ret_is rfl ⟨_, _, AVle.refl _, hle_tell (rowH_u32 s d3 tl) [] rfl (List.Sublist.refl _) .slnil (BxLe.refl _) (PmEq.refl _), d3, _, 1, k1, k2, rfl⟩
            · rintro ⟨d3, nx5⟩ hp3
              clear hpi B2 s2 hp2
              clear d2
              dsimp only at hp3
              have s3 : d3.size = n := hp3.1.trans h1
              have B3 : Go.Sort.Below Go.Sort.ltInt a b d3 := hB.perm (by omega) hp3
              have hK3 : ∀ R, Go.Sort.PermIn a b d3 R → Go.Sort.SortedIn Go.Sort.ltInt a b R → Go.Sort.PermIn a0 b0 d0 R ∧ Go.Sort.SortedIn Go.Sort.ltInt a0 b0 R := fun R k1 k2 => hK R (Go.Sort.permIn_trans _ _ _ a b hp3 k1) k2
              clear hK hB hp3
              (repeat((conv=>whnf);first|apply ω0|apply ω2|refine τ3 rfl ?_|refine τ4 rfl ?_|refine ⟨rfl,?_⟩|apply τa|refine τb rfl ?_|refine ⟨⟨by kernel_rfl,by kernel_rfl⟩,?_⟩|refine ⟨by decide,?_⟩|apply τt|apply τf))
              refine aw_mid2 (fun y : Nat => mk 134 [(0, .hs (0, s) 0 n cap), (1, int a), (2, int b), (3, int lim1), (8, .v (.bool wb)), (9, .v (.bool wp)), (10, int (b - a : Nat)), (11, int p)] ⟨rowH_u32 s d3 tl, [], y, 1⟩) (fun y => True) ?_ ?_
              · by_cases ha : 0 < a
                · have hd : decide (((a : Nat) : Int) > 0) = true := decide_eq_true (by omega)
                  have ea : IntKind.i64.wrap ((a : Int) - 1) = ((a - 1 : Nat) : Int) := by rw [wrap_id (by omega) (by omega)]; omega
                  (refine aw_draw 15 ?_ ?_ ?_ ?_; (· kernel_rfl); (· kernel_rfl); (· kernel_rfl))
                  (repeat((conv=>whnf);first|apply ω0|apply ω1|apply ω2|refine τ3 rfl ?_|refine τ4 rfl ?_|refine ⟨rfl,?_⟩|apply τa|refine τb rfl ?_|refine ⟨⟨by kernel_rfl,by kernel_rfl⟩,?_⟩|refine ⟨by decide,?_⟩|apply τt|apply τf))
                  (conv => whnf)
                  refine lit_eq hd ?_
                  (repeat((conv=>whnf);first|apply ω0|apply ω1|apply ω2|refine τ3 rfl ?_|refine τ4 rfl ?_|refine ⟨rfl,?_⟩|apply τa|refine τb rfl ?_|refine ⟨⟨by kernel_rfl,by kernel_rfl⟩,?_⟩|refine ⟨by decide,?_⟩|apply τt|apply τf))
                  refine ⟨⟨ixge (i := a - 1) (ea), ixlt (i := a - 1) (ea) (by omega)⟩, splitO_eq (b := .bp (0, s) (a - 1)) (congrArg (AV.bp (0, s)) (ixof (i := a - 1) c_u32 (ea))) ?_⟩
                  (conv => whnf)
                  refine ⟨⟨rfl, rowG_in (show a - 1 < d3.size by omega)⟩, splitO_eq (b := eA_u32 d3[a - 1]!) (rowG_get (show a - 1 < d3.size by omega)) ?_⟩
                  (repeat((conv=>whnf);first|apply ω0|apply ω1|apply ω2|refine τ3 rfl ?_|refine τ4 rfl ?_|refine ⟨rfl,?_⟩|apply τa|refine τb rfl ?_|refine ⟨⟨by kernel_rfl,by kernel_rfl⟩,?_⟩|refine ⟨by decide,?_⟩|apply τt|apply τf))
                  refine ⟨⟨ixge (i := p) (rfl), ixlt (i := p) (rfl) (by omega)⟩, splitO_eq (b := .bp (0, s) (p)) (congrArg (AV.bp (0, s)) (ixof (i := p) c_u32 (rfl))) ?_⟩
                  (conv => whnf)
                  refine ⟨⟨rfl, rowG_in (show p < d3.size by omega)⟩, splitO_eq (b := eA_u32 d3[p]!) (rowG_get (show p < d3.size by omega)) ?_⟩
                  (repeat((conv=>whnf);first|apply ω0|apply ω1|apply ω2|refine τ3 rfl ?_|refine τ4 rfl ?_|refine ⟨rfl,?_⟩|apply τa|refine τb rfl ?_|refine ⟨⟨by kernel_rfl,by kernel_rfl⟩,?_⟩|refine ⟨by decide,?_⟩|apply τt|apply τf))
                  refine ex_yields (yields_tells rfl rfl (less_u32 d3[a - 1]! d3[p]!) ⟨AVle.refl _, AVle.refl _, trivial⟩ (NoId.v _)) ?_
                  (repeat((conv=>whnf);first|apply ω0|apply ω1|apply ω2|refine τ3 rfl ?_|refine τ4 rfl ?_|refine ⟨rfl,?_⟩|apply τa|refine τb rfl ?_|refine ⟨⟨by kernel_rfl,by kernel_rfl⟩,?_⟩|refine ⟨by decide,?_⟩|apply τt|apply τf))
                  intro c hlt; cases c
                  · (repeat((conv=>whnf);first|apply ω0|apply ω1|apply ω2|refine τ3 rfl ?_|refine τ4 rfl ?_|refine ⟨rfl,?_⟩|apply τa|refine τb rfl ?_|refine ⟨⟨by kernel_rfl,by kernel_rfl⟩,?_⟩|refine ⟨by decide,?_⟩|apply τt|apply τf))
                    obtain ⟨m1, m2, m3, m4, m5⟩ := Go.Sort.round_eq (lt := Go.Sort.ltInt) (mid := (Go.Sort.partitionEqual Go.Sort.ltInt d3 a b p).1) (d4 := (Go.Sort.partitionEqual Go.Sort.ltInt d3 a b p).2) Go.Sort.swo_ltInt (by first | exact Go.Sort.partitionEqual_holds _ | exact Go.Sort.partitionEqual_holds) ha hpa hpb (by omega) B3 hlt.symm (rfl : Go.Sort.partitionEqual Go.Sort.ltInt d3 a b p = ((Go.Sort.partitionEqual Go.Sort.ltInt d3 a b p).1, (Go.Sort.partitionEqual Go.Sort.ltInt d3 a b p).2))
                    refine aop_callF (xs := [.hs (0, s) 0 n cap, int a, int b, int p]) [] [] 1 rfl rfl rfl rfl ⟨AVle.refl _, AVle.refl _, AVle.refl _, AVle.refl _, trivial⟩ (parteq_u32 d3 tl n a b p s3 hpa hpb hb hsz s cap _) (BxLe.refl _) (PmEq.refl _) rfl fun r h' hq => ?_
                    obtain ⟨nx6, nn6, rfl, rfl⟩ := hq
                    generalize (Go.Sort.partitionEqual Go.Sort.ltInt d3 a b p).1 = mid at m1 m2 m4 m5 ⊢
                    generalize (Go.Sort.partitionEqual Go.Sort.ltInt d3 a b p).2 = d4 at m3 m4 m5 ⊢
                    (repeat((conv=>whnf);first|apply ω0|apply ω1|apply ω2|refine τ3 rfl ?_|refine τ4 rfl ?_|refine ⟨rfl,?_⟩|apply τa|refine τb rfl ?_|refine ⟨⟨by kernel_rfl,by kernel_rfl⟩,?_⟩|refine ⟨by decide,?_⟩|apply τt|apply τf))
                    exact back (d4, (mid, b), lim1, (wb, wp), nx6) ⟨m3.trans s3, ⟨m2, hb, by dsimp only; omega⟩, m4, fun R k1 k2 => hK3 R (m5 R k1 k2).1 (m5 R k1 k2).2⟩ (by dsimp only; omega) (ele_tell _ _ rfl rfl (List.Sublist.refl _) .slnil (BxLe.refl _) trivial ⟨AVle.refl _, AVle.refl _, AVle.refl _, AVle.refl _, AVle.refl _, AVle.refl _, trivial⟩)
                  · (repeat((conv=>whnf);first|apply ω0|apply ω1|apply ω2|refine τ3 rfl ?_|refine τ4 rfl ?_|refine ⟨rfl,?_⟩|apply τa|refine τb rfl ?_|refine ⟨⟨by kernel_rfl,by kernel_rfl⟩,?_⟩|refine ⟨by decide,?_⟩|apply τt|apply τf))
                    exact ⟨nx5, trivial, ele_tell _ _ rfl rfl (List.Sublist.refl _) .slnil (BxLe.refl _) trivial ⟨AVle.refl _, AVle.refl _, AVle.refl _, AVle.refl _, AVle.refl _, AVle.refl _, AVle.refl _, AVle.refl _, trivial⟩⟩
                · have hd : decide (((a : Nat) : Int) > 0) = false := decide_eq_false (by omega)
                  (refine aw_draw 15 ?_ ?_ ?_ ?_; (· kernel_rfl); (· kernel_rfl); (· kernel_rfl))
                  (repeat((conv=>whnf);first|apply ω0|apply ω1|apply ω2|refine τ3 rfl ?_|refine τ4 rfl ?_|refine ⟨rfl,?_⟩|apply τa|refine τb rfl ?_|refine ⟨⟨by kernel_rfl,by kernel_rfl⟩,?_⟩|refine ⟨by decide,?_⟩|apply τt|apply τf))
                  (conv => whnf)
                  refine lit_eq hd ?_
                  (repeat((conv=>whnf);first|apply ω0|apply ω1|apply ω2|refine τ3 rfl ?_|refine τ4 rfl ?_|refine ⟨rfl,?_⟩|apply τa|refine τb rfl ?_|refine ⟨⟨by kernel_rfl,by kernel_rfl⟩,?_⟩|refine ⟨by decide,?_⟩|apply τt|apply τf))
                  exact ⟨nx5, trivial, ele_tell _ _ rfl rfl (List.Sublist.refl _) .slnil (BxLe.refl _) trivial ⟨AVle.refl _, AVle.refl _, AVle.refl _, AVle.refl _, AVle.refl _, AVle.refl _, AVle.refl _, AVle.refl _, trivial⟩⟩
              · intro nx6 _
                (repeat((conv=>whnf);first|apply ω0|apply ω2|refine τ3 rfl ?_|refine τ4 rfl ?_|refine ⟨rfl,?_⟩|apply τa|refine τb rfl ?_|refine ⟨⟨by kernel_rfl,by kernel_rfl⟩,?_⟩|refine ⟨by decide,?_⟩|apply τt|apply τf))
                refine aw_region ?_
                (repeat((conv=>whnf);first|apply ω0|apply ω2|refine τ3 rfl ?_|refine τ4 rfl ?_|refine ⟨rfl,?_⟩|apply τa|refine τb rfl ?_|refine ⟨⟨by kernel_rfl,by kernel_rfl⟩,?_⟩|refine ⟨by decide,?_⟩|apply τt|apply τf))
                obtain ⟨m1, m2, m3, m4, m5, m6, m7⟩ := Go.Sort.round_part (lt := Go.Sort.ltInt) (mid := (Go.Sort.partition Go.Sort.ltInt d3 a b p).1) (ap := (Go.Sort.partition Go.Sort.ltInt d3 a b p).2.1) (d4 := (Go.Sort.partition Go.Sort.ltInt d3 a b p).2.2) Go.Sort.swo_ltInt (by first | exact Go.Sort.partition_holds _ | exact Go.Sort.partition_holds) hpa hpb (by omega) B3 (rfl : Go.Sort.partition Go.Sort.ltInt d3 a b p = ((Go.Sort.partition Go.Sort.ltInt d3 a b p).1, (Go.Sort.partition Go.Sort.ltInt d3 a b p).2.1, (Go.Sort.partition Go.Sort.ltInt d3 a b p).2.2))
                refine aop_callF (xs := [.hs (0, s) 0 n cap, int a, int b, int p]) [] [] 1 rfl rfl rfl rfl ⟨AVle.refl _, AVle.refl _, AVle.refl _, AVle.refl _, trivial⟩ (part_u32 d3 tl n a b p s3 hpa hpb hb hsz s cap _) (BxLe.refl _) (PmEq.refl _) rfl fun r h' hq => ?_
                obtain ⟨fl, nx7, nn7, rfl, rfl⟩ := hq
                generalize (Go.Sort.partition Go.Sort.ltInt d3 a b p).1 = mid at m1 m2 m4 m5 m6 m7 ⊢
                generalize (Go.Sort.partition Go.Sort.ltInt d3 a b p).2.2 = d4 at m3 m4 m5 m6 m7 ⊢
                have s4 : d4.size = n := m3.trans s3
                have e1 : IntKind.i64.wrap ((mid : Int) - (a : Int)) = ((mid - a : Nat) : Int) := wrapN (by omega) (by omega)
                have e2 : IntKind.i64.wrap ((b : Int) - (mid : Int)) = ((b - mid : Nat) : Int) := wrapN (by omega) (by omega)
                (repeat((conv=>whnf);first|apply ω0|apply ω2|refine τ3 rfl ?_|refine τ4 rfl ?_|refine ⟨rfl,?_⟩|apply τa|refine τb rfl ?_|refine ⟨⟨by kernel_rfl,by kernel_rfl⟩,?_⟩|refine ⟨by decide,?_⟩|apply τt|apply τf))
                intro f1 hf1
                ((repeat((conv=>whnf);first|apply ω0|apply ω2|refine τ3 rfl ?_|refine τ4 rfl ?_|refine ⟨rfl,?_⟩|apply τa|refine τb rfl ?_|refine ⟨⟨by kernel_rfl,by kernel_rfl⟩,?_⟩|refine ⟨by decide,?_⟩|apply τt|apply τf)); refine aw_region ?_; (repeat((conv=>whnf);first|apply ω0|apply ω2|refine τ3 rfl ?_|refine τ4 rfl ?_|refine ⟨rfl,?_⟩|apply τa|refine τb rfl ?_|refine ⟨⟨by kernel_rfl,by kernel_rfl⟩,?_⟩|refine ⟨by decide,?_⟩|apply τt|apply τf)); refine aw_region ?_; (repeat((conv=>whnf);first|apply ω0|apply ω2|refine τ3 rfl ?_|refine τ4 rfl ?_|refine ⟨rfl,?_⟩|apply τa|refine τb rfl ?_|refine ⟨⟨by kernel_rfl,by kernel_rfl⟩,?_⟩|refine ⟨by decide,?_⟩|apply τt|apply τf)))
                refine AW.le (E' := mk 134 [(0, .hs (0, s) 0 n cap), (1, int a), (2, int b), (3, int lim1), (9, .v (.bool f1)), (10, int (b - a : Nat)), (14, int mid), (16, int (mid - a : Nat)), (17, int (b - mid : Nat))] ⟨rowH_u32 s d4 tl, [], nx7, 1⟩) (ele_tell _ _ rfl rfl (List.Sublist.refl _) .slnil (BxLe.refl _) trivial ⟨AVle.refl _, AVle.refl _, AVle.refl _, AVle.refl _, AVle.refl _, AVle.refl _, AVle.refl _, le_int e1, le_int e2, trivial⟩) ?_
                (repeat((conv=>whnf);first|apply ω0|apply ω1|apply ω2|refine τ3 rfl ?_|refine τ4 rfl ?_|refine ⟨rfl,?_⟩|apply τa|refine τb rfl ?_|refine ⟨⟨by kernel_rfl,by kernel_rfl⟩,?_⟩|refine ⟨by decide,?_⟩|apply τt|apply τf))
                intro c g; cases c
                · (repeat((conv=>whnf);first|apply ω0|apply ω1|apply ω2|refine τ3 rfl ?_|refine τ4 rfl ?_|refine ⟨rfl,?_⟩|apply τa|refine τb rfl ?_|refine ⟨⟨by kernel_rfl,by kernel_rfl⟩,?_⟩|refine ⟨by decide,?_⟩|apply τt|apply τf))
                  intro wb2 hwb2
                  (repeat((conv=>whnf);first|apply ω0|apply ω1|apply ω2|refine τ3 rfl ?_|refine τ4 rfl ?_|refine ⟨rfl,?_⟩|apply τa|refine τb rfl ?_|refine ⟨⟨by kernel_rfl,by kernel_rfl⟩,?_⟩|refine ⟨by decide,?_⟩|apply τt|apply τf))
                  refine aop_callF (xs := [.hs (0, s) 0 n cap, int (mid + 1 : Nat), int b, int lim1]) [] [] 1 rfl rfl rfl rfl ⟨AVle.refl _, le_int (wrap_succ (by omega)), AVle.refl _, AVle.refl _, trivial⟩ (ih (b - (mid + 1)) (by omega) d4 (mid + 1) b lim1 _ (Nat.le_refl _) s4 (by omega) hb m5) (BxLe.refl _) (PmEq.refl _) rfl fun r h' hq => ?_
                  obtain ⟨d5, nx8, nn8, q1, q2, rfl⟩ := hq
                  obtain ⟨m8, m9⟩ := m7 d5 q1 q2
                  (repeat((conv=>whnf);first|apply ω0|apply ω1|apply ω2|refine τ3 rfl ?_|refine τ4 rfl ?_|refine ⟨rfl,?_⟩|apply τa|refine τb rfl ?_|refine ⟨⟨by kernel_rfl,by kernel_rfl⟩,?_⟩|refine ⟨by decide,?_⟩|apply τt|apply τf))
                  exact back (d5, (a, mid), lim1, (wb2, f1), nx8) ⟨q1.1.trans s4, ⟨m1, by dsimp only; omega, by dsimp only; omega⟩, m8, fun R k1 k2 => hK3 R (m9 R k1 k2).1 (m9 R k1 k2).2⟩ (by dsimp only; omega) (ele_tell _ _ rfl rfl (List.Sublist.refl _) .slnil (BxLe.refl _) trivial ⟨AVle.refl _, AVle.refl _, AVle.refl _, AVle.refl _, AVle.refl _, AVle.refl _, trivial⟩)
                · (repeat((conv=>whnf);first|apply ω0|apply ω1|apply ω2|refine τ3 rfl ?_|refine τ4 rfl ?_|refine ⟨rfl,?_⟩|apply τa|refine τb rfl ?_|refine ⟨⟨by kernel_rfl,by kernel_rfl⟩,?_⟩|refine ⟨by decide,?_⟩|apply τt|apply τf))
                  intro wb2 hwb2
                  (repeat((conv=>whnf);first|apply ω0|apply ω1|apply ω2|refine τ3 rfl ?_|refine τ4 rfl ?_|refine ⟨rfl,?_⟩|apply τa|refine τb rfl ?_|refine ⟨⟨by kernel_rfl,by kernel_rfl⟩,?_⟩|refine ⟨by decide,?_⟩|apply τt|apply τf))
                  refine aop_callF (xs := [.hs (0, s) 0 n cap, int a, int mid, int lim1]) [] [] 1 rfl rfl rfl rfl ⟨AVle.refl _, AVle.refl _, AVle.refl _, AVle.refl _, trivial⟩ (ih (mid - a) (by omega) d4 a mid lim1 _ (Nat.le_refl _) s4 m1 (by omega) m4) (BxLe.refl _) (PmEq.refl _) rfl fun r h' hq => ?_
                  obtain ⟨d5, nx8, nn8, q1, q2, rfl⟩ := hq
                  obtain ⟨m8, m9⟩ := m6 d5 q1 q2
                  (repeat((conv=>whnf);first|apply ω0|apply ω1|apply ω2|refine τ3 rfl ?_|refine τ4 rfl ?_|refine ⟨rfl,?_⟩|apply τa|refine τb rfl ?_|refine ⟨⟨by kernel_rfl,by kernel_rfl⟩,?_⟩|refine ⟨by decide,?_⟩|apply τt|apply τf))
                  exact back (d5, (mid + 1, b), lim1, (wb2, f1), nx8) ⟨q1.1.trans s4, ⟨by dsimp only; omega, hb, by dsimp only; omega⟩, m8, fun R k1 k2 => hK3 R (m9 R k1 k2).1 (m9 R k1 k2).2⟩ (by dsimp only; omega) (ele_tell _ _ rfl rfl (List.Sublist.refl _) .slnil (BxLe.refl _) trivial ⟨AVle.refl _, le_int (wrap_succ (by first | omega | (dsimp only; omega))), AVle.refl _, AVle.refl _, AVle.refl _, AVle.refl _, trivial⟩)
      · obtain ⟨q1, q2⟩ := (Go.Sort.heapSort_holds : Go.Sort.heapSort_stmt Go.Sort.ltInt) Go.Sort.swo_ltInt d a b hab (by omega)
        obtain ⟨k1, k2⟩ := hK _ q1 q2
        (repeat((conv=>whnf);first|apply ω0|apply ω1|apply ω2|refine τ3 rfl ?_|refine τ4 rfl ?_|refine ⟨rfl,?_⟩|apply τa|refine τb rfl ?_|refine ⟨⟨by kernel_rfl,by kernel_rfl⟩,?_⟩|refine ⟨by decide,?_⟩|apply τt|apply τf))
        refine aop_callF (xs := [.hs (0, s) 0 n cap, int a, int b]) [] [] 1 rfl rfl rfl rfl ⟨AVle.refl _, AVle.refl _, AVle.refl _, trivial⟩ (heap_u32 d tl n a b h1 hab hb hsz s cap _) (BxLe.refl _) (PmEq.refl _) rfl fun r h' hq => ?_
        obtain ⟨nx2, nn2, rfl⟩ := hq
        (repeat((conv=>whnf);first|apply ω0|apply ω1|apply ω2|refine τ3 rfl ?_|refine τ4 rfl ?_|refine ⟨rfl,?_⟩|apply τa|refine τb rfl ?_|refine ⟨⟨by kernel_rfl,by kernel_rfl⟩,?_⟩|refine ⟨by decide,?_⟩|apply τt|apply τf))
        exact ret_is rfl ⟨_, _, AVle.refl _, hle_tell (rowH_u32 s (Go.Sort.heapSort Go.Sort.ltInt d a b) tl) [] rfl (List.Sublist.refl _) .slnil (BxLe.refl _) (PmEq.refl _), (Go.Sort.heapSort Go.Sort.ltInt d a b), _, 1, k1, k2, rfl⟩
    · obtain ⟨q1, q2⟩ := (Go.Sort.insertionSort_holds : Go.Sort.insertionSort_stmt Go.Sort.ltInt) Go.Sort.swo_ltInt d a b hab (by omega)
      obtain ⟨k1, k2⟩ := hK _ q1 q2
      (repeat((conv=>whnf);first|apply ω0|apply ω1|apply ω2|refine τ3 rfl ?_|refine τ4 rfl ?_|refine ⟨rfl,?_⟩|apply τa|refine τb rfl ?_|refine ⟨⟨by kernel_rfl,by kernel_rfl⟩,?_⟩|refine ⟨by decide,?_⟩|apply τt|apply τf))
      refine aop_callF (xs := [.hs (0, s) 0 n cap, int a, int b]) [] [] 1 rfl rfl rfl rfl ⟨AVle.refl _, AVle.refl _, AVle.refl _, trivial⟩ (ins_u32 d tl n a b h1 hab hb hsz s cap _) (BxLe.refl _) (PmEq.refl _) rfl fun r h' hq => ?_
      obtain ⟨nx2, nn2, rfl⟩ := hq
      (repeat((conv=>whnf);first|apply ω0|apply ω1|apply ω2|refine τ3 rfl ?_|refine τ4 rfl ?_|refine ⟨rfl,?_⟩|apply τa|refine τb rfl ?_|refine ⟨⟨by kernel_rfl,by kernel_rfl⟩,?_⟩|refine ⟨by decide,?_⟩|apply τt|apply τf))
      exact ret_is rfl ⟨_, _, AVle.refl _, hle_tell (rowH_u32 s (Go.Sort.insertionSort Go.Sort.ltInt d a b) tl) [] rfl (List.Sublist.refl _) .slnil (BxLe.refl _) (PmEq.refl _), (Go.Sort.insertionSort Go.Sort.ltInt d a b), _, 1, k1, k2, rfl⟩
end Go.Proofs.W

namespace Go.Proofs.W
open Go.Vl
set_option maxRecDepth 100000

theorem perm_part {seen : List Nat} {n : Nat} (hnd : seen.Nodup) (hlt : ∀ j ∈ seen, j < n) : ∃ post, (seen ++ post).Perm (List.range n) := by
  refine ⟨(List.range n).filter fun j => decide (j ∉ seen), ?_⟩
  refine (List.perm_ext_iff_of_nodup ?_ List.nodup_range).2 fun j => ?_
  · rw [List.nodup_append]
    refine ⟨hnd, List.nodup_range.filter _, fun a ha b hb hab => ?_⟩
    subst hab
    simp at hb
    exact hb.2 ha
  · simp only [List.mem_append, List.mem_filter, List.mem_range, decide_eq_true_eq]
    constructor
    · rintro (h | h)
      · exact hlt j h
      · exact h.1
    · intro h
      by_cases h1 : j ∈ seen
      · exact .inl h1
      · exact .inr ⟨h, h1⟩
theorem perm_len {seen : List Nat} {n : Nat} (hnd : seen.Nodup) (hlt : ∀ j ∈ seen, j < n) : seen.length ≤ n := by
  obtain ⟨post, h⟩ := perm_part hnd hlt
  have := h.length_eq
  simp at this
  omega
def keyAt (es : List (Value × AV)) (j : Nat) : Value := (es.getD j (.int .i64 0, .any)).1
theorem keyAt_some {es : List (Value × AV)} {k : Nat} {p : Value × AV} (h : es[k]? = some p) : keyAt es k = p.1 := by simp [keyAt, List.getD, h]
theorem keyAt_all (es : List (Value × AV)) : (List.range es.length).map (keyAt es) = es.map (·.1) := by
  refine List.ext_getElem (by simp) fun j h1 h2 => ?_
  have : j < es.length := by simpa using h1
  simp [keyAt, List.getD, this]
theorem keys_int (es : List (Value × AV)) (hky : ∀ p ∈ es, ∃ z, p.1 = .int .i64 z) : IterSet Tryz.prog 38 [] [.rp [.fm es]] (fun v : Value => [.v v]) (fun xs => xs.Perm (es.map (·.1))) := by
  intro i σ Cb Cp I J hc s0 nx nn h0
  refine ECall.wk (ecall_of_aw Tryz.func38 rfl rfl ?_)
  (repeat((conv=>whnf);first|apply ω0|apply ω2|refine τ3 rfl ?_|refine τ4 rfl ?_|refine ⟨rfl,?_⟩|apply τa|refine τb rfl ?_|refine ⟨⟨by kernel_rfl,by kernel_rfl⟩,?_⟩|refine ⟨by decide,?_⟩|apply τt|apply τf))
  refine aw_regionY (fun n => match n with | 0 => true | _ => false) 2 ?_
  (repeat((conv=>whnf);first|apply ω0|apply ω1|apply ω2|refine τ3 rfl ?_|refine τ4 rfl ?_|refine ⟨rfl,?_⟩|apply τa|refine τb rfl ?_|refine ⟨⟨by kernel_rfl,by kernel_rfl⟩,?_⟩|refine ⟨by decide,?_⟩|apply τt|apply τf))
  refine aop_rangeM rfl Tryz.underlying63 rfl ?_
  (repeat((conv=>whnf);first|apply ω0|apply ω1|apply ω2|refine τ3 rfl ?_|refine τ4 rfl ?_|refine ⟨rfl,?_⟩|apply τa|refine τb rfl ?_|refine ⟨⟨by kernel_rfl,by kernel_rfl⟩,?_⟩|refine ⟨by decide,?_⟩|apply τt|apply τf))
  refine aw_loop (fun y : List Nat × σ × Nat => mk 14 [(0, .yl i), (5, .bp (nn, nx) 0)] ⟨((nn, nx), .it es y.1) :: Cb y.2.1, Cp y.2.1, y.2.2, nn + 1⟩) (fun y => y.1.Nodup ∧ (∀ j ∈ y.1, j < es.length) ∧ I (y.1.map (keyAt es)) y.2.1) (fun y => es.length - y.1.length) ?_ ?_
  · exact ⟨([], s0, nx + 1), ⟨List.nodup_nil, (fun j (h : j ∈ []) => by cases h), h0⟩, ele_tell _ _ rfl rfl (List.Sublist.refl _) (List.Sublist.refl _) ⟨rfl, OwnLe.refl _, BxLe.refl _⟩ (PmEq.refl _) ⟨AVle.refl _, AVle.refl _, trivial⟩⟩
  · rintro ⟨seen, s, nx1⟩ ⟨h1, h2, h3⟩
    dsimp only at h1 h2 h3
    (repeat((conv=>whnf);first|apply ω0|apply ω2|refine τ3 rfl ?_|refine τ4 rfl ?_|refine ⟨rfl,?_⟩|apply τa|refine τb rfl ?_|refine ⟨⟨by kernel_rfl,by kernel_rfl⟩,?_⟩|refine ⟨by decide,?_⟩|apply τt|apply τf))
    refine aw_regionY (fun n => match n with | 0 => true | _ => false) 1 ?_
    refine aop_nextH (i := (nn, nx)) (es := es) (seen := seen) (R := Cb s) rfl rfl rfl (fun k p hk hn => ?_) (fun hall => ?_)
    · obtain ⟨z, hz⟩ := hky p (List.mem_of_getElem? hk)
      obtain ⟨key, val⟩ := p
      dsimp only at hz
      subst hz
      have hk2 : k < es.length := (List.getElem?_eq_some_iff.1 hk).1
      have hka : keyAt es k = .int .i64 z := keyAt_some hk
      obtain ⟨post, hperm⟩ := perm_left h1 h2 hk2 hn
      have hS : (seen.map (keyAt es) ++ (.int .i64 z) :: post.map (keyAt es)).Perm (es.map (·.1)) := by
        rw [← keyAt_all, ← hka]
        simpa using hperm.map (keyAt es)
      have hlen := hperm.length_eq
      have hnd : (seen ++ [k]).Nodup := by
        rw [List.nodup_append]
        exact ⟨h1, by simp, fun a ha b hb hab => by rw [List.mem_singleton] at hb; subst hb; subst hab; exact hn ha⟩
      have hlt : ∀ j ∈ seen ++ [k], j < es.length := fun j hj => by
        rcases List.mem_append.1 hj with h | h
        · exact h2 j h
        · rw [List.mem_singleton] at h; omega
      have hmk : (seen ++ [k]).map (keyAt es) = seen.map (keyAt es) ++ [.int .i64 z] := by rw [List.map_append, ← hka]; rfl
      have hlen2 : seen.length < es.length := by simp at hlen; omega
      (repeat((conv=>whnf);first|apply ω0|apply ω2|refine τ3 rfl ?_|refine τ4 rfl ?_|refine ⟨rfl,?_⟩|apply τa|refine τb rfl ?_|refine ⟨⟨by kernel_rfl,by kernel_rfl⟩,?_⟩|refine ⟨by decide,?_⟩|apply τt|apply τf))
      refine aw_regionY (fun n => match n with | 0 => true | _ => false) 1 ?_
      refine aop_entryH (i := (nn, nx)) (seen := seen) (k := k) (R := Cb s) rfl rfl rfl hk ?_
      (repeat((conv=>whnf);first|apply ω0|apply ω2|refine τ3 rfl ?_|refine τ4 rfl ?_|refine ⟨rfl,?_⟩|apply τa|refine τb rfl ?_|refine ⟨⟨by kernel_rfl,by kernel_rfl⟩,?_⟩|refine ⟨by decide,?_⟩|apply τt|apply τf))
      refine aw_regionY (fun n => match n with | 0 => true | _ => false) 3 ?_
      (repeat((conv=>whnf);first|apply ω0|apply ω1|apply ω2|refine τ3 rfl ?_|refine τ4 rfl ?_|refine ⟨rfl,?_⟩|apply τa|refine τb rfl ?_|refine ⟨⟨by kernel_rfl,by kernel_rfl⟩,?_⟩|refine ⟨by decide,?_⟩|apply τt|apply τf))
      refine aop_hand [((nn, nx), .it es (seen ++ [k]))] [] rfl rfl rfl (hc _ hS) rfl h3 ⟨AVle.refl _, trivial⟩ (fun s' nx' hI => ?_) (fun s' nx' hJ => ?_)
      · (repeat((conv=>whnf);first|apply ω0|apply ω1|apply ω2|refine τ3 rfl ?_|refine τ4 rfl ?_|refine ⟨rfl,?_⟩|apply τa|refine τb rfl ?_|refine ⟨⟨by kernel_rfl,by kernel_rfl⟩,?_⟩|refine ⟨by decide,?_⟩|apply τt|apply τf))
        exact back (seen ++ [k], s', nx') ⟨hnd, hlt, by dsimp only; rw [hmk]; exact hI⟩ (by simp; omega) (ele_tell _ _ rfl rfl (List.Sublist.refl _) (List.Sublist.refl _) (BxLe.refl _) (PmEq.refl _) ⟨AVle.refl _, AVle.refl _, trivial⟩)
      · (repeat((conv=>whnf);first|apply ω0|apply ω1|apply ω2|refine τ3 rfl ?_|refine τ4 rfl ?_|refine ⟨rfl,?_⟩|apply τa|refine τb rfl ?_|refine ⟨⟨by kernel_rfl,by kernel_rfl⟩,?_⟩|refine ⟨by decide,?_⟩|apply τt|apply τf))
        exact ret_is rfl ⟨_, ⟨Cb s', Cp s', nx', nn⟩, AVle.refl _, hle_tell _ _ rfl (.cons _ (List.Sublist.refl _)) (List.Sublist.refl _) (BxLe.refl _) (PmEq.refl _), _, s', hS, .inr ⟨_, _, _, rfl, hJ⟩, rfl, rfl⟩
    · (repeat((conv=>whnf);first|apply ω0|apply ω1|apply ω2|refine τ3 rfl ?_|refine τ4 rfl ?_|refine ⟨rfl,?_⟩|apply τa|refine τb rfl ?_|refine ⟨⟨by kernel_rfl,by kernel_rfl⟩,?_⟩|refine ⟨by decide,?_⟩|apply τt|apply τf))
      refine ret_is rfl ⟨_, ⟨Cb s, Cp s, nx1, nn⟩, AVle.refl _, hle_tell _ _ rfl (.cons _ (List.Sublist.refl _)) (List.Sublist.refl _) (BxLe.refl _) (PmEq.refl _), _, s, ?_, .inl h3, rfl, rfl⟩
      rw [← keyAt_all]
      exact (perm_full h1 h2 hall).map _
theorem keys_u32 (es : List (Value × AV)) (hky : ∀ p ∈ es, ∃ z, p.1 = .int .u32 z) : IterSet Tryz.prog 35 [] [.rp [.fm es]] (fun v : Value => [.v v]) (fun xs => xs.Perm (es.map (·.1))) := by
  intro i σ Cb Cp I J hc s0 nx nn h0
  refine ECall.wk (ecall_of_aw Tryz.func35 rfl rfl ?_)
  (repeat((conv=>whnf);first|apply ω0|apply ω2|refine τ3 rfl ?_|refine τ4 rfl ?_|refine ⟨rfl,?_⟩|apply τa|refine τb rfl ?_|refine ⟨⟨by kernel_rfl,by kernel_rfl⟩,?_⟩|refine ⟨by decide,?_⟩|apply τt|apply τf))
  refine aw_regionY (fun n => match n with | 0 => true | _ => false) 2 ?_
  (repeat((conv=>whnf);first|apply ω0|apply ω1|apply ω2|refine τ3 rfl ?_|refine τ4 rfl ?_|refine ⟨rfl,?_⟩|apply τa|refine τb rfl ?_|refine ⟨⟨by kernel_rfl,by kernel_rfl⟩,?_⟩|refine ⟨by decide,?_⟩|apply τt|apply τf))
  refine aop_rangeM rfl Tryz.underlying53 rfl ?_
  (repeat((conv=>whnf);first|apply ω0|apply ω1|apply ω2|refine τ3 rfl ?_|refine τ4 rfl ?_|refine ⟨rfl,?_⟩|apply τa|refine τb rfl ?_|refine ⟨⟨by kernel_rfl,by kernel_rfl⟩,?_⟩|refine ⟨by decide,?_⟩|apply τt|apply τf))
  refine aw_loop (fun y : List Nat × σ × Nat => mk 14 [(0, .yl i), (5, .bp (nn, nx) 0)] ⟨((nn, nx), .it es y.1) :: Cb y.2.1, Cp y.2.1, y.2.2, nn + 1⟩) (fun y => y.1.Nodup ∧ (∀ j ∈ y.1, j < es.length) ∧ I (y.1.map (keyAt es)) y.2.1) (fun y => es.length - y.1.length) ?_ ?_
  · exact ⟨([], s0, nx + 1), ⟨List.nodup_nil, (fun j (h : j ∈ []) => by cases h), h0⟩, ele_tell _ _ rfl rfl (List.Sublist.refl _) (List.Sublist.refl _) ⟨rfl, OwnLe.refl _, BxLe.refl _⟩ (PmEq.refl _) ⟨AVle.refl _, AVle.refl _, trivial⟩⟩
  · rintro ⟨seen, s, nx1⟩ ⟨h1, h2, h3⟩
    dsimp only at h1 h2 h3
    (repeat((conv=>whnf);first|apply ω0|apply ω2|refine τ3 rfl ?_|refine τ4 rfl ?_|refine ⟨rfl,?_⟩|apply τa|refine τb rfl ?_|refine ⟨⟨by kernel_rfl,by kernel_rfl⟩,?_⟩|refine ⟨by decide,?_⟩|apply τt|apply τf))
    refine aw_regionY (fun n => match n with | 0 => true | _ => false) 1 ?_
    refine aop_nextH (i := (nn, nx)) (es := es) (seen := seen) (R := Cb s) rfl rfl rfl (fun k p hk hn => ?_) (fun hall => ?_)
    · obtain ⟨z, hz⟩ := hky p (List.mem_of_getElem? hk)
      obtain ⟨key, val⟩ := p
      dsimp only at hz
      subst hz
      have hk2 : k < es.length := (List.getElem?_eq_some_iff.1 hk).1
      have hka : keyAt es k = .int .u32 z := keyAt_some hk
      obtain ⟨post, hperm⟩ := perm_left h1 h2 hk2 hn
      have hS : (seen.map (keyAt es) ++ (.int .u32 z) :: post.map (keyAt es)).Perm (es.map (·.1)) := by
        rw [← keyAt_all, ← hka]
        simpa using hperm.map (keyAt es)
      have hlen := hperm.length_eq
      have hnd : (seen ++ [k]).Nodup := by
        rw [List.nodup_append]
        exact ⟨h1, by simp, fun a ha b hb hab => by rw [List.mem_singleton] at hb; subst hb; subst hab; exact hn ha⟩
      have hlt : ∀ j ∈ seen ++ [k], j < es.length := fun j hj => by
        rcases List.mem_append.1 hj with h | h
        · exact h2 j h
        · rw [List.mem_singleton] at h; omega
      have hmk : (seen ++ [k]).map (keyAt es) = seen.map (keyAt es) ++ [.int .u32 z] := by rw [List.map_append, ← hka]; rfl
      have hlen2 : seen.length < es.length := by simp at hlen; omega
      (repeat((conv=>whnf);first|apply ω0|apply ω2|refine τ3 rfl ?_|refine τ4 rfl ?_|refine ⟨rfl,?_⟩|apply τa|refine τb rfl ?_|refine ⟨⟨by kernel_rfl,by kernel_rfl⟩,?_⟩|refine ⟨by decide,?_⟩|apply τt|apply τf))
      refine aw_regionY (fun n => match n with | 0 => true | _ => false) 1 ?_
      refine aop_entryH (i := (nn, nx)) (seen := seen) (k := k) (R := Cb s) rfl rfl rfl hk ?_
      (repeat((conv=>whnf);first|apply ω0|apply ω2|refine τ3 rfl ?_|refine τ4 rfl ?_|refine ⟨rfl,?_⟩|apply τa|refine τb rfl ?_|refine ⟨⟨by kernel_rfl,by kernel_rfl⟩,?_⟩|refine ⟨by decide,?_⟩|apply τt|apply τf))
      refine aw_regionY (fun n => match n with | 0 => true | _ => false) 3 ?_
      (repeat((conv=>whnf);first|apply ω0|apply ω1|apply ω2|refine τ3 rfl ?_|refine τ4 rfl ?_|refine ⟨rfl,?_⟩|apply τa|refine τb rfl ?_|refine ⟨⟨by kernel_rfl,by kernel_rfl⟩,?_⟩|refine ⟨by decide,?_⟩|apply τt|apply τf))
      refine aop_hand [((nn, nx), .it es (seen ++ [k]))] [] rfl rfl rfl (hc _ hS) rfl h3 ⟨AVle.refl _, trivial⟩ (fun s' nx' hI => ?_) (fun s' nx' hJ => ?_)
      · (repeat((conv=>whnf);first|apply ω0|apply ω1|apply ω2|refine τ3 rfl ?_|refine τ4 rfl ?_|refine ⟨rfl,?_⟩|apply τa|refine τb rfl ?_|refine ⟨⟨by kernel_rfl,by kernel_rfl⟩,?_⟩|refine ⟨by decide,?_⟩|apply τt|apply τf))
        exact back (seen ++ [k], s', nx') ⟨hnd, hlt, by dsimp only; rw [hmk]; exact hI⟩ (by simp; omega) (ele_tell _ _ rfl rfl (List.Sublist.refl _) (List.Sublist.refl _) (BxLe.refl _) (PmEq.refl _) ⟨AVle.refl _, AVle.refl _, trivial⟩)
      · (repeat((conv=>whnf);first|apply ω0|apply ω1|apply ω2|refine τ3 rfl ?_|refine τ4 rfl ?_|refine ⟨rfl,?_⟩|apply τa|refine τb rfl ?_|refine ⟨⟨by kernel_rfl,by kernel_rfl⟩,?_⟩|refine ⟨by decide,?_⟩|apply τt|apply τf))
        exact ret_is rfl ⟨_, ⟨Cb s', Cp s', nx', nn⟩, AVle.refl _, hle_tell _ _ rfl (.cons _ (List.Sublist.refl _)) (List.Sublist.refl _) (BxLe.refl _) (PmEq.refl _), _, s', hS, .inr ⟨_, _, _, rfl, hJ⟩, rfl, rfl⟩
    · (repeat((conv=>whnf);first|apply ω0|apply ω1|apply ω2|refine τ3 rfl ?_|refine τ4 rfl ?_|refine ⟨rfl,?_⟩|apply τa|refine τb rfl ?_|refine ⟨⟨by kernel_rfl,by kernel_rfl⟩,?_⟩|refine ⟨by decide,?_⟩|apply τt|apply τf))
      refine ret_is rfl ⟨_, ⟨Cb s, Cp s, nx1, nn⟩, AVle.refl _, hle_tell _ _ rfl (.cons _ (List.Sublist.refl _)) (List.Sublist.refl _) (BxLe.refl _) (PmEq.refl _), _, s, ?_, .inl h3, rfl, rfl⟩
      rw [← keyAt_all]
      exact (perm_full h1 h2 hall).map _
end Go.Proofs.W

namespace Go.Proofs.W
open Go.Vl
set_option maxRecDepth 100000

def rowV (l : List Value) (k : Nat) : AV := .v (l.getD k (.bool false))
theorem le_rowV {l : List Value} {x : Value} {f' : Nat → AV} {i : Option Vl.Id} (h : f' 0 = .v x) : AVle (.os 1 (l.length + 1) (appF l.length (rowV l) f') i) (.os 1 (l ++ [x]).length (rowV (l ++ [x])) i) := by
  rw [List.length_append]
  refine AVle.os_fun (appF_one (fun k hk => ?_) ?_)
  · simp [rowV, List.getD, List.getElem?_append_left hk, hk]
  · rw [h]; simp [rowV, List.getD]
theorem b_int : Tryz.prog.bytesOf 3 = 8 := by kernel_rfl
theorem mapsKeys_int (es : List (Value × AV)) : Tells Tryz.prog 22 [.fm es] (.fn (.func 38) [] [.rp [.fm es]]) := by
  refine tells_of_aw Tryz.func22 rfl rfl fun nx => ?_
  (repeat ((conv=>whnf);first|refine ω0 ?_|refine ω1 ?_|refine ω2 ?_|refine ω3 ?_|refine ω4 rfl ?_|refine ω5 rfl ?_|refine ω6 ?_|refine ω7 ?_|refine ⟨rfl,?_⟩|refine ⟨trivial,?_⟩|refine ⟨⟨rfl,Nat.le_of_ble_eq_true rfl⟩,?_⟩|refine ⟨⟨by kernel_rfl,by kernel_rfl⟩,?_⟩|refine ⟨by decide,?_⟩|refine lit_true ?_|refine lit_false ?_))
  refine AW.le (ele_freeze (L := [(2, .fn (.func 38) [] [.rp [.fm es]])]) (bx := []) (pm := []) (nn := 1) [((0, nx), .c [.fm es])] rfl rfl (List.Sublist.refl _) .slnil ⟨Frz.fn trivial ⟨Frz.bp (.head _) rfl, trivial⟩, trivial⟩) ?_
  (repeat((conv=>whnf);first|apply ω0|apply ω1|apply ω2|refine τ3 rfl ?_|refine τ4 rfl ?_|refine ⟨rfl,?_⟩|apply τa|refine τb rfl ?_|refine ⟨⟨by kernel_rfl,by kernel_rfl⟩,?_⟩|refine ⟨by decide,?_⟩|apply τt|apply τf))
  exact ret_tells rfl (AVle.refl _)
set_option maxHeartbeats 1000000 in
theorem appendSeq_int {it : FuncId} {es : List (Value × AV)} {S : List Value → Prop} (hit : IterSet Tryz.prog it [] [.rp [.fm es]] (fun v : Value => [.v v]) S) (hS : ∀ xs, S xs → xs.length ≤ 1000000 ∧ ∀ v ∈ xs, ∃ z, v = .int .i64 z) (nx : Nat) :
    ECall Tryz.prog 61 [.os 0 0 (fun _ => .any) none, .fn (.func it) [] [.rp [.fm es]]] ⟨[], [], nx, 0⟩ fun r h' => ∃ xs oi nx' nn', S xs ∧ (oi = none → xs = []) ∧ r = .os 1 xs.length (rowV xs) oi ∧ h' = ⟨[], pmOf oi (xs.length * 1), nx', nn'⟩ := by
  refine ECall.wk (ecall_of_aw Tryz.func61 rfl rfl ?_)
  (repeat((conv=>whnf);first|apply ω0|apply ω1|apply ω2|refine τ3 rfl ?_|refine τ4 rfl ?_|refine ⟨rfl,?_⟩|apply τa|refine τb rfl ?_|refine ⟨⟨by kernel_rfl,by kernel_rfl⟩,?_⟩|refine ⟨by decide,?_⟩|apply τt|apply τf))
  refine AW.le (E' := mk 13 [(2, .bp (0, nx) 0), (6, .fn (.func it) [] [.rp [.fm es]])] ⟨[((0, nx), .c [.os 1 0 (rowV []) none])], [], nx + 1, 1⟩) ?_ ?_
  · exact ele_tell _ _ rfl rfl (List.Sublist.refl _) .slnil ⟨rfl, ⟨AVle.os_nil, trivial⟩, trivial⟩ trivial ⟨AVle.refl _, AVle.refl _, trivial⟩
  refine aw_forS (σ := Nat × (Nat → AV) × Option Vl.Id) (α := Value) (e := fun v => [.v v]) (S := S) (first' := []) (caps' := [.rp [.fm es]]) (fun x => [((0, nx), .c [.os 1 x.1 x.2.1 x.2.2])]) (fun x => pmOf x.2.2 (x.1 * 1)) (fun pre x => x.1 = pre.length ∧ (∀ k, k < x.1 → x.2.1 k = rowV pre k) ∧ (x.2.2 = none → pre = [])) (0, rowV [], none) rfl rfl hit (LeL.refl _) (LeL.refl _) rfl rfl ⟨rfl, fun _ _ => rfl, fun _ => rfl⟩ (fun _ => rfl) ?_ ?_
  · rintro pre x post ⟨n, f, oi⟩ nx3 nn3 hx ⟨hp, hf, ho⟩
    dsimp only at hp hf ho
    subst hp
    obtain ⟨hlen, hty⟩ := hS _ hx
    obtain ⟨z, rfl⟩ := hty x (by simp)
    simp at hlen
    (repeat((conv=>whnf);first|apply ω0|apply ω2|refine τ3 rfl ?_|refine τ4 rfl ?_|refine ⟨rfl,?_⟩|apply τa|refine τb rfl ?_|refine ⟨⟨by kernel_rfl,by kernel_rfl⟩,?_⟩|refine ⟨by decide,?_⟩|apply τt|apply τf))
    refine aw_region ?_
    (repeat((conv=>whnf);first|apply ω0|apply ω2|refine τ3 rfl ?_|refine τ4 rfl ?_|refine ⟨rfl,?_⟩|apply τa|refine τb rfl ?_|refine ⟨⟨by kernel_rfl,by kernel_rfl⟩,?_⟩|refine ⟨by decide,?_⟩|apply τt|apply τf))
    refine aw_regionY (fun n => match n with | 0 => true | _ => false) 4 ?_
    (repeat((conv=>whnf);first|apply ω0|apply ω1|apply ω2|refine τ3 rfl ?_|refine τ4 rfl ?_|refine ⟨rfl,?_⟩|apply τa|refine τb rfl ?_|refine ⟨⟨by kernel_rfl,by kernel_rfl⟩,?_⟩|refine ⟨by decide,?_⟩|apply τt|apply τf))
    refine aop_append1 (e := 3) (c := 1) (pm := []) (n := pre.length) (oi := oi) (sz := 1) (f := f) rfl rfl (.inr ⟨_, rfl⟩) (by kernel_rfl) (by kernel_rfl) (by kernel_rfl) (.inr rfl) (by kernel_rfl) (List.append_nil _).symm (oneRow_one rfl) (by rw [b_int]; omega) (by omega) ?_
    (repeat((conv=>whnf);first|apply ω0|apply ω1|apply ω2|refine τ3 rfl ?_|refine τ4 rfl ?_|refine ⟨rfl,?_⟩|apply τa|refine τb rfl ?_|refine ⟨⟨by kernel_rfl,by kernel_rfl⟩,?_⟩|refine ⟨by decide,?_⟩|apply τt|apply τf))
    refine ⟨(pre.length + 1, _, some (nn3, nx3)), .inl ⟨rfl, by simp, fun k hk => ?_, fun h => by cases h⟩, rfl, rfl⟩
    refine appF_one (fun k hk => ?_) ?_ k hk
    · rw [hf k hk]; simp [rowV, List.getD, List.getElem?_append_left hk, hk]
    · simp [rowV, List.getD]; rfl
  · rintro xs ⟨n, f, oi⟩ nx3 nn3 hx ⟨hp, hf, ho⟩
    dsimp only at hp hf ho
    subst hp
    (repeat((conv=>whnf);first|apply ω0|apply ω1|apply ω2|refine τ3 rfl ?_|refine τ4 rfl ?_|refine ⟨rfl,?_⟩|apply τa|refine τb rfl ?_|refine ⟨⟨by kernel_rfl,by kernel_rfl⟩,?_⟩|refine ⟨by decide,?_⟩|apply τt|apply τf))
    refine ret_is rfl ⟨.os 1 xs.length (rowV xs) oi, ⟨[], pmOf oi (xs.length * 1), nx3, 0⟩, AVle.os_fun hf, ?_, xs, oi, nx3, 0, hx, ho, rfl, rfl⟩
    exact hle_tell [] _ rfl (List.nil_sublist _) (List.Sublist.refl _) trivial (PmEq.refl _)
theorem collect_int (es : List (Value × AV)) (hl : es.length ≤ 1000000) (hky : ∀ p ∈ es, ∃ z, p.1 = .int .i64 z) (nx : Nat) :
    ECall Tryz.prog 36 [.fn (.func 38) [] [.rp [.fm es]]] ⟨[], [], nx, 0⟩ (thawQ (fun n f => ∃ xs : List Value, xs.Perm (es.map (·.1)) ∧ n = xs.length ∧ ∀ k, k < n → f k = rowV xs k) 1) := by
  refine ecall_thaw (by decide) (fun n f ⟨xs, _, _, hf⟩ k hk c hc => ?_) ?_
  · rw [hf k hk] at hc
    obtain rfl : c = rowV xs k := by simpa [rowV, AV.cells] using hc
    exact Flat.v _
  refine ECall.wk (ecall_of_aw Tryz.func36 rfl rfl ?_)
  (repeat((conv=>whnf);first|apply ω0|apply ω1|apply ω2|refine τ3 rfl ?_|refine τ4 rfl ?_|refine ⟨rfl,?_⟩|apply τa|refine τb rfl ?_|refine ⟨⟨by kernel_rfl,by kernel_rfl⟩,?_⟩|refine ⟨by decide,?_⟩|apply τt|apply τf))
  refine aop_call rfl rfl (ECall.args (bs := [.os 0 0 (fun _ => .any) none, .fn (.func 38) [] [.rp [.fm es]]]) ⟨AVle.refl _, AVle.refl _, trivial⟩ (appendSeq_int (keys_int es hky) (fun xs hx => ⟨by have := hx.length_eq; simp at this; omega, fun v hv => ?_⟩) nx)) fun r h' hq => ?_
  · obtain ⟨p, hp, rfl⟩ := List.mem_map.1 (hx.mem_iff.1 hv)
    exact hky p hp
  obtain ⟨xs, oi, nx', nn', hS, ho, rfl, rfl⟩ := hq
  refine Named.same ?_
  (repeat((conv=>whnf);first|apply ω0|apply ω1|apply ω2|refine τ3 rfl ?_|refine τ4 rfl ?_|refine ⟨rfl,?_⟩|apply τa|refine τb rfl ?_|refine ⟨⟨by kernel_rfl,by kernel_rfl⟩,?_⟩|refine ⟨by decide,?_⟩|apply τt|apply τf))
  exact ret_is rfl ⟨_, _, AVle.refl _, HLe.refl _, xs.length, rowV xs, oi, nx', _, ⟨xs, hS, rfl, fun _ _ => rfl⟩, (fun h => by rw [ho h]; rfl), rfl, rfl⟩
theorem b_u32 : Tryz.prog.bytesOf 26 = 4 := by kernel_rfl
theorem mapsKeys_u32 (es : List (Value × AV)) : Tells Tryz.prog 17 [.fm es] (.fn (.func 35) [] [.rp [.fm es]]) := by
  refine tells_of_aw Tryz.func17 rfl rfl fun nx => ?_
  (repeat ((conv=>whnf);first|refine ω0 ?_|refine ω1 ?_|refine ω2 ?_|refine ω3 ?_|refine ω4 rfl ?_|refine ω5 rfl ?_|refine ω6 ?_|refine ω7 ?_|refine ⟨rfl,?_⟩|refine ⟨trivial,?_⟩|refine ⟨⟨rfl,Nat.le_of_ble_eq_true rfl⟩,?_⟩|refine ⟨⟨by kernel_rfl,by kernel_rfl⟩,?_⟩|refine ⟨by decide,?_⟩|refine lit_true ?_|refine lit_false ?_))
  refine AW.le (ele_freeze (L := [(2, .fn (.func 35) [] [.rp [.fm es]])]) (bx := []) (pm := []) (nn := 1) [((0, nx), .c [.fm es])] rfl rfl (List.Sublist.refl _) .slnil ⟨Frz.fn trivial ⟨Frz.bp (.head _) rfl, trivial⟩, trivial⟩) ?_
  (repeat((conv=>whnf);first|apply ω0|apply ω1|apply ω2|refine τ3 rfl ?_|refine τ4 rfl ?_|refine ⟨rfl,?_⟩|apply τa|refine τb rfl ?_|refine ⟨⟨by kernel_rfl,by kernel_rfl⟩,?_⟩|refine ⟨by decide,?_⟩|apply τt|apply τf))
  exact ret_tells rfl (AVle.refl _)
set_option maxHeartbeats 1000000 in
theorem appendSeq_u32 {it : FuncId} {es : List (Value × AV)} {S : List Value → Prop} (hit : IterSet Tryz.prog it [] [.rp [.fm es]] (fun v : Value => [.v v]) S) (hS : ∀ xs, S xs → xs.length ≤ 1000000 ∧ ∀ v ∈ xs, ∃ z, v = .int .u32 z) (nx : Nat) :
    ECall Tryz.prog 58 [.os 0 0 (fun _ => .any) none, .fn (.func it) [] [.rp [.fm es]]] ⟨[], [], nx, 0⟩ fun r h' => ∃ xs oi nx' nn', S xs ∧ (oi = none → xs = []) ∧ r = .os 1 xs.length (rowV xs) oi ∧ h' = ⟨[], pmOf oi (xs.length * 1), nx', nn'⟩ := by
  refine ECall.wk (ecall_of_aw Tryz.func58 rfl rfl ?_)
  (repeat((conv=>whnf);first|apply ω0|apply ω1|apply ω2|refine τ3 rfl ?_|refine τ4 rfl ?_|refine ⟨rfl,?_⟩|apply τa|refine τb rfl ?_|refine ⟨⟨by kernel_rfl,by kernel_rfl⟩,?_⟩|refine ⟨by decide,?_⟩|apply τt|apply τf))
  refine AW.le (E' := mk 13 [(2, .bp (0, nx) 0), (6, .fn (.func it) [] [.rp [.fm es]])] ⟨[((0, nx), .c [.os 1 0 (rowV []) none])], [], nx + 1, 1⟩) ?_ ?_
  · exact ele_tell _ _ rfl rfl (List.Sublist.refl _) .slnil ⟨rfl, ⟨AVle.os_nil, trivial⟩, trivial⟩ trivial ⟨AVle.refl _, AVle.refl _, trivial⟩
  refine aw_forS (σ := Nat × (Nat → AV) × Option Vl.Id) (α := Value) (e := fun v => [.v v]) (S := S) (first' := []) (caps' := [.rp [.fm es]]) (fun x => [((0, nx), .c [.os 1 x.1 x.2.1 x.2.2])]) (fun x => pmOf x.2.2 (x.1 * 1)) (fun pre x => x.1 = pre.length ∧ (∀ k, k < x.1 → x.2.1 k = rowV pre k) ∧ (x.2.2 = none → pre = [])) (0, rowV [], none) rfl rfl hit (LeL.refl _) (LeL.refl _) rfl rfl ⟨rfl, fun _ _ => rfl, fun _ => rfl⟩ (fun _ => rfl) ?_ ?_
  · rintro pre x post ⟨n, f, oi⟩ nx3 nn3 hx ⟨hp, hf, ho⟩
    dsimp only at hp hf ho
    subst hp
    obtain ⟨hlen, hty⟩ := hS _ hx
    obtain ⟨z, rfl⟩ := hty x (by simp)
    simp at hlen
    (repeat((conv=>whnf);first|apply ω0|apply ω2|refine τ3 rfl ?_|refine τ4 rfl ?_|refine ⟨rfl,?_⟩|apply τa|refine τb rfl ?_|refine ⟨⟨by kernel_rfl,by kernel_rfl⟩,?_⟩|refine ⟨by decide,?_⟩|apply τt|apply τf))
    refine aw_region ?_
    (repeat((conv=>whnf);first|apply ω0|apply ω2|refine τ3 rfl ?_|refine τ4 rfl ?_|refine ⟨rfl,?_⟩|apply τa|refine τb rfl ?_|refine ⟨⟨by kernel_rfl,by kernel_rfl⟩,?_⟩|refine ⟨by decide,?_⟩|apply τt|apply τf))
    refine aw_regionY (fun n => match n with | 0 => true | _ => false) 4 ?_
    (repeat((conv=>whnf);first|apply ω0|apply ω1|apply ω2|refine τ3 rfl ?_|refine τ4 rfl ?_|refine ⟨rfl,?_⟩|apply τa|refine τb rfl ?_|refine ⟨⟨by kernel_rfl,by kernel_rfl⟩,?_⟩|refine ⟨by decide,?_⟩|apply τt|apply τf))
    refine aop_append1 (e := 26) (c := 1) (pm := []) (n := pre.length) (oi := oi) (sz := 1) (f := f) rfl rfl (.inr ⟨_, rfl⟩) (by kernel_rfl) (by kernel_rfl) (by kernel_rfl) (.inr rfl) (by kernel_rfl) (List.append_nil _).symm (oneRow_one rfl) (by rw [b_u32]; omega) (by omega) ?_
    (repeat((conv=>whnf);first|apply ω0|apply ω1|apply ω2|refine τ3 rfl ?_|refine τ4 rfl ?_|refine ⟨rfl,?_⟩|apply τa|refine τb rfl ?_|refine ⟨⟨by kernel_rfl,by kernel_rfl⟩,?_⟩|refine ⟨by decide,?_⟩|apply τt|apply τf))
    refine ⟨(pre.length + 1, _, some (nn3, nx3)), .inl ⟨rfl, by simp, fun k hk => ?_, fun h => by cases h⟩, rfl, rfl⟩
    refine appF_one (fun k hk => ?_) ?_ k hk
    · rw [hf k hk]; simp [rowV, List.getD, List.getElem?_append_left hk, hk]
    · simp [rowV, List.getD]; rfl
  · rintro xs ⟨n, f, oi⟩ nx3 nn3 hx ⟨hp, hf, ho⟩
    dsimp only at hp hf ho
    subst hp
    (repeat((conv=>whnf);first|apply ω0|apply ω1|apply ω2|refine τ3 rfl ?_|refine τ4 rfl ?_|refine ⟨rfl,?_⟩|apply τa|refine τb rfl ?_|refine ⟨⟨by kernel_rfl,by kernel_rfl⟩,?_⟩|refine ⟨by decide,?_⟩|apply τt|apply τf))
    refine ret_is rfl ⟨.os 1 xs.length (rowV xs) oi, ⟨[], pmOf oi (xs.length * 1), nx3, 0⟩, AVle.os_fun hf, ?_, xs, oi, nx3, 0, hx, ho, rfl, rfl⟩
    exact hle_tell [] _ rfl (List.nil_sublist _) (List.Sublist.refl _) trivial (PmEq.refl _)
theorem collect_u32 (es : List (Value × AV)) (hl : es.length ≤ 1000000) (hky : ∀ p ∈ es, ∃ z, p.1 = .int .u32 z) (nx : Nat) :
    ECall Tryz.prog 33 [.fn (.func 35) [] [.rp [.fm es]]] ⟨[], [], nx, 0⟩ (thawQ (fun n f => ∃ xs : List Value, xs.Perm (es.map (·.1)) ∧ n = xs.length ∧ ∀ k, k < n → f k = rowV xs k) 1) := by
  refine ecall_thaw (by decide) (fun n f ⟨xs, _, _, hf⟩ k hk c hc => ?_) ?_
  · rw [hf k hk] at hc
    obtain rfl : c = rowV xs k := by simpa [rowV, AV.cells] using hc
    exact Flat.v _
  refine ECall.wk (ecall_of_aw Tryz.func33 rfl rfl ?_)
  (repeat((conv=>whnf);first|apply ω0|apply ω1|apply ω2|refine τ3 rfl ?_|refine τ4 rfl ?_|refine ⟨rfl,?_⟩|apply τa|refine τb rfl ?_|refine ⟨⟨by kernel_rfl,by kernel_rfl⟩,?_⟩|refine ⟨by decide,?_⟩|apply τt|apply τf))
  refine aop_call rfl rfl (ECall.args (bs := [.os 0 0 (fun _ => .any) none, .fn (.func 35) [] [.rp [.fm es]]]) ⟨AVle.refl _, AVle.refl _, trivial⟩ (appendSeq_u32 (keys_u32 es hky) (fun xs hx => ⟨by have := hx.length_eq; simp at this; omega, fun v hv => ?_⟩) nx)) fun r h' hq => ?_
  · obtain ⟨p, hp, rfl⟩ := List.mem_map.1 (hx.mem_iff.1 hv)
    exact hky p hp
  obtain ⟨xs, oi, nx', nn', hS, ho, rfl, rfl⟩ := hq
  refine Named.same ?_
  (repeat((conv=>whnf);first|apply ω0|apply ω1|apply ω2|refine τ3 rfl ?_|refine τ4 rfl ?_|refine ⟨rfl,?_⟩|apply τa|refine τb rfl ?_|refine ⟨⟨by kernel_rfl,by kernel_rfl⟩,?_⟩|refine ⟨by decide,?_⟩|apply τt|apply τf))
  exact ret_is rfl ⟨_, _, AVle.refl _, HLe.refl _, xs.length, rowV xs, oi, nx', _, ⟨xs, hS, rfl, fun _ _ => rfl⟩, (fun h => by rw [ho h]; rfl), rfl, rfl⟩
end Go.Proofs.W

namespace Go.Proofs.W
open Go.Vl
set_option maxRecDepth 100000

theorem sortS_u32 (d0 : Array (Int)) (tl : List AV) (n : Nat) (hn : d0.size = n) (hsz : n ≤ 1000000) (s cap nx : Nat) :
    ECall Tryz.prog 34 [.hs (0, s) 0 n cap] ⟨rowH_u32 s d0 tl, [], nx, 1⟩ (fun r h' => ∃ d' nx' nn', Go.Sort.PermIn 0 n d0 d' ∧ Go.Sort.SortedIn Go.Sort.ltInt 0 n d' ∧ h' = ⟨rowH_u32 s d' tl, [], nx', nn'⟩) := by
  refine ECall.wk (ecall_of_aw Tryz.func34 rfl rfl ?_)
  (repeat((conv=>whnf);first|apply ω0|apply ω1|apply ω2|refine τ3 rfl ?_|refine τ4 rfl ?_|refine ⟨rfl,?_⟩|apply τa|refine τb rfl ?_|refine ⟨⟨by kernel_rfl,by kernel_rfl⟩,?_⟩|refine ⟨by decide,?_⟩|apply τt|apply τf))
  refine aop_tells rfl rfl (bitsLen_spec n (by omega)) ⟨AVle.of_eq (congrArg (fun z => AV.v (.int .u64 z)) (IntWalk.u64_in _ (by omega))), trivial⟩ fun nx1 => ?_
  (repeat((conv=>whnf);first|apply ω0|apply ω1|apply ω2|refine τ3 rfl ?_|refine τ4 rfl ?_|refine ⟨rfl,?_⟩|apply τa|refine τb rfl ?_|refine ⟨⟨by kernel_rfl,by kernel_rfl⟩,?_⟩|refine ⟨by decide,?_⟩|apply τt|apply τf))
  refine aop_callF (xs := [.hs (0, s) 0 n cap, int (0 : Nat), int n, int (Lib.bitLen n)]) [] [] 1 rfl rfl rfl rfl ⟨AVle.refl _, AVle.refl _, AVle.refl _, AVle.refl _, trivial⟩ (pdq_u32 tl n hsz s cap n d0 0 n _ _ (by omega) hn (Nat.zero_le _) (Nat.le_refl _) (.inl rfl)) (BxLe.refl _) (PmEq.refl _) rfl fun r h' hq => ?_
  obtain ⟨d', nx2, nn2, h1, h2, rfl⟩ := hq
  (repeat((conv=>whnf);first|apply ω0|apply ω1|apply ω2|refine τ3 rfl ?_|refine τ4 rfl ?_|refine ⟨rfl,?_⟩|apply τa|refine τb rfl ?_|refine ⟨⟨by kernel_rfl,by kernel_rfl⟩,?_⟩|refine ⟨by decide,?_⟩|apply τt|apply τf))
  exact ret_is rfl ⟨_, _, AVle.refl _, hle_tell (rowH_u32 s d' tl) [] rfl (List.Sublist.refl _) .slnil (BxLe.refl _) (PmEq.refl _), d', nx2, 1, h1, h2, rfl⟩
theorem sort0_u32 (F : Nat → AV) : Tells Tryz.prog 34 [.os 1 0 F none] .any := by
  have hi : Tells Tryz.prog 66 [.os 1 0 F none, int (0 : Nat), int (0 : Nat)] .any := by
    refine tells_of_aw Tryz.func66 rfl rfl fun nx => ?_
    (repeat((conv=>whnf);first|apply ω0|apply ω1|apply ω2|refine τ3 rfl ?_|refine τ4 rfl ?_|refine ⟨rfl,?_⟩|apply τa|refine τb rfl ?_|refine ⟨⟨by kernel_rfl,by kernel_rfl⟩,?_⟩|refine ⟨by decide,?_⟩|apply τt|apply τf))
    refine aw_loop (fun y : Nat => mk 49 [(0, .os 1 0 F none), (1, int (0 : Nat)), (2, int (0 : Nat)), (6, int (1 : Nat))] ⟨[], [], y, 0⟩) (fun _ => True) (fun _ => 0) ?_ ?_
    · exact ⟨nx, trivial, ele_keep rfl rfl (List.Sublist.refl _) (List.Sublist.refl _) ⟨AVle.refl _, AVle.refl _, AVle.refl _, AVle.refl _, trivial⟩⟩
    · intro nx1 _
      (repeat((conv=>whnf);first|apply ω0|apply ω1|apply ω2|refine τ3 rfl ?_|refine τ4 rfl ?_|refine ⟨rfl,?_⟩|apply τa|refine τb rfl ?_|refine ⟨⟨by kernel_rfl,by kernel_rfl⟩,?_⟩|refine ⟨by decide,?_⟩|apply τt|apply τf))
      exact ret_tells rfl (AVle.any _)
  have hp : ∀ lim : Int, Tells Tryz.prog 59 [.os 1 0 F none, int (0 : Nat), int (0 : Nat), int lim] .any := fun lim => by
    refine tells_of_aw Tryz.func59 rfl rfl fun nx => ?_
    (repeat((conv=>whnf);first|apply ω0|apply ω1|apply ω2|refine τ3 rfl ?_|refine τ4 rfl ?_|refine ⟨rfl,?_⟩|apply τa|refine τb rfl ?_|refine ⟨⟨by kernel_rfl,by kernel_rfl⟩,?_⟩|refine ⟨by decide,?_⟩|apply τt|apply τf))
    refine aw_loop (fun y : Nat => mk 134 [(0, .os 1 0 F none), (1, int (0 : Nat)), (2, int (0 : Nat)), (3, int lim)] ⟨[], [], y, 0⟩) (fun _ => True) (fun _ => 0) ?_ ?_
    · exact ⟨nx, trivial, ele_keep rfl rfl (List.Sublist.refl _) (List.Sublist.refl _) ⟨AVle.refl _, AVle.refl _, AVle.refl _, AVle.refl _, trivial⟩⟩
    · intro nx1 _
      (repeat((conv=>whnf);first|apply ω0|apply ω1|apply ω2|refine τ3 rfl ?_|refine τ4 rfl ?_|refine ⟨rfl,?_⟩|apply τa|refine τb rfl ?_|refine ⟨⟨by kernel_rfl,by kernel_rfl⟩,?_⟩|refine ⟨by decide,?_⟩|apply τt|apply τf))
      refine aop_tells rfl rfl hi ⟨AVle.refl _, AVle.refl _, AVle.refl _, trivial⟩ fun nx2 => ?_
      (repeat((conv=>whnf);first|apply ω0|apply ω1|apply ω2|refine τ3 rfl ?_|refine τ4 rfl ?_|refine ⟨rfl,?_⟩|apply τa|refine τb rfl ?_|refine ⟨⟨by kernel_rfl,by kernel_rfl⟩,?_⟩|refine ⟨by decide,?_⟩|apply τt|apply τf))
      exact ret_tells rfl (AVle.any _)
  refine tells_of_aw Tryz.func34 rfl rfl fun nx => ?_
  (repeat((conv=>whnf);first|apply ω0|apply ω1|apply ω2|refine τ3 rfl ?_|refine τ4 rfl ?_|refine ⟨rfl,?_⟩|apply τa|refine τb rfl ?_|refine ⟨⟨by kernel_rfl,by kernel_rfl⟩,?_⟩|refine ⟨by decide,?_⟩|apply τt|apply τf))
  refine aop_tells rfl rfl (bitsLen_spec 0 (by omega)) ⟨AVle.refl _, trivial⟩ fun nx1 => ?_
  (repeat((conv=>whnf);first|apply ω0|apply ω1|apply ω2|refine τ3 rfl ?_|refine τ4 rfl ?_|refine ⟨rfl,?_⟩|apply τa|refine τb rfl ?_|refine ⟨⟨by kernel_rfl,by kernel_rfl⟩,?_⟩|refine ⟨by decide,?_⟩|apply τt|apply τf))
  refine aop_tells rfl rfl (hp _) ⟨AVle.refl _, AVle.refl _, AVle.refl _, AVle.refl _, trivial⟩ fun nx2 => ?_
  (repeat((conv=>whnf);first|apply ω0|apply ω1|apply ω2|refine τ3 rfl ?_|refine τ4 rfl ?_|refine ⟨rfl,?_⟩|apply τa|refine τb rfl ?_|refine ⟨⟨by kernel_rfl,by kernel_rfl⟩,?_⟩|refine ⟨by decide,?_⟩|apply τt|apply τf))
  exact ret_tells rfl (AVle.any _)
def dec_u32 : Value → Int
  | .int _ z => z
  | _ => 0
theorem sorted_u32 (es : List (Value × AV)) (zs : List (Int)) (hz : es.map (·.1) = zs.map (Value.int .u32)) (hl : es.length ≤ 1000000) :
    Tells Tryz.prog 16 [.fn (.func 35) [] [.rp [.fm es]]] (slOf 1 eA_u32 0 (sortBy Go.Sort.ltInt zs)) := by
  have hky : ∀ p ∈ es, ∃ z, p.1 = Value.int .u32 z := fun p hp => by
    have : p.1 ∈ zs.map (Value.int .u32) := hz ▸ List.mem_map_of_mem hp
    obtain ⟨z, _, h⟩ := List.mem_map.1 this
    exact ⟨z, h.symm⟩
  refine tells_of_aw Tryz.func16 rfl rfl fun nx => ?_
  (repeat((conv=>whnf);first|apply ω0|apply ω1|apply ω2|refine τ3 rfl ?_|refine τ4 rfl ?_|refine ⟨rfl,?_⟩|apply τa|refine τb rfl ?_|refine ⟨⟨by kernel_rfl,by kernel_rfl⟩,?_⟩|refine ⟨by decide,?_⟩|apply τt|apply τf))
  refine aop_call rfl rfl (collect_u32 es hl hky nx) fun r h' hq => ?_
  obtain ⟨n, f, ⟨xs, hxp, hxn, hxf⟩, hq⟩ := hq
  obtain ⟨ys, rfl⟩ : ∃ ys : List (Int), xs = ys.map (Value.int .u32) := by
    have hall : ∀ v ∈ xs, ∃ z, v = Value.int .u32 z := fun v hv => by
      have hv2 := hxp.mem_iff.1 hv
      rw [hz] at hv2
      obtain ⟨z, _, h⟩ := List.mem_map.1 hv2
      exact ⟨z, h.symm⟩
    clear hxp hxn hxf hq
    induction xs with
    | nil => exact ⟨[], rfl⟩
    | cons x xs ih =>
      obtain ⟨z, rfl⟩ := hall x (by simp)
      obtain ⟨ys, rfl⟩ := ih fun v hv => hall v (by simp [hv])
      exact ⟨z :: ys, rfl⟩
  have hperm : ys.Perm zs := by
    rw [hz] at hxp
    have h2 := hxp.map dec_u32
    rwa [List.map_map, List.map_map, show (dec_u32 ∘ (Value.int .u32)) = id from rfl, List.map_id, List.map_id] at h2
  have hsz : n ≤ 1000000 := by
    have := hxp.length_eq
    simp at this
    rw [hxn]; simp; omega
  rcases hq with ⟨rfl, hb, hp, rfl⟩ | ⟨s, cap, more, nx', nn', hcap, hmore, rfl, rfl⟩
  · have hys : ys = [] := by cases ys with | nil => rfl | cons y ys => simp at hxn
    subst hys
    have hzs : zs = [] := hperm.symm.eq_nil
    subst hzs
    rw [show sortBy Go.Sort.ltInt ([] : List (Int)) = [] from List.eq_nil_of_length_eq_zero sortBy_length]
    obtain ⟨bx, pm, nxx, nnn⟩ := h'
    dsimp only at hb hp
    subst hb; subst hp
    refine Named.same ?_
    (repeat((conv=>whnf);first|apply ω0|apply ω1|apply ω2|refine τ3 rfl ?_|refine τ4 rfl ?_|refine ⟨rfl,?_⟩|apply τa|refine τb rfl ?_|refine ⟨⟨by kernel_rfl,by kernel_rfl⟩,?_⟩|refine ⟨by decide,?_⟩|apply τt|apply τf))
    refine aop_tells rfl rfl (sort0_u32 f) ⟨AVle.refl _, trivial⟩ fun nx2 => ?_
    (repeat((conv=>whnf);first|apply ω0|apply ω1|apply ω2|refine τ3 rfl ?_|refine τ4 rfl ?_|refine ⟨rfl,?_⟩|apply τa|refine τb rfl ?_|refine ⟨⟨by kernel_rfl,by kernel_rfl⟩,?_⟩|refine ⟨by decide,?_⟩|apply τt|apply τf))
    exact ret_tells rfl AVle.os_sl0
  · refine Named.same ?_
    have hcells : rowCells n f = ys.toArray.toList.map eA_u32 := by
      have key : ∀ m, m ≤ n → rowCells m f = (ys.take m).map eA_u32 := by
        intro m
        induction m with
        | zero => intro _; rfl
        | succ m ih =>
          intro hm
          have hm' : m < ys.length := by simp at hxn; omega
          have e : rowCells (m + 1) f = rowCells m f ++ (f m).cells := by unfold rowCells; rw [List.range_succ, List.flatMap_append]; simp
          rw [e, ih (by omega), hxf m (by omega), List.take_add_one, List.map_append]
          simp [rowV, List.getD, hm', AV.cells, eA_u32]
      rw [key n (Nat.le_refl _), List.take_of_length_le (by simp at hxn; omega)]
    have hnn : ys.toArray.size = n := by simp at hxn; simp [hxn]
    rw [hcells]
    (repeat((conv=>whnf);first|apply ω0|apply ω2|refine τ3 rfl ?_|refine τ4 rfl ?_|refine ⟨rfl,?_⟩|apply τa|refine τb rfl ?_|refine ⟨⟨by kernel_rfl,by kernel_rfl⟩,?_⟩|refine ⟨by decide,?_⟩|apply τt|apply τf))
    refine AW.le (E' := mk 9 [(3, .hs (0, s) 0 n cap)] ⟨rowH_u32 s ys.toArray (List.replicate more .any), [], nx', 1⟩) (ele_tell _ _ rfl rfl (List.Sublist.refl _) .slnil (BxLe.refl _) trivial ⟨AVle.refl _, trivial⟩) ?_
    (repeat((conv=>whnf);first|apply ω0|apply ω1|apply ω2|refine τ3 rfl ?_|refine τ4 rfl ?_|refine ⟨rfl,?_⟩|apply τa|refine τb rfl ?_|refine ⟨⟨by kernel_rfl,by kernel_rfl⟩,?_⟩|refine ⟨by decide,?_⟩|apply τt|apply τf))
    refine aop_callF (xs := [.hs (0, s) 0 n cap]) [] [] 1 rfl rfl rfl rfl ⟨AVle.refl _, trivial⟩ (sortS_u32 ys.toArray _ n hnn hsz s cap _) (BxLe.refl _) (PmEq.refl _) rfl fun r h' hq => ?_
    obtain ⟨d', nx2, nn2, h1, h2, rfl⟩ := hq
    have hd : d'.toList = sortBy Go.Sort.ltInt zs := by
      subst hnn
      rw [Go.Sort.sorted_unique_holds (by first | exact Go.Sort.swo_ltInt | exact Go.Sort.ltInt) (by first | exact ltInt_tot | exact Go.Sort.swo_ltInt) ys.toArray d' h1 h2]
      exact sortBy_of_perm Go.Sort.swo_ltInt ltInt_tot hperm
    have hdn : d'.size = n := h1.1.trans hnn
    have hln : (sortBy Go.Sort.ltInt zs).length = n := by rw [← hd]; simpa using hdn
    (repeat((conv=>whnf);first|apply ω0|apply ω2|refine τ3 rfl ?_|refine τ4 rfl ?_|refine ⟨rfl,?_⟩|apply τa|refine τb rfl ?_|refine ⟨⟨by kernel_rfl,by kernel_rfl⟩,?_⟩|refine ⟨by decide,?_⟩|apply τt|apply τf))
    refine AW.le (ele_freeze (L := [(3, slOf 1 eA_u32 0 (sortBy Go.Sort.ltInt zs))]) (bx := []) (pm := []) (nn := 1) [((0, s), .c (rowG eA_u32 d' (List.replicate more .any)))] rfl rfl (List.Sublist.refl _) .slnil ⟨?_, trivial⟩) ?_
    · unfold slOf
      rw [hln]
      refine Frz.hs1 (.head _) hcap (by rw [rowG_len]; omega) (fun k _ => rfl) (fun k hk => ?_)
      unfold rowG
      rw [List.getElem?_append_left (by simpa [hdn] using hk), List.getElem?_map, ← hd]
      have : k < d'.size := by omega
      simp [List.getD, this]
    · (repeat((conv=>whnf);first|apply ω0|apply ω1|apply ω2|refine τ3 rfl ?_|refine τ4 rfl ?_|refine ⟨rfl,?_⟩|apply τa|refine τb rfl ?_|refine ⟨⟨by kernel_rfl,by kernel_rfl⟩,?_⟩|refine ⟨by decide,?_⟩|apply τt|apply τf))
      exact ret_tells rfl (AVle.refl _)
end Go.Proofs.W

namespace Go.Proofs
open Go.Shelf
shelf_lay_g SlLaysM.n5 Slgm 5 at Tryz 37 as Tryz.laysM5
end Go.Proofs
namespace Go.Proofs.W
open Go.Vl Go.Shelf
set_option maxRecDepth 100000

/- slices.Sorted of a map's int keys, by the shelf's slices.Sort. -/
def eA_int (z : Int) : AV := .v (.int .i64 z)
def rowH_int (s : Nat) (d : Array Int) (tl : List AV) : List (Vl.Id × Own) := [((0, s), .c (rowG eA_int d tl))]
theorem sort_int_eqK (l : List Int) : l.mergeSort (fun x y => decide (x ≤ y)) = sortBy Go.Sort.ltInt l := by
  unfold sortBy
  congr 1
  funext x y
  simp only [Go.Sort.ltInt]
  by_cases h : x ≤ y
  · rw [decide_eq_true h, decide_eq_false (by omega)]; rfl
  · rw [decide_eq_false h, decide_eq_true (by omega)]; rfl
theorem sortS_int (d0 : Array Int) (tl : List AV) (n : Nat) (hn : d0.size = n) (hsz : n ≤ 1000000) (s cap nx : Nat) :
    ECall Tryz.prog 37 [.hs (0, s) 0 n cap] ⟨rowH_int s d0 tl, [], nx, 1⟩ (fun r h' => ∃ nx' nn', h' = ⟨rowH_int s (sortBy Go.Sort.ltInt d0.toList).toArray tl, [], nx', nn'⟩) := by
  subst hn
  have h := ecall_sort1 (P := Tryz.prog) (enc := Value.int .i64) (d := d0) (d' := (sortBy Go.Sort.ltInt d0.toList).toArray) (tl := tl) (nm := 0) (s := s) (cap := cap) (nx := nx) (nn := 1) (f := 37) ⟨_, Tryz.func37, rfl, rfl⟩ (by simp [sortBy_length]) (fun w blk hH hb => by
    have k := AnyM.slices_Sort_int Tryz.laysM5 blk 0 cap d0.toList w hH hb (by simp; omega)
    rw [sort_int_eqK] at k
    exact k)
  exact h.mono fun r h' ⟨_, h2⟩ => ⟨nx, 1, h2⟩
theorem sort0_int (F : Nat → AV) : Tells Tryz.prog 37 [.os 1 0 F none] (.tup []) :=
  ecall_sort0 (nx := 0) ⟨_, Tryz.func37, rfl, rfl⟩ fun p cap w => AnyM.slices_Sort_int_none Tryz.laysM5 p cap w
def dec_int : Value → Int
  | .int _ z => z
  | _ => 0
theorem sorted_int (es : List (Value × AV)) (zs : List (Int)) (hz : es.map (·.1) = zs.map (Value.int .i64)) (hl : es.length ≤ 1000000) :
    Tells Tryz.prog 21 [.fn (.func 38) [] [.rp [.fm es]]] (slOf 1 eA_int 0 (sortBy Go.Sort.ltInt zs)) := by
  have hky : ∀ p ∈ es, ∃ z, p.1 = Value.int .i64 z := fun p hp => by
    have : p.1 ∈ zs.map (Value.int .i64) := hz ▸ List.mem_map_of_mem hp
    obtain ⟨z, _, h⟩ := List.mem_map.1 this
    exact ⟨z, h.symm⟩
  refine tells_of_aw Tryz.func21 rfl rfl fun nx => ?_
  (repeat((conv=>whnf);first|apply ω0|apply ω1|apply ω2|refine τ3 rfl ?_|refine τ4 rfl ?_|refine ⟨rfl,?_⟩|apply τa|refine τb rfl ?_|refine ⟨⟨by kernel_rfl,by kernel_rfl⟩,?_⟩|refine ⟨by decide,?_⟩|apply τt|apply τf))
  refine aop_call rfl rfl (collect_int es hl hky nx) fun r h' hq => ?_
  obtain ⟨n, f, ⟨xs, hxp, hxn, hxf⟩, hq⟩ := hq
  obtain ⟨ys, rfl⟩ : ∃ ys : List (Int), xs = ys.map (Value.int .i64) := by
    have hall : ∀ v ∈ xs, ∃ z, v = Value.int .i64 z := fun v hv => by
      have hv2 := hxp.mem_iff.1 hv
      rw [hz] at hv2
      obtain ⟨z, _, h⟩ := List.mem_map.1 hv2
      exact ⟨z, h.symm⟩
    clear hxp hxn hxf hq
    induction xs with
    | nil => exact ⟨[], rfl⟩
    | cons x xs ih =>
      obtain ⟨z, rfl⟩ := hall x (by simp)
      obtain ⟨ys, rfl⟩ := ih fun v hv => hall v (by simp [hv])
      exact ⟨z :: ys, rfl⟩
  have hperm : ys.Perm zs := by
    rw [hz] at hxp
    have h2 := hxp.map dec_int
    rwa [List.map_map, List.map_map, show (dec_int ∘ (Value.int .i64)) = id from rfl, List.map_id, List.map_id] at h2
  have hsz : n ≤ 1000000 := by
    have := hxp.length_eq
    simp at this
    rw [hxn]; simp; omega
  rcases hq with ⟨rfl, hb, hp, rfl⟩ | ⟨s, cap, more, nx', nn', hcap, hmore, rfl, rfl⟩
  · have hys : ys = [] := by cases ys with | nil => rfl | cons y ys => simp at hxn
    subst hys
    have hzs : zs = [] := hperm.symm.eq_nil
    subst hzs
    rw [show sortBy Go.Sort.ltInt ([] : List (Int)) = [] from List.eq_nil_of_length_eq_zero sortBy_length]
    obtain ⟨bx, pm, nxx, nnn⟩ := h'
    dsimp only at hb hp
    subst hb; subst hp
    refine Named.same ?_
    (repeat((conv=>whnf);first|apply ω0|apply ω1|apply ω2|refine τ3 rfl ?_|refine τ4 rfl ?_|refine ⟨rfl,?_⟩|apply τa|refine τb rfl ?_|refine ⟨⟨by kernel_rfl,by kernel_rfl⟩,?_⟩|refine ⟨by decide,?_⟩|apply τt|apply τf))
    refine aop_tells rfl rfl (sort0_int f) ⟨AVle.refl _, trivial⟩ fun nx2 => ?_
    (repeat((conv=>whnf);first|apply ω0|apply ω1|apply ω2|refine τ3 rfl ?_|refine τ4 rfl ?_|refine ⟨rfl,?_⟩|apply τa|refine τb rfl ?_|refine ⟨⟨by kernel_rfl,by kernel_rfl⟩,?_⟩|refine ⟨by decide,?_⟩|apply τt|apply τf))
    exact ret_tells rfl AVle.os_sl0
  · refine Named.same ?_
    have hcells : rowCells n f = ys.toArray.toList.map eA_int := by
      have key : ∀ m, m ≤ n → rowCells m f = (ys.take m).map eA_int := by
        intro m
        induction m with
        | zero => intro _; rfl
        | succ m ih =>
          intro hm
          have hm' : m < ys.length := by simp at hxn; omega
          have e : rowCells (m + 1) f = rowCells m f ++ (f m).cells := by unfold rowCells; rw [List.range_succ, List.flatMap_append]; simp
          rw [e, ih (by omega), hxf m (by omega), List.take_add_one, List.map_append]
          simp [rowV, List.getD, hm', AV.cells, eA_int]
      rw [key n (Nat.le_refl _), List.take_of_length_le (by simp at hxn; omega)]
    have hnn : ys.toArray.size = n := by simp at hxn; simp [hxn]
    rw [hcells]
    (repeat((conv=>whnf);first|apply ω0|apply ω2|refine τ3 rfl ?_|refine τ4 rfl ?_|refine ⟨rfl,?_⟩|apply τa|refine τb rfl ?_|refine ⟨⟨by kernel_rfl,by kernel_rfl⟩,?_⟩|refine ⟨by decide,?_⟩|apply τt|apply τf))
    refine AW.le (E' := mk 9 [(3, .hs (0, s) 0 n cap)] ⟨rowH_int s ys.toArray (List.replicate more .any), [], nx', 1⟩) (ele_tell _ _ rfl rfl (List.Sublist.refl _) .slnil (BxLe.refl _) trivial ⟨AVle.refl _, trivial⟩) ?_
    (repeat((conv=>whnf);first|apply ω0|apply ω1|apply ω2|refine τ3 rfl ?_|refine τ4 rfl ?_|refine ⟨rfl,?_⟩|apply τa|refine τb rfl ?_|refine ⟨⟨by kernel_rfl,by kernel_rfl⟩,?_⟩|refine ⟨by decide,?_⟩|apply τt|apply τf))
    refine aop_callF (xs := [.hs (0, s) 0 n cap]) [] [] 1 rfl rfl rfl rfl ⟨AVle.refl _, trivial⟩ (sortS_int ys.toArray _ n hnn hsz s cap _) (BxLe.refl _) (PmEq.refl _) rfl fun r h' hq => ?_
    obtain ⟨nx2, nn2, rfl⟩ := hq
    have hd : (sortBy Go.Sort.ltInt ys.toArray.toList).toArray.toList = sortBy Go.Sort.ltInt zs := by
      show sortBy Go.Sort.ltInt ys = _
      exact sortBy_of_perm Go.Sort.swo_ltInt ltInt_tot hperm
    generalize (sortBy Go.Sort.ltInt ys.toArray.toList).toArray = d' at hd ⊢
    have hdn : d'.size = n := by
      rw [← Array.length_toList, hd, sortBy_length, ← hperm.length_eq]
      simpa using hnn
    have hln : (sortBy Go.Sort.ltInt zs).length = n := by rw [← hd]; simpa using hdn
    (repeat((conv=>whnf);first|apply ω0|apply ω2|refine τ3 rfl ?_|refine τ4 rfl ?_|refine ⟨rfl,?_⟩|apply τa|refine τb rfl ?_|refine ⟨⟨by kernel_rfl,by kernel_rfl⟩,?_⟩|refine ⟨by decide,?_⟩|apply τt|apply τf))
    refine AW.le (ele_freeze (L := [(3, slOf 1 eA_int 0 (sortBy Go.Sort.ltInt zs))]) (bx := []) (pm := []) (nn := 1) [((0, s), .c (rowG eA_int d' (List.replicate more .any)))] rfl rfl (List.Sublist.refl _) .slnil ⟨?_, trivial⟩) ?_
    · unfold slOf
      rw [hln]
      refine Frz.hs1 (.head _) hcap (by rw [rowG_len]; omega) (fun k _ => rfl) (fun k hk => ?_)
      unfold rowG
      rw [List.getElem?_append_left (by simpa [hdn] using hk), List.getElem?_map, ← hd]
      have : k < d'.size := by omega
      simp [List.getD, this]
    · (repeat((conv=>whnf);first|apply ω0|apply ω1|apply ω2|refine τ3 rfl ?_|refine τ4 rfl ?_|refine ⟨rfl,?_⟩|apply τa|refine τb rfl ?_|refine ⟨⟨by kernel_rfl,by kernel_rfl⟩,?_⟩|refine ⟨by decide,?_⟩|apply τt|apply τf))
      exact ret_tells rfl (AVle.refl _)
end Go.Proofs.W

namespace Go.Proofs.W
open Go.Vl
set_option maxRecDepth 100000

def okL (l : List Ins) : Prop := ∀ i ∈ l, i.ok
theorem okL.get {l : List Ins} (h : okL l) {n : Nat} (hn : n < l.length) : (l.getD n ins0).ok := by
  have : l.getD n ins0 ∈ l := by simp [List.getD, hn]
  exact h _ this
theorem find_range_some {n i : Nat} {p : Nat → Bool} (hi : i < n) (h : p i = true) (hb : ∀ j, j < i → p j = false) : (List.range n).find? p = some i := by
  rw [List.find?_range_eq_some]
  exact ⟨h, by simpa using hi, by simpa using hb⟩
theorem find_range_none {n : Nat} {p : Nat → Bool} (hb : ∀ j, j < n → p j = false) : (List.range n).find? p = none := by
  rw [List.find?_range_eq_none]
  simpa using hb
theorem of_kind (c : Nat) (hc : c < 65536) : Tells Tryz.prog 8 [u16 c] (.tup [int (kof c).1, .any, .any]) := (of_spec c hc).le (AVle.tups (cs := [_, _, _]) ⟨AVle.refl _, AVle.any _, AVle.any _, trivial⟩)
theorem of_both (c : Nat) (hc : c < 65536) : Tells Tryz.prog 8 [u16 c] (.tup [int (kof c).1, boolA (kof c).2, .any]) := (of_spec c hc).le (AVle.tups (cs := [_, _, _]) ⟨AVle.refl _, AVle.refl _, AVle.any _, trivial⟩)
theorem formed_spec (l : List Ins) (hok : okL l) (hl : l.length ≤ 1000000000) : Tells Tryz.prog 39 [inss l] (.tup [int (formedI l).1, int (formedI l).2]) := by
  refine tells_of_aw Tryz.func39 rfl rfl fun nx => ?_
  (repeat((conv=>whnf);first|apply ω0|apply ω1|apply ω2|refine τ3 rfl ?_|refine τ4 rfl ?_|refine ⟨rfl,?_⟩|apply τa|refine τb rfl ?_|refine ⟨⟨by kernel_rfl,by kernel_rfl⟩,?_⟩|refine ⟨by decide,?_⟩|apply τt|apply τf))
  intro c g1; cases c
  · have h1 := not_of g1
    (repeat((conv=>whnf);first|apply ω0|apply ω1|apply ω2|refine τ3 rfl ?_|refine τ4 rfl ?_|refine ⟨rfl,?_⟩|apply τa|refine τb rfl ?_|refine ⟨⟨by kernel_rfl,by kernel_rfl⟩,?_⟩|refine ⟨by decide,?_⟩|apply τt|apply τf))
    intro c g2; cases c
    · have h2 := not_of g2
      (repeat((conv=>whnf);first|apply ω0|apply ω1|apply ω2|refine τ3 rfl ?_|refine τ4 rfl ?_|refine ⟨rfl,?_⟩|apply τa|refine τb rfl ?_|refine ⟨⟨by kernel_rfl,by kernel_rfl⟩,?_⟩|refine ⟨by decide,?_⟩|apply τt|apply τf))
      refine aw_loop (fun s : Nat × Nat => mk 71 [(0, inss l), (22, inss l), (23, int l.length), (24, int s.1)] ⟨[], [], s.2, 0⟩) (fun s => s.1 ≤ l.length ∧ ∀ j, j < s.1 → wrongI (l.getD j ins0) (l.length - 1 - j) = 0) (fun s => l.length - s.1) ?_ ?_
      · exact ⟨(0, nx), ⟨by omega, by intro j hj; omega⟩, ele_mk rfl rfl ⟨AVle.refl _, AVle.refl _, AVle.refl _, AVle.refl _, trivial⟩⟩
      · rintro ⟨i, nx'⟩ ⟨h3, h4⟩
        dsimp only at h3 h4
        (repeat((conv=>whnf);first|apply ω0|apply ω1|apply ω2|refine τ3 rfl ?_|refine τ4 rfl ?_|refine ⟨rfl,?_⟩|apply τa|refine τb rfl ?_|refine ⟨⟨by kernel_rfl,by kernel_rfl⟩,?_⟩|refine ⟨by decide,?_⟩|apply τt|apply τf))
        intro c g3; cases c
        · have h5 := not_of g3
          (repeat((conv=>whnf);first|apply ω0|apply ω1|apply ω2|refine τ3 rfl ?_|refine τ4 rfl ?_|refine ⟨rfl,?_⟩|apply τa|refine τb rfl ?_|refine ⟨⟨by kernel_rfl,by kernel_rfl⟩,?_⟩|refine ⟨by decide,?_⟩|apply τt|apply τf))
          have hw : IntKind.i64.wrap ((l.length : Int) - 1) = ((l.length - 1 : Nat) : Int) := by rw [wrap_id (by omega) (by omega)]; omega
          (conv => whnf)
          rw [hw]
          refine ⟨⟨by omega, by omega⟩, ?_⟩
          (repeat((conv=>whnf);first|apply ω0|apply ω1|apply ω2|refine τ3 rfl ?_|refine τ4 rfl ?_|refine ⟨rfl,?_⟩|apply τa|refine τb rfl ?_|refine ⟨⟨by kernel_rfl,by kernel_rfl⟩,?_⟩|refine ⟨by decide,?_⟩|apply τt|apply τf))
          have hlast : (Int.toNat ((l.length - 1 : Nat) : Int)) = l.length - 1 := by omega
          refine aop_tells rfl rfl (of_kind (l.getD (l.length - 1) ins0).code (hok.get (by omega)).1) ⟨AVle.refl _, trivial⟩ fun nx => ?_
          have hnone : (List.range l.length).find? (fun n => wrongI (l.getD n ins0) (l.length - 1 - n) != 0) = none := find_range_none fun j hj => by simpa using h4 j (by omega)
          (repeat((conv=>whnf);first|apply ω0|apply ω1|apply ω2|refine τ3 rfl ?_|refine τ4 rfl ?_|refine ⟨rfl,?_⟩|apply τa|refine τb rfl ?_|refine ⟨⟨by kernel_rfl,by kernel_rfl⟩,?_⟩|refine ⟨by decide,?_⟩|apply τt|apply τf))
          intro c g4; cases c
          · have h6 := bne_no g4
            (repeat((conv=>whnf);first|apply ω0|apply ω1|apply ω2|refine τ3 rfl ?_|refine τ4 rfl ?_|refine ⟨rfl,?_⟩|apply τa|refine τb rfl ?_|refine ⟨⟨by kernel_rfl,by kernel_rfl⟩,?_⟩|refine ⟨by decide,?_⟩|apply τt|apply τf))
            refine ret_tells rfl (AVle.of_eq ?_)
            have : formedI l = (0, 0) := by
              unfold formedI
              rw [if_neg (by omega), if_neg (by omega), hnone]
              dsimp only
              rw [if_pos (by omega)]
            rw [this]; rfl
          · have h6 := bne_yes g4
            (repeat((conv=>whnf);first|apply ω0|apply ω1|apply ω2|refine τ3 rfl ?_|refine τ4 rfl ?_|refine ⟨rfl,?_⟩|apply τa|refine τb rfl ?_|refine ⟨⟨by kernel_rfl,by kernel_rfl⟩,?_⟩|refine ⟨by decide,?_⟩|apply τt|apply τf))
            intro c g5; cases c
            · have h7 := bne_no g5
              (repeat((conv=>whnf);first|apply ω0|apply ω1|apply ω2|refine τ3 rfl ?_|refine τ4 rfl ?_|refine ⟨rfl,?_⟩|apply τa|refine τb rfl ?_|refine ⟨⟨by kernel_rfl,by kernel_rfl⟩,?_⟩|refine ⟨by decide,?_⟩|apply τt|apply τf))
              refine ret_tells rfl (AVle.of_eq ?_)
              have : formedI l = (0, 0) := by
                unfold formedI
                rw [if_neg (by omega), if_neg (by omega), hnone]
                dsimp only
                rw [if_pos (by omega)]
              rw [this]; rfl
            · have h7 := bne_yes g5
              (repeat((conv=>whnf);first|apply ω0|apply ω1|apply ω2|refine τ3 rfl ?_|refine τ4 rfl ?_|refine ⟨rfl,?_⟩|apply τa|refine τb rfl ?_|refine ⟨⟨by kernel_rfl,by kernel_rfl⟩,?_⟩|refine ⟨by decide,?_⟩|apply τt|apply τf))
              refine ret_tells rfl (AVle.of_eq ?_)
              have : formedI l = (l.length - 1, 11) := by
                unfold formedI
                rw [if_neg (by omega), if_neg (by omega), hnone]
                dsimp only
                rw [if_neg (by omega)]
              rw [this]; rfl
        · have h5 := yes_of g3
          dsimp only at h5
          have hi : i < l.length := by omega
          (repeat((conv=>whnf);first|apply ω0|apply ω1|apply ω2|refine τ3 rfl ?_|refine τ4 rfl ?_|refine ⟨rfl,?_⟩|apply τa|refine τb rfl ?_|refine ⟨⟨by kernel_rfl,by kernel_rfl⟩,?_⟩|refine ⟨by decide,?_⟩|apply τt|apply τf))
          refine ⟨⟨by dsimp only; omega, by dsimp only; omega⟩, ?_⟩
          (repeat((conv=>whnf);first|apply ω0|apply ω1|apply ω2|refine τ3 rfl ?_|refine τ4 rfl ?_|refine ⟨rfl,?_⟩|apply τa|refine τb rfl ?_|refine ⟨⟨by kernel_rfl,by kernel_rfl⟩,?_⟩|refine ⟨by decide,?_⟩|apply τt|apply τf))
          refine aop_tells rfl rfl (of_both (l.getD i ins0).code (hok.get hi).1) ⟨AVle.refl _, trivial⟩ fun nx => ?_
          have hsx := wrong_spec (l.getD i ins0) (hok.get hi) (l.length - 1 - i)
          generalize hx : (kof (l.getD i ins0).code).2 = x at hsx ⊢
          cases x
          all_goals
            (repeat((conv=>whnf);first|apply ω0|apply ω1|apply ω2|refine τ3 rfl ?_|refine τ4 rfl ?_|refine ⟨rfl,?_⟩|apply τa|refine τb rfl ?_|refine ⟨⟨by kernel_rfl,by kernel_rfl⟩,?_⟩|refine ⟨by decide,?_⟩|apply τt|apply τf))
            have hw : IntKind.i64.wrap (IntKind.i64.wrap ((l.length : Int) - 1) - (i : Int)) = ((l.length - 1 - i : Nat) : Int) := by
              rw [wrap_id (n := (l.length : Int) - 1) (by omega) (by omega), wrap_id (by omega) (by omega)]; omega
            refine aop_tells rfl rfl hsx ⟨AVle.of_eq ?_, trivial⟩ fun nx => ?_
            · unfold looked; rw [← hw]; rfl
            (repeat((conv=>whnf);first|apply ω0|apply ω1|apply ω2|refine τ3 rfl ?_|refine τ4 rfl ?_|refine ⟨rfl,?_⟩|apply τa|refine τb rfl ?_|refine ⟨⟨by kernel_rfl,by kernel_rfl⟩,?_⟩|refine ⟨by decide,?_⟩|apply τt|apply τf))
            intro c g4; cases c
            · have h6 := bne_no g4
              (repeat((conv=>whnf);first|apply ω0|apply ω1|apply ω2|refine τ3 rfl ?_|refine τ4 rfl ?_|refine ⟨rfl,?_⟩|apply τa|refine τb rfl ?_|refine ⟨⟨by kernel_rfl,by kernel_rfl⟩,?_⟩|refine ⟨by decide,?_⟩|apply τt|apply τf))
              refine back (i + 1, _) ⟨by dsimp only; omega, fun j hj => ?_⟩ (by dsimp only; omega) (ele_keep rfl rfl (.cons _ .slnil) .slnil ⟨AVle.refl _, AVle.refl _, AVle.refl _, le_int (wrap_succ (by dsimp only; omega)), trivial⟩)
              dsimp only at hj
              rcases Nat.lt_or_ge j i with h | h
              · exact h4 j h
              · obtain rfl : j = i := by omega
                omega
            · have h6 := bne_yes g4
              (repeat((conv=>whnf);first|apply ω0|apply ω1|apply ω2|refine τ3 rfl ?_|refine τ4 rfl ?_|refine ⟨rfl,?_⟩|apply τa|refine τb rfl ?_|refine ⟨⟨by kernel_rfl,by kernel_rfl⟩,?_⟩|refine ⟨by decide,?_⟩|apply τt|apply τf))
              refine ret_tells rfl (AVle.of_eq ?_)
              have : formedI l = (i, wrongI (l.getD i ins0) (l.length - 1 - i)) := by
                unfold formedI
                rw [if_neg (by omega), if_neg (by omega), find_range_some hi (by simp only [bne_iff_ne]; omega) (fun j hj => by simpa using h4 j hj)]
              rw [this]; rfl
    · have h2 := yes_of g2
      (repeat((conv=>whnf);first|apply ω0|apply ω1|apply ω2|refine τ3 rfl ?_|refine τ4 rfl ?_|refine ⟨rfl,?_⟩|apply τa|refine τb rfl ?_|refine ⟨⟨by kernel_rfl,by kernel_rfl⟩,?_⟩|refine ⟨by decide,?_⟩|apply τt|apply τf))
      refine ret_tells rfl (AVle.of_eq ?_)
      have : formedI l = (0, 3) := by
        unfold formedI
        rw [if_neg (by omega), if_pos (by omega)]
      rw [this]; rfl
  · have h1 := yes_of g1
    (repeat((conv=>whnf);first|apply ω0|apply ω1|apply ω2|refine τ3 rfl ?_|refine τ4 rfl ?_|refine ⟨rfl,?_⟩|apply τa|refine τb rfl ?_|refine ⟨⟨by kernel_rfl,by kernel_rfl⟩,?_⟩|refine ⟨by decide,?_⟩|apply τt|apply τf))
    refine ret_tells rfl (AVle.of_eq ?_)
    have : formedI l = (0, 4) := by
      unfold formedI
      rw [if_pos (by omega)]
    rw [this]; rfl
end Go.Proofs.W

namespace Go.Proofs.W

def kind (l : List Ins) (n : Nat) : Nat := (kof (l.getD n ins0).code).1
structure Formed (l : List Ins) : Prop where
  pos : 0 < l.length
  le : l.length ≤ 4096
  ok : ∀ n, n < l.length → wrongI (l.getD n ins0) (l.length - 1 - n) = 0
  last : kind l (l.length - 1) = 14 ∨ kind l (l.length - 1) = 15
theorem formed_of {l : List Ins} (h : (formedI l).2 = 0) : Formed l := by
  unfold formedI at h
  split at h
  · cases h
  split at h
  · cases h
  split at h
  · rename_i n hn
    have := List.find?_some hn
    dsimp only at h this
    simp only [bne_iff_ne] at this
    exact absurd h this
  · rename_i hn
    split at h
    · rename_i hk
      refine ⟨by omega, by omega, fun n h1 => ?_, hk⟩
      rw [List.find?_range_eq_none] at hn
      simpa using hn n h1
    · cases h
theorem formed_fail {l : List Ins} (h : (formedI l).2 ≠ 0) : ¬ Formed l := fun hf => h (by
  unfold formedI
  rw [if_neg (by have := hf.pos; omega), if_neg (by have := hf.le; omega), List.find?_range_eq_none.2 (fun i hi => by simpa using hf.ok i hi)]
  dsimp only
  have := hf.last
  unfold kind at this
  rw [if_pos this])
def nextsI (l : List Ins) (n : Nat) : List Nat :=
  if kind l n = 14 ∨ kind l n = 15 then [] else if kind l n = 13 then [n + 1 + (l.getD n ins0).k] else if 25 ≤ kind l n then [n + 1 + (l.getD n ins0).jt, n + 1 + (l.getD n ins0).jf] else [n + 1]
theorem wrong_parts {i : Ins} {r : Nat} (h : wrongI i r = 0) : (kof i.code).1 ≠ 0 ∧ ¬ ((kof i.code).1 = 1 ∧ (i.k % 4 ≠ 0 ∨ 64 ≤ i.k)) ∧ ¬ (((kof i.code).1 = 3 ∨ (kof i.code).1 = 6 ∨ (kof i.code).1 = 8 ∨ (kof i.code).1 = 9) ∧ 16 ≤ i.k) ∧
    ¬ (((kof i.code).1 = 13 ∧ r ≤ i.k) ∨ (25 ≤ (kof i.code).1 ∧ (r ≤ i.jt ∨ r ≤ i.jf))) := by
  unfold wrongI at h
  generalize kof i.code = kk at *
  obtain ⟨k, x⟩ := kk
  dsimp only at h ⊢
  split at h
  · cases h
  split at h
  · cases h
  split at h
  · cases h
  split at h
  · cases h
  split at h
  · cases h
  split at h
  · cases h
  exact ⟨by assumption, by assumption, by assumption, by assumption⟩
theorem nexts_lt {l : List Ins} (hf : Formed l) {n : Nat} (hn : n < l.length) : ∀ t ∈ nextsI l n, n < t ∧ t < l.length := by
  have hw := wrong_parts (hf.ok n hn)
  have hl : n = l.length - 1 → kind l n = 14 ∨ kind l n = 15 := fun h => h ▸ hf.last
  have hk : (kof (l.getD n ins0).code).1 = kind l n := rfl
  rw [hk] at hw
  intro t ht
  unfold nextsI at ht
  split at ht
  · simp at ht
  split at ht
  · simp only [List.mem_singleton] at ht; omega
  split at ht
  · simp only [List.mem_cons, List.not_mem_nil, or_false] at ht; omega
  · simp only [List.mem_singleton] at ht; omega
def isStore (k : Nat) : Prop := k = 8 ∨ k = 9
instance (k : Nat) : Decidable (isStore k) := inferInstanceAs (Decidable (_ ∨ _))
def nowI (i : Ins) (a : Nat) : Nat := if isStore (kof i.code).1 then a ||| 2 ^ i.k else a
def goI (now : Nat) (l : List Nat) (to : Nat) : List Nat := l.set to (l.getD to 0 &&& now)
def stepS (l : List Ins) (a : List Nat) (n : Nat) : List Nat := (nextsI l n).foldl (goI (nowI (l.getD n ins0) (a.getD n 0))) a
def initS (n : Nat) : List Nat := (List.replicate n 65535 ++ List.replicate (4096 - n) 0).set 0 0
def atI (l : List Ins) (n : Nat) : List Nat := (List.range n).foldl (stepS l) (initS l.length)
def storedI (l : List Ins) : List Nat := (atI l l.length).take l.length
theorem atI_zero (l : List Ins) : atI l 0 = initS l.length := rfl
theorem atI_succ (l : List Ins) (n : Nat) : atI l (n + 1) = stepS l (atI l n) n := by simp [atI, List.range_succ]
theorem goI_length (now to : Nat) (l : List Nat) : (goI now l to).length = l.length := by simp [goI]
theorem foldgo_length (now : Nat) : ∀ (ts : List Nat) (l : List Nat), (ts.foldl (goI now) l).length = l.length
  | [], _ => rfl
  | t :: ts, l => by rw [List.foldl_cons, foldgo_length now ts, goI_length]
theorem initS_length {n : Nat} (h : n ≤ 4096) : (initS n).length = 4096 := by simp [initS]; omega
theorem atI_length {l : List Ins} (hf : l.length ≤ 4096) (n : Nat) : (atI l n).length = 4096 := by
  induction n with
  | zero => exact initS_length hf
  | succ n ih => rw [atI_succ, stepS, foldgo_length, ih]
theorem goI_get (now to : Nat) (l : List Nat) (k : Nat) : (goI now l to).getD k 0 = if to = k ∧ to < l.length then l.getD to 0 &&& now else l.getD k 0 := by
  simp only [goI, List.getD, List.getElem?_set]
  by_cases h1 : to = k
  · subst h1
    by_cases h2 : to < l.length
    · simp [h2]
    · simp [h2, List.getElem?_eq_none (Nat.le_of_not_lt h2)]
  · simp [h1]
def small (l : List Nat) : Prop := ∀ k, l.getD k 0 < 65536
theorem goI_small {now to : Nat} {l : List Nat} (h : small l) : small (goI now l to) := by
  intro k
  rw [goI_get]
  split
  · exact Nat.lt_of_le_of_lt Nat.and_le_left (h to)
  · exact h k
theorem foldgo_small {now : Nat} : ∀ {ts : List Nat} {l : List Nat}, small l → small (ts.foldl (goI now) l)
  | [], _, h => h
  | t :: ts, l, h => by rw [List.foldl_cons]; exact foldgo_small (goI_small h)
theorem initS_get {n k : Nat} (h : n ≤ 4096) : (initS n).getD k 0 = if 0 < k ∧ k < n then 65535 else 0 := by
  simp only [initS, List.getD, List.getElem?_set]
  by_cases h1 : 0 = k
  · subst h1; simp; split <;> simp
  · rw [if_neg h1]
    by_cases h2 : k < n
    · rw [List.getElem?_append_left (by simpa using h2)]
      simp [h2]; omega
    · rw [List.getElem?_append_right (by simpa using h2)]
      rw [if_neg (by omega)]
      simp [List.getElem?_replicate]
      split <;> simp
theorem initS_small {n : Nat} (h : n ≤ 4096) : small (initS n) := by
  intro k; rw [initS_get h]; split <;> omega
theorem atI_small {l : List Ins} (hf : l.length ≤ 4096) (n : Nat) : small (atI l n) := by
  induction n with
  | zero => exact initS_small hf
  | succ n ih => rw [atI_succ]; exact foldgo_small ih
theorem now_small {i : Ins} {a r : Nat} (ha : a < 65536) (hw : wrongI i r = 0) : nowI i a < 65536 := by
  unfold nowI
  split
  · rename_i h
    have h2 := (wrong_parts hw).2.2.1
    unfold isStore at h
    have h3 : i.k < 16 := by omega
    exact Nat.or_lt_two_pow (n := 16) ha (Nat.pow_lt_pow_right (by decide) h3)
  · exact ha
/-- Cells stored: the given text's check. -/
def checkI (l : List Ins) : Nat × Nat :=
  if (formedI l).2 ≠ 0 then formedI l
  else match (List.range l.length).find? (fun n => decide ((kind l n = 3 ∨ kind l n = 6) ∧ (storedI l).getD n 0 / 2 ^ (l.getD n ins0).k % 2 = 0)) with
    | some n => (n, 12)
    | none => (0, 0)
end Go.Proofs.W

namespace Go.Proofs.W
open Go.Vl
set_option maxRecDepth 100000

def uA (n : Nat) : AV := u16 n
theorem u49 : Tryz.prog.underlying 41 = some (.int .u16) := by kernel_rfl
theorem b49 : Tryz.prog.bytesOf 41 = 2 := by kernel_rfl
theorem c49 : Tryz.prog.cellsOf 41 = 1 := by kernel_rfl
theorem goes_spec (s0 s1 s2 nx nn : Nat) (i : Ins) (now to : Nat) (a : List Nat) (ht : to < a.length) (hl : a.length = 4096) (ha : small a) (hn : now < 65536) :
    ECall Tryz.prog 64 [int to, .bp (0, s0) 0, .bp (2, s2) 0] ⟨[((2, s2), .c [u16 now]), ((1, s1), .c (insA i).cells), ((0, s0), .c (a.map uA))], [], nx, nn⟩ fun _ h' =>
      ∃ k, h' = ⟨[((2, s2), .c [u16 now]), ((1, s1), .c (insA i).cells), ((0, s0), .c ((goI now a to).map uA))], [], nx, k⟩ := by
  refine ecall_of_aw Tryz.func64 rfl rfl ?_
  (repeat((conv=>whnf);first|apply ω0|apply ω1|apply ω2|refine τ3 rfl ?_|refine τ4 rfl ?_|refine ⟨rfl,?_⟩|apply τa|refine τb rfl ?_|refine ⟨⟨by kernel_rfl,by kernel_rfl⟩,?_⟩|refine ⟨by decide,?_⟩|apply τt|apply τf))
  (refine aw_draw 6 ?_ ?_ ?_ ?_; (· kernel_rfl); (· kernel_rfl); (· kernel_rfl))
  (conv => whnf)
  refine ⟨⟨by omega, by omega⟩, ?_⟩
  have he : (0 + (Int.toNat (to : Int)) * Tryz.prog.cellsOf 41) = to := by rw [c49]; omega
  refine splitO_eq (b := .bp (0, s0) to) (congrArg (AV.bp (0, s0)) he) ?_
  (repeat((conv=>whnf);first|apply ω0|apply ω1|apply ω2|refine τ3 rfl ?_|refine τ4 rfl ?_|refine ⟨rfl,?_⟩|apply τa|refine τb rfl ?_|refine ⟨⟨by kernel_rfl,by kernel_rfl⟩,?_⟩|refine ⟨by decide,?_⟩|apply τt|apply τf))
  (conv => whnf)
  refine ⟨⟨rfl, by simpa using ht⟩, splitO_eq (b := u16 (a.getD to 0)) (getD_map ht) ?_⟩
  (repeat((conv=>whnf);first|apply ω0|apply ω1|apply ω2|refine τ3 rfl ?_|refine τ4 rfl ?_|refine ⟨rfl,?_⟩|apply τa|refine τb rfl ?_|refine ⟨⟨by kernel_rfl,by kernel_rfl⟩,?_⟩|refine ⟨by decide,?_⟩|apply τt|apply τf))
  (conv => whnf)
  refine ⟨⟨by omega, by omega⟩, splitO_eq (b := .bp (0, s0) to) (congrArg (AV.bp (0, s0)) he) ?_⟩
  (repeat((conv=>whnf);first|apply ω0|apply ω1|apply ω2|refine τ3 rfl ?_|refine τ4 rfl ?_|refine ⟨rfl,?_⟩|apply τa|refine τb rfl ?_|refine ⟨⟨by kernel_rfl,by kernel_rfl⟩,?_⟩|refine ⟨by decide,?_⟩|apply τt|apply τf))
  have hb : bitsI .and .u16 (a.getD to 0 : Nat) now = ((a.getD to 0 &&& now : Nat) : Int) := nu16_and (ha to) hn
  have hsp : splice (a.map uA) to [AV.v (.int .u16 (bitsI .and .u16 (a.getD to 0 : Nat) now))] = (goI now a to).map uA := by rw [hb]; exact splice_one ht
  (conv => whnf)
  refine ⟨⟨rfl, by simp; omega⟩, ?_⟩
  rw [hsp]
  (repeat((conv=>whnf);first|apply ω0|apply ω1|apply ω2|refine τ3 rfl ?_|refine τ4 rfl ?_|refine ⟨rfl,?_⟩|apply τa|refine τb rfl ?_|refine ⟨⟨by kernel_rfl,by kernel_rfl⟩,?_⟩|refine ⟨by decide,?_⟩|apply τt|apply τf))
  exact ret_is rfl ⟨_, rfl⟩
theorem OwnLe.of_eq {a b : Own} (h : a = b) : OwnLe a b := h ▸ OwnLe.refl a
theorem sl_cat0 {n m : Nat} {f g g' : Nat → AV} {oi : Option Vl.Id} (h : m = n) (hg : ∀ k, k < n → g k = g' k) : AVle (.os 1 (0 + n) (appF 0 f g) oi) (.sl 1 m g') := by
  subst h
  rw [Nat.zero_add]
  exact AVle.os_sl.trans (AVle.sl_fun fun k hk => by rw [← hg k hk]; rfl)
theorem z151 : zcells Tryz.prog 109 = some (List.replicate 4096 (u16 0)) := by kernel_rfl
def foundS (l : List Ins) : AV := u16s (if (formedI l).2 = 0 then storedI l else [])
theorem stored_spec (l : List Ins) (hok : okL l) (hl : l.length ≤ 1000000000) : Tells Tryz.prog 40 [inss l] (foundS l) := by
  refine tells_of_aw Tryz.func40 rfl rfl fun nx => ?_
  (repeat((conv=>whnf);first|apply ω0|apply ω1|apply ω2|refine τ3 rfl ?_|refine τ4 rfl ?_|refine ⟨rfl,?_⟩|apply τa|refine τb rfl ?_|refine ⟨⟨by kernel_rfl,by kernel_rfl⟩,?_⟩|refine ⟨by decide,?_⟩|apply τt|apply τf))
  refine aop_tells rfl rfl (formed_spec l hok hl) ⟨AVle.refl _, trivial⟩ fun nx => ?_
  (repeat((conv=>whnf);first|apply ω0|apply ω1|apply ω2|refine τ3 rfl ?_|refine τ4 rfl ?_|refine ⟨rfl,?_⟩|apply τa|refine τb rfl ?_|refine ⟨⟨by kernel_rfl,by kernel_rfl⟩,?_⟩|refine ⟨by decide,?_⟩|apply τt|apply τf))
  intro c g1; cases c
  · have g1 := bne_no g1
    have hf : Formed l := formed_of (by omega)
    have hpos := hf.pos
    have hle := hf.le
    (repeat((conv=>whnf);first|apply ω0|apply ω2|refine τ3 rfl ?_|refine τ4 rfl ?_|refine ⟨rfl,?_⟩|apply τa|refine τb rfl ?_|refine ⟨⟨by kernel_rfl,by kernel_rfl⟩,?_⟩|refine ⟨by decide,?_⟩|apply τt|apply τf))
    refine aw_region ?_
    refine aK_alloc rfl rfl z151 ?_
    (repeat((conv=>whnf);first|apply ω0|apply ω1|apply ω2|refine τ3 rfl ?_|refine τ4 rfl ?_|refine ⟨rfl,?_⟩|apply τa|refine τb rfl ?_|refine ⟨⟨by kernel_rfl,by kernel_rfl⟩,?_⟩|refine ⟨by decide,?_⟩|apply τt|apply τf))
    refine aw_loop (fun i : Nat => mk 105 [(0, inss l), (5, .bp (0, nx) 0), (22, int l.length), (23, int i)] ⟨[((0, nx), .c ((List.replicate i 65535 ++ List.replicate (4096 - i) 0).map uA))], [], nx + 1, 1⟩) (fun i => i ≤ l.length) (fun i => l.length - i) ?_ ?_
    · exact ⟨0, by omega, ele_tell _ _ rfl rfl (List.Sublist.refl _) .slnil ⟨rfl, OwnLe.of_eq (by simp [uA]), trivial⟩ trivial ⟨AVle.refl _, AVle.refl _, AVle.refl _, AVle.refl _, trivial⟩⟩
    · rintro i h1
      (repeat((conv=>whnf);first|apply ω0|apply ω1|apply ω2|refine τ3 rfl ?_|refine τ4 rfl ?_|refine ⟨rfl,?_⟩|apply τa|refine τb rfl ?_|refine ⟨⟨by kernel_rfl,by kernel_rfl⟩,?_⟩|refine ⟨by decide,?_⟩|apply τt|apply τf))
      intro c g2; cases c
      · have h2 := not_of g2
        obtain rfl : i = l.length := by omega
        have he : (0 + (Int.toNat 0) * Tryz.prog.cellsOf 41) = 0 := by rw [c49]; rfl
        (repeat((conv=>whnf);first|apply ω0|apply ω1|apply ω2|refine τ3 rfl ?_|refine τ4 rfl ?_|refine ⟨rfl,?_⟩|apply τa|refine τb rfl ?_|refine ⟨⟨by kernel_rfl,by kernel_rfl⟩,?_⟩|refine ⟨by decide,?_⟩|apply τt|apply τf))
        refine splitO_eq (b := .bp (0, nx) 0) (congrArg (AV.bp (0, nx)) he) ?_
        have hsp : splice ((List.replicate l.length 65535 ++ List.replicate (4096 - l.length) 0).map uA) 0 [AV.v (.int .u16 0)] = (atI l 0).map uA := splice_one (f := uA) (x := 0) (by simp; omega)
        (conv => whnf)
        refine ⟨⟨rfl, by simp; omega⟩, ?_⟩
        rw [hsp]
        (repeat((conv=>whnf);first|apply ω0|apply ω1|apply ω2|refine τ3 rfl ?_|refine τ4 rfl ?_|refine ⟨rfl,?_⟩|apply τa|refine τb rfl ?_|refine ⟨⟨by kernel_rfl,by kernel_rfl⟩,?_⟩|refine ⟨by decide,?_⟩|apply τt|apply τf))
        refine aw_loop (fun s : Nat × Nat => mk 105 [(0, inss l), (5, .bp (0, nx) 0), (30, inss l), (31, int l.length), (32, int s.1)] ⟨[((0, nx), .c ((atI l s.1).map uA))], [], s.2, 1⟩) (fun s => s.1 ≤ l.length) (fun s => l.length - s.1) ?_ ?_
        · exact ⟨(0, _), by dsimp only; omega, ele_tell _ _ rfl rfl (List.Sublist.refl _) .slnil ⟨rfl, OwnLe.refl _, trivial⟩ trivial ⟨AVle.refl _, AVle.refl _, AVle.refl _, AVle.refl _, AVle.refl _, trivial⟩⟩
        · rintro ⟨i, nx'⟩ h3
          dsimp only at h3
          have hlen := atI_length hle i
          have hsm := atI_small hle i
          (repeat((conv=>whnf);first|apply ω0|apply ω1|apply ω2|refine τ3 rfl ?_|refine τ4 rfl ?_|refine ⟨rfl,?_⟩|apply τa|refine τb rfl ?_|refine ⟨⟨by kernel_rfl,by kernel_rfl⟩,?_⟩|refine ⟨by decide,?_⟩|apply τt|apply τf))
          intro c g3; cases c
          · have h4 := not_of g3
            dsimp only at h4
            obtain rfl : i = l.length := by omega
            (repeat((conv=>whnf);first|apply ω0|apply ω2|refine τ3 rfl ?_|refine τ4 rfl ?_|refine ⟨rfl,?_⟩|apply τa|refine τb rfl ?_|refine ⟨⟨by kernel_rfl,by kernel_rfl⟩,?_⟩|refine ⟨by decide,?_⟩|apply τt|apply τf))
            refine AW.le (ele_freeze (L := [(0, inss l), (5, .rp ((atI l l.length).map uA))]) (bx := []) (pm := []) (nn := 1) [((0, nx), .c ((atI l l.length).map uA))] rfl rfl (List.Sublist.refl _) .slnil ⟨.refl _, .bp (.head _) rfl, trivial⟩) ?_
            (repeat((conv=>whnf);first|apply ω0|apply ω1|apply ω2|refine τ3 rfl ?_|refine τ4 rfl ?_|refine ⟨rfl,?_⟩|apply τa|refine τb rfl ?_|refine ⟨⟨by kernel_rfl,by kernel_rfl⟩,?_⟩|refine ⟨by decide,?_⟩|apply τt|apply τf))
            (conv => whnf)
            refine ⟨⟨⟨by rw [c49, List.length_map]; omega, oneOk_map u49 rfl c49 fun _ => rfl⟩, by omega, by omega⟩, splitO_eq (b := .sl 1 l.length fun k => ((atI l l.length).map uA).getD k .any) (by rw [c49, aelem_one u49 rfl]; rfl) ?_⟩
            obtain ⟨m, hm⟩ : ∃ m, l.length = m + 1 := ⟨l.length - 1, by omega⟩
            have hst : storedI l = (atI l l.length).take l.length := rfl
            (repeat((conv=>whnf);first|apply ω0|apply ω1|apply ω2|refine τ3 rfl ?_|refine τ4 rfl ?_|refine ⟨rfl,?_⟩|apply τa|refine τb rfl ?_|refine ⟨⟨by kernel_rfl,by kernel_rfl⟩,?_⟩|refine ⟨by decide,?_⟩|apply τt|apply τf))
            (conv => whnf)
            rw [hm]
            (repeat((conv=>whnf);first|apply ω0|apply ω1|apply ω2|refine τ3 rfl ?_|refine τ4 rfl ?_|refine ⟨rfl,?_⟩|apply τa|refine τb rfl ?_|refine ⟨⟨by kernel_rfl,by kernel_rfl⟩,?_⟩|refine ⟨by decide,?_⟩|apply τt|apply τf))
            (conv => whnf)
            have hone : oneRow (m + 1) fun k => ((atI l (m + 1)).map uA).getD k .any := fun k hk => by
              dsimp only; rw [getD_map (d := 0) (by rw [hm] at hlen; omega)]; rfl
            refine ⟨hone, by rw [b49]; omega, by omega, ?_⟩
            (repeat((conv=>whnf);first|apply ω0|apply ω1|apply ω2|refine τ3 rfl ?_|refine τ4 rfl ?_|refine ⟨rfl,?_⟩|apply τa|refine τb rfl ?_|refine ⟨⟨by kernel_rfl,by kernel_rfl⟩,?_⟩|refine ⟨by decide,?_⟩|apply τt|apply τf))
            refine ret_tells rfl ?_
            unfold foundS
            rw [if_pos (by omega)]
            have hsl : (storedI l).length = m + 1 := by rw [hst, List.length_take, hlen]; omega
            refine sl_cat0 hsl fun k hk => ?_
            dsimp only
            have hkm : (atI l l.length).getD k 0 = (storedI l).getD k 0 := by
              rw [hst]; simp only [List.getD, List.getElem?_take]; rw [if_pos (by omega)]
            rw [← hkm, hm, getD_map (d := 0) (by rw [hm] at hlen; omega)]; rfl
          · have h4 := yes_of g3
            dsimp only at h4
            have hi : i < l.length := by omega
            have hit : (0 + (Int.toNat (i : Int)) * Tryz.prog.cellsOf 41) = i := by rw [c49]; omega
            have hki : (l.getD i ins0).ok := hok.get hi
            have hwr := hf.ok i hi
            have hpt := wrong_parts hwr
            have hnx := nexts_lt hf hi
            have hnow := now_small (hsm i) hwr
            have hstep := atI_succ l i
            (repeat((conv=>whnf);first|apply ω0|apply ω1|apply ω2|refine τ3 rfl ?_|refine τ4 rfl ?_|refine ⟨rfl,?_⟩|apply τa|refine τb rfl ?_|refine ⟨⟨by kernel_rfl,by kernel_rfl⟩,?_⟩|refine ⟨by decide,?_⟩|apply τt|apply τf))
            refine ⟨⟨by dsimp only; omega, by dsimp only; omega⟩, ?_⟩
            (repeat((conv=>whnf);first|apply ω0|apply ω1|apply ω2|refine τ3 rfl ?_|refine τ4 rfl ?_|refine ⟨rfl,?_⟩|apply τa|refine τb rfl ?_|refine ⟨⟨by kernel_rfl,by kernel_rfl⟩,?_⟩|refine ⟨by decide,?_⟩|apply τt|apply τf))
            refine aop_tells rfl rfl (of_kind (l.getD i ins0).code hki.1) ⟨AVle.refl _, trivial⟩ fun nx3 => ?_
            (repeat((conv=>whnf);first|apply ω0|apply ω1|apply ω2|refine τ3 rfl ?_|refine τ4 rfl ?_|refine ⟨rfl,?_⟩|apply τa|refine τb rfl ?_|refine ⟨⟨by kernel_rfl,by kernel_rfl⟩,?_⟩|refine ⟨by decide,?_⟩|apply τt|apply τf))
            refine ⟨⟨by dsimp only; omega, by dsimp only; omega⟩, splitO_eq (b := .bp (0, _) i) (congrArg (AV.bp (0, _)) hit) ?_⟩
            (conv => whnf)
            refine ⟨⟨rfl, by simp; omega⟩, splitO_eq (b := u16 ((atI l i).getD i 0 : Nat)) (getD_map (by dsimp only; omega)) ?_⟩
            (repeat((conv=>whnf);first|apply ω0|apply ω1|apply ω2|refine τ3 rfl ?_|refine τ4 rfl ?_|refine ⟨rfl,?_⟩|apply τa|refine τb rfl ?_|refine ⟨⟨by kernel_rfl,by kernel_rfl⟩,?_⟩|refine ⟨by decide,?_⟩|apply τt|apply τf))
            intro c a1; cases c
            · have a1 := not_of a1
              (repeat((conv=>whnf);first|apply ω0|apply ω1|apply ω2|refine τ3 rfl ?_|refine τ4 rfl ?_|refine ⟨rfl,?_⟩|apply τa|refine τb rfl ?_|refine ⟨⟨by kernel_rfl,by kernel_rfl⟩,?_⟩|refine ⟨by decide,?_⟩|apply τt|apply τf))
              intro c a2; cases c
              · have a2 := not_of a2
                have hnowd : nowI (l.getD i ins0) ((atI l i).getD i 0) = (atI l i).getD i 0 := if_neg (by unfold isStore; omega)
                generalize hnn : (atI l i).getD i 0 = now at hnowd ⊢
                rw [hnn, hnowd] at hnow
                (repeat((conv=>whnf);first|apply ω0|apply ω1|apply ω2|refine τ3 rfl ?_|refine τ4 rfl ?_|refine ⟨rfl,?_⟩|apply τa|refine τb rfl ?_|refine ⟨⟨by kernel_rfl,by kernel_rfl⟩,?_⟩|refine ⟨by decide,?_⟩|apply τt|apply τf))
                intro c b1; cases c
                · have b1 := not_of b1
                  (repeat((conv=>whnf);first|apply ω0|apply ω1|apply ω2|refine τ3 rfl ?_|refine τ4 rfl ?_|refine ⟨rfl,?_⟩|apply τa|refine τb rfl ?_|refine ⟨⟨by kernel_rfl,by kernel_rfl⟩,?_⟩|refine ⟨by decide,?_⟩|apply τt|apply τf))
                  intro c b2; cases c
                  · have b2 := not_of b2
                    (repeat((conv=>whnf);first|apply ω0|apply ω1|apply ω2|refine τ3 rfl ?_|refine τ4 rfl ?_|refine ⟨rfl,?_⟩|apply τa|refine τb rfl ?_|refine ⟨⟨by kernel_rfl,by kernel_rfl⟩,?_⟩|refine ⟨by decide,?_⟩|apply τt|apply τf))
                    intro c b3; cases c
                    · have b3 := not_of b3
                      (repeat((conv=>whnf);first|apply ω0|apply ω1|apply ω2|refine τ3 rfl ?_|refine τ4 rfl ?_|refine ⟨rfl,?_⟩|apply τa|refine τb rfl ?_|refine ⟨⟨by kernel_rfl,by kernel_rfl⟩,?_⟩|refine ⟨by decide,?_⟩|apply τt|apply τf))
                      intro c b4; cases c
                      · have b4 := not_of b4
                        have hnxt : nextsI l i = [i + 1] := by unfold nextsI kind; rw [if_neg (by omega), if_neg (by omega), if_neg (by omega)]
                        (repeat((conv=>whnf);first|apply ω0|apply ω1|apply ω2|refine τ3 rfl ?_|refine τ4 rfl ?_|refine ⟨rfl,?_⟩|apply τa|refine τb rfl ?_|refine ⟨⟨by kernel_rfl,by kernel_rfl⟩,?_⟩|refine ⟨by decide,?_⟩|apply τt|apply τf))
                        refine aop_call rfl rfl (ECall.args (bs := [int (i + 1 : Nat), .bp (0, _) 0, .bp (2, _) 0]) ⟨le_int (wrap_succ (by dsimp only; omega)), AVle.refl _, AVle.refl _, trivial⟩
                          (goes_spec nx nx' nx3 _ _ (l.getD i ins0) now (i + 1) (atI l i) (by have := (hnx (i + 1) (by rw [hnxt]; simp)).2; omega) (by first | omega | (simp only [goI_length]; omega)) (hsm) hnow)) fun r h' hq => ?_
                        obtain ⟨kk, rfl⟩ := hq
                        refine Named.same ?_
                        (repeat((conv=>whnf);first|apply ω0|apply ω1|apply ω2|refine τ3 rfl ?_|refine τ4 rfl ?_|refine ⟨rfl,?_⟩|apply τa|refine τb rfl ?_|refine ⟨⟨by kernel_rfl,by kernel_rfl⟩,?_⟩|refine ⟨by decide,?_⟩|apply τt|apply τf))
                        refine back (i + 1, _) (by dsimp only; omega) (by dsimp only; omega) (ele_tell [((0, _), .c ((goI now (atI l i) (i + 1)).map uA))] [] rfl rfl (.cons _ (.cons _ (.cons_cons _ .slnil))) .slnil ⟨rfl, OwnLe.of_eq ?_, trivial⟩ trivial ⟨AVle.refl _, AVle.refl _, AVle.refl _, AVle.refl _, le_int (wrap_succ (by dsimp only; omega)), trivial⟩)
                        dsimp only
                        rw [hstep]; unfold stepS; rw [hnxt]; (try rw [hnn]); rw [hnowd]; rfl
                      · have b4 := yes_of b4
                        have hnxt : nextsI l i = [i + 1 + (l.getD i ins0).jt, i + 1 + (l.getD i ins0).jf] := by unfold nextsI kind; rw [if_neg (by omega), if_neg (by omega), if_pos (by omega)]
                        (repeat((conv=>whnf);first|apply ω0|apply ω1|apply ω2|refine τ3 rfl ?_|refine τ4 rfl ?_|refine ⟨rfl,?_⟩|apply τa|refine τb rfl ?_|refine ⟨⟨by kernel_rfl,by kernel_rfl⟩,?_⟩|refine ⟨by decide,?_⟩|apply τt|apply τf))
                        refine aop_call rfl rfl (ECall.args (bs := [int (i + 1 + (l.getD i ins0).jt : Nat), .bp (0, _) 0, .bp (2, _) 0]) ⟨le_int (by show IntKind.i64.wrap (IntKind.i64.wrap ((i : Int) + 1) + IntKind.i64.wrap (((l.getD i ins0).jt : Nat) : Int)) = _; rw [show IntKind.i64.wrap (((l.getD i ins0).jt : Nat) : Int) = ((l.getD i ins0).jt : Nat) from wrap_id (by omega) (by omega), show IntKind.i64.wrap ((i : Int) + 1) = (i : Int) + 1 from wrap_id (by omega) (by omega), wrap_id (by omega) (by omega)]; omega), AVle.refl _, AVle.refl _, trivial⟩
                          (goes_spec nx nx' nx3 _ _ (l.getD i ins0) now (i + 1 + (l.getD i ins0).jt) (atI l i) (by have := (hnx (i + 1 + (l.getD i ins0).jt) (by rw [hnxt]; simp)).2; omega) (by first | omega | (simp only [goI_length]; omega)) (hsm) hnow)) fun r h' hq => ?_
                        obtain ⟨kk, rfl⟩ := hq
                        refine Named.same ?_
                        (repeat((conv=>whnf);first|apply ω0|apply ω1|apply ω2|refine τ3 rfl ?_|refine τ4 rfl ?_|refine ⟨rfl,?_⟩|apply τa|refine τb rfl ?_|refine ⟨⟨by kernel_rfl,by kernel_rfl⟩,?_⟩|refine ⟨by decide,?_⟩|apply τt|apply τf))
                        refine aop_call rfl rfl (ECall.args (bs := [int (i + 1 + (l.getD i ins0).jf : Nat), .bp (0, _) 0, .bp (2, _) 0]) ⟨le_int (by show IntKind.i64.wrap (IntKind.i64.wrap ((i : Int) + 1) + IntKind.i64.wrap (((l.getD i ins0).jf : Nat) : Int)) = _; rw [show IntKind.i64.wrap (((l.getD i ins0).jf : Nat) : Int) = ((l.getD i ins0).jf : Nat) from wrap_id (by omega) (by omega), show IntKind.i64.wrap ((i : Int) + 1) = (i : Int) + 1 from wrap_id (by omega) (by omega), wrap_id (by omega) (by omega)]; omega), AVle.refl _, AVle.refl _, trivial⟩
                          (goes_spec nx nx' nx3 _ _ (l.getD i ins0) now (i + 1 + (l.getD i ins0).jf) (goI now (atI l i) (i + 1 + (l.getD i ins0).jt)) (by have := (hnx (i + 1 + (l.getD i ins0).jf) (by rw [hnxt]; simp)).2; simp only [goI_length]; omega) (by first | omega | (simp only [goI_length]; omega)) (goI_small hsm) hnow)) fun r h' hq => ?_
                        obtain ⟨kk, rfl⟩ := hq
                        refine Named.same ?_
                        (repeat((conv=>whnf);first|apply ω0|apply ω1|apply ω2|refine τ3 rfl ?_|refine τ4 rfl ?_|refine ⟨rfl,?_⟩|apply τa|refine τb rfl ?_|refine ⟨⟨by kernel_rfl,by kernel_rfl⟩,?_⟩|refine ⟨by decide,?_⟩|apply τt|apply τf))
                        refine back (i + 1, _) (by dsimp only; omega) (by dsimp only; omega) (ele_tell [((0, _), .c ((goI now (goI now (atI l i) (i + 1 + (l.getD i ins0).jt)) (i + 1 + (l.getD i ins0).jf)).map uA))] [] rfl rfl (.cons _ (.cons _ (.cons_cons _ .slnil))) .slnil ⟨rfl, OwnLe.of_eq ?_, trivial⟩ trivial ⟨AVle.refl _, AVle.refl _, AVle.refl _, AVle.refl _, le_int (wrap_succ (by dsimp only; omega)), trivial⟩)
                        dsimp only
                        rw [hstep]; unfold stepS; rw [hnxt]; (try rw [hnn]); rw [hnowd]; rfl
                    · have b3 := yes_of b3
                      have hnxt : nextsI l i = [i + 1 + (l.getD i ins0).k] := by unfold nextsI kind; rw [if_neg (by omega), if_pos (by omega)]
                      (repeat((conv=>whnf);first|apply ω0|apply ω1|apply ω2|refine τ3 rfl ?_|refine τ4 rfl ?_|refine ⟨rfl,?_⟩|apply τa|refine τb rfl ?_|refine ⟨⟨by kernel_rfl,by kernel_rfl⟩,?_⟩|refine ⟨by decide,?_⟩|apply τt|apply τf))
                      refine aop_call rfl rfl (ECall.args (bs := [int (i + 1 + (l.getD i ins0).k : Nat), .bp (0, _) 0, .bp (2, _) 0]) ⟨le_int (by show IntKind.i64.wrap (IntKind.i64.wrap ((i : Int) + 1) + IntKind.i64.wrap (((l.getD i ins0).k : Nat) : Int)) = _; rw [show IntKind.i64.wrap (((l.getD i ins0).k : Nat) : Int) = ((l.getD i ins0).k : Nat) from wrap_id (by omega) (by omega), show IntKind.i64.wrap ((i : Int) + 1) = (i : Int) + 1 from wrap_id (by omega) (by omega), wrap_id (by omega) (by omega)]; omega), AVle.refl _, AVle.refl _, trivial⟩
                        (goes_spec nx nx' nx3 _ _ (l.getD i ins0) now (i + 1 + (l.getD i ins0).k) (atI l i) (by have := (hnx (i + 1 + (l.getD i ins0).k) (by rw [hnxt]; simp)).2; omega) (by first | omega | (simp only [goI_length]; omega)) (hsm) hnow)) fun r h' hq => ?_
                      obtain ⟨kk, rfl⟩ := hq
                      refine Named.same ?_
                      (repeat((conv=>whnf);first|apply ω0|apply ω1|apply ω2|refine τ3 rfl ?_|refine τ4 rfl ?_|refine ⟨rfl,?_⟩|apply τa|refine τb rfl ?_|refine ⟨⟨by kernel_rfl,by kernel_rfl⟩,?_⟩|refine ⟨by decide,?_⟩|apply τt|apply τf))
                      refine back (i + 1, _) (by dsimp only; omega) (by dsimp only; omega) (ele_tell [((0, _), .c ((goI now (atI l i) (i + 1 + (l.getD i ins0).k)).map uA))] [] rfl rfl (.cons _ (.cons _ (.cons_cons _ .slnil))) .slnil ⟨rfl, OwnLe.of_eq ?_, trivial⟩ trivial ⟨AVle.refl _, AVle.refl _, AVle.refl _, AVle.refl _, le_int (wrap_succ (by dsimp only; omega)), trivial⟩)
                      dsimp only
                      rw [hstep]; unfold stepS; rw [hnxt]; (try rw [hnn]); rw [hnowd]; rfl
                  · have b2 := yes_of b2
                    have hnxt : nextsI l i = [] := by unfold nextsI kind; rw [if_pos (by omega)]
                    (repeat((conv=>whnf);first|apply ω0|apply ω1|apply ω2|refine τ3 rfl ?_|refine τ4 rfl ?_|refine ⟨rfl,?_⟩|apply τa|refine τb rfl ?_|refine ⟨⟨by kernel_rfl,by kernel_rfl⟩,?_⟩|refine ⟨by decide,?_⟩|apply τt|apply τf))
                    refine back (i + 1, _) (by dsimp only; omega) (by dsimp only; omega) (ele_tell [((0, _), .c ((atI l i).map uA))] [] rfl rfl (.cons _ (.cons _ (.cons_cons _ .slnil))) .slnil ⟨rfl, OwnLe.of_eq ?_, trivial⟩ trivial ⟨AVle.refl _, AVle.refl _, AVle.refl _, AVle.refl _, le_int (wrap_succ (by dsimp only; omega)), trivial⟩)
                    dsimp only
                    rw [hstep]; unfold stepS; rw [hnxt]; (try rw [hnn]); rw [hnowd]; rfl
                · have b1 := yes_of b1
                  have hnxt : nextsI l i = [] := by unfold nextsI kind; rw [if_pos (by omega)]
                  (repeat((conv=>whnf);first|apply ω0|apply ω1|apply ω2|refine τ3 rfl ?_|refine τ4 rfl ?_|refine ⟨rfl,?_⟩|apply τa|refine τb rfl ?_|refine ⟨⟨by kernel_rfl,by kernel_rfl⟩,?_⟩|refine ⟨by decide,?_⟩|apply τt|apply τf))
                  refine back (i + 1, _) (by dsimp only; omega) (by dsimp only; omega) (ele_tell [((0, _), .c ((atI l i).map uA))] [] rfl rfl (.cons _ (.cons _ (.cons_cons _ .slnil))) .slnil ⟨rfl, OwnLe.of_eq ?_, trivial⟩ trivial ⟨AVle.refl _, AVle.refl _, AVle.refl _, AVle.refl _, le_int (wrap_succ (by dsimp only; omega)), trivial⟩)
                  dsimp only
                  rw [hstep]; unfold stepS; rw [hnxt]; (try rw [hnn]); rw [hnowd]; rfl
              · have a2 := yes_of a2
                have hnowd : nowI (l.getD i ins0) ((atI l i).getD i 0) = (atI l i).getD i 0 ||| 2 ^ (l.getD i ins0).k := if_pos (by unfold isStore; omega)
                have hk16 : (l.getD i ins0).k < 16 := by omega
                have hp16 : 2 ^ (l.getD i ins0).k < 65536 := Nat.pow_lt_pow_right (n := 16) (by decide) hk16
                have hsh : IntKind.u16.wrap (1 * 2 ^ (min (Int.toNat ((l.getD i ins0).k : Nat)) IntKind.u16.bits)) = ((2 ^ (l.getD i ins0).k : Nat) : Int) := by
                  have : min (Int.toNat ((l.getD i ins0).k : Nat)) IntKind.u16.bits = (l.getD i ins0).k := by show min _ 16 = _; omega
                  have h2 : ((1 : Int) * 2 ^ (l.getD i ins0).k) = ((2 ^ (l.getD i ins0).k : Nat) : Int) := by simp
                  rw [this, h2]
                  refine IntWalk.u16_in _ ?_
                  generalize 2 ^ (l.getD i ins0).k = q at hp16
                  omega
                have hor : bitsI .or .u16 ((atI l i).getD i 0 : Nat) ((2 ^ (l.getD i ins0).k : Nat) : Int) = (((atI l i).getD i 0 ||| 2 ^ (l.getD i ins0).k : Nat) : Int) := nu16_or (hsm i) hp16
                have hnxt : nextsI l i = [i + 1] := by unfold nextsI kind; rw [if_neg (by omega), if_neg (by omega), if_neg (by omega)]
                generalize hnn : (atI l i).getD i 0 ||| 2 ^ (l.getD i ins0).k = now at hnowd hor
                rw [hnowd] at hnow
                (repeat((conv=>whnf);first|apply ω0|apply ω1|apply ω2|refine τ3 rfl ?_|refine τ4 rfl ?_|refine ⟨rfl,?_⟩|apply τa|refine τb rfl ?_|refine ⟨⟨by kernel_rfl,by kernel_rfl⟩,?_⟩|refine ⟨by decide,?_⟩|apply τt|apply τf))
                (conv => whnf)
                refine ⟨Int.natCast_nonneg _, splitO_eq (b := u16 ((2 ^ (l.getD i ins0).k : Nat) : Int)) (congrArg (fun x : Int => u16 x) hsh) ?_⟩
                (repeat((conv=>whnf);first|apply ω0|apply ω1|apply ω2|refine τ3 rfl ?_|refine τ4 rfl ?_|refine ⟨rfl,?_⟩|apply τa|refine τb rfl ?_|refine ⟨⟨by kernel_rfl,by kernel_rfl⟩,?_⟩|refine ⟨by decide,?_⟩|apply τt|apply τf))
                intro c b1; cases c
                case true => exact absurd (yes_of b1) (by omega)
                (repeat((conv=>whnf);first|apply ω0|apply ω1|apply ω2|refine τ3 rfl ?_|refine τ4 rfl ?_|refine ⟨rfl,?_⟩|apply τa|refine τb rfl ?_|refine ⟨⟨by kernel_rfl,by kernel_rfl⟩,?_⟩|refine ⟨by decide,?_⟩|apply τt|apply τf))
                intro c b2; cases c
                case true => exact absurd (yes_of b2) (by omega)
                (repeat((conv=>whnf);first|apply ω0|apply ω1|apply ω2|refine τ3 rfl ?_|refine τ4 rfl ?_|refine ⟨rfl,?_⟩|apply τa|refine τb rfl ?_|refine ⟨⟨by kernel_rfl,by kernel_rfl⟩,?_⟩|refine ⟨by decide,?_⟩|apply τt|apply τf))
                intro c b3; cases c
                case true => exact absurd (yes_of b3) (by omega)
                (repeat((conv=>whnf);first|apply ω0|apply ω1|apply ω2|refine τ3 rfl ?_|refine τ4 rfl ?_|refine ⟨rfl,?_⟩|apply τa|refine τb rfl ?_|refine ⟨⟨by kernel_rfl,by kernel_rfl⟩,?_⟩|refine ⟨by decide,?_⟩|apply τt|apply τf))
                intro c b4; cases c
                case true => exact absurd (yes_of b4) (by omega)
                (repeat((conv=>whnf);first|apply ω0|apply ω1|apply ω2|refine τ3 rfl ?_|refine τ4 rfl ?_|refine ⟨rfl,?_⟩|apply τa|refine τb rfl ?_|refine ⟨⟨by kernel_rfl,by kernel_rfl⟩,?_⟩|refine ⟨by decide,?_⟩|apply τt|apply τf))
                refine aop_call rfl rfl (ECall.args (bs := [int (i + 1 : Nat), .bp (0, _) 0, .bp (2, _) 0]) ⟨le_int (wrap_succ (by dsimp only; omega)), AVle.refl _, AVle.refl _, trivial⟩
                  (ECall.tell (goes_spec nx nx' nx3 (nx3 + 1) 3 (l.getD i ins0) now (i + 1) (atI l i) (by have := (hnx (i + 1) (by rw [hnxt]; simp)).2; omega) (by first | omega | (simp only [goI_length]; omega)) (hsm) hnow) ⟨rfl, OwnLe.of_eq (by rw [hor]; rfl), rfl, OwnLe.refl _, rfl, OwnLe.refl _, trivial⟩ trivial rfl)) fun r h' hq => ?_
                obtain ⟨kk, rfl⟩ := hq
                refine Named.same ?_
                (repeat((conv=>whnf);first|apply ω0|apply ω1|apply ω2|refine τ3 rfl ?_|refine τ4 rfl ?_|refine ⟨rfl,?_⟩|apply τa|refine τb rfl ?_|refine ⟨⟨by kernel_rfl,by kernel_rfl⟩,?_⟩|refine ⟨by decide,?_⟩|apply τt|apply τf))
                refine back (i + 1, _) (by dsimp only; omega) (by dsimp only; omega) (ele_tell [((0, _), .c ((goI now (atI l i) (i + 1)).map uA))] [] rfl rfl (.cons _ (.cons _ (.cons_cons _ .slnil))) .slnil ⟨rfl, OwnLe.of_eq ?_, trivial⟩ trivial ⟨AVle.refl _, AVle.refl _, AVle.refl _, AVle.refl _, le_int (wrap_succ (by dsimp only; omega)), trivial⟩)
                dsimp only
                rw [hstep]; unfold stepS; rw [hnxt]; (try rw [hnn]); rw [hnowd]; rfl
            · have a1 := yes_of a1
              have hnowd : nowI (l.getD i ins0) ((atI l i).getD i 0) = (atI l i).getD i 0 ||| 2 ^ (l.getD i ins0).k := if_pos (by unfold isStore; omega)
              have hk16 : (l.getD i ins0).k < 16 := by omega
              have hp16 : 2 ^ (l.getD i ins0).k < 65536 := Nat.pow_lt_pow_right (n := 16) (by decide) hk16
              have hsh : IntKind.u16.wrap (1 * 2 ^ (min (Int.toNat ((l.getD i ins0).k : Nat)) IntKind.u16.bits)) = ((2 ^ (l.getD i ins0).k : Nat) : Int) := by
                have : min (Int.toNat ((l.getD i ins0).k : Nat)) IntKind.u16.bits = (l.getD i ins0).k := by show min _ 16 = _; omega
                have h2 : ((1 : Int) * 2 ^ (l.getD i ins0).k) = ((2 ^ (l.getD i ins0).k : Nat) : Int) := by simp
                rw [this, h2]
                refine IntWalk.u16_in _ ?_
                generalize 2 ^ (l.getD i ins0).k = q at hp16
                omega
              have hor : bitsI .or .u16 ((atI l i).getD i 0 : Nat) ((2 ^ (l.getD i ins0).k : Nat) : Int) = (((atI l i).getD i 0 ||| 2 ^ (l.getD i ins0).k : Nat) : Int) := nu16_or (hsm i) hp16
              have hnxt : nextsI l i = [i + 1] := by unfold nextsI kind; rw [if_neg (by omega), if_neg (by omega), if_neg (by omega)]
              generalize hnn : (atI l i).getD i 0 ||| 2 ^ (l.getD i ins0).k = now at hnowd hor
              rw [hnowd] at hnow
              (repeat((conv=>whnf);first|apply ω0|apply ω1|apply ω2|refine τ3 rfl ?_|refine τ4 rfl ?_|refine ⟨rfl,?_⟩|apply τa|refine τb rfl ?_|refine ⟨⟨by kernel_rfl,by kernel_rfl⟩,?_⟩|refine ⟨by decide,?_⟩|apply τt|apply τf))
              (conv => whnf)
              refine ⟨Int.natCast_nonneg _, splitO_eq (b := u16 ((2 ^ (l.getD i ins0).k : Nat) : Int)) (congrArg (fun x : Int => u16 x) hsh) ?_⟩
              (repeat((conv=>whnf);first|apply ω0|apply ω1|apply ω2|refine τ3 rfl ?_|refine τ4 rfl ?_|refine ⟨rfl,?_⟩|apply τa|refine τb rfl ?_|refine ⟨⟨by kernel_rfl,by kernel_rfl⟩,?_⟩|refine ⟨by decide,?_⟩|apply τt|apply τf))
              intro c b1; cases c
              case true => exact absurd (yes_of b1) (by omega)
              (repeat((conv=>whnf);first|apply ω0|apply ω1|apply ω2|refine τ3 rfl ?_|refine τ4 rfl ?_|refine ⟨rfl,?_⟩|apply τa|refine τb rfl ?_|refine ⟨⟨by kernel_rfl,by kernel_rfl⟩,?_⟩|refine ⟨by decide,?_⟩|apply τt|apply τf))
              intro c b2; cases c
              case true => exact absurd (yes_of b2) (by omega)
              (repeat((conv=>whnf);first|apply ω0|apply ω1|apply ω2|refine τ3 rfl ?_|refine τ4 rfl ?_|refine ⟨rfl,?_⟩|apply τa|refine τb rfl ?_|refine ⟨⟨by kernel_rfl,by kernel_rfl⟩,?_⟩|refine ⟨by decide,?_⟩|apply τt|apply τf))
              intro c b3; cases c
              case true => exact absurd (yes_of b3) (by omega)
              (repeat((conv=>whnf);first|apply ω0|apply ω1|apply ω2|refine τ3 rfl ?_|refine τ4 rfl ?_|refine ⟨rfl,?_⟩|apply τa|refine τb rfl ?_|refine ⟨⟨by kernel_rfl,by kernel_rfl⟩,?_⟩|refine ⟨by decide,?_⟩|apply τt|apply τf))
              intro c b4; cases c
              case true => exact absurd (yes_of b4) (by omega)
              (repeat((conv=>whnf);first|apply ω0|apply ω1|apply ω2|refine τ3 rfl ?_|refine τ4 rfl ?_|refine ⟨rfl,?_⟩|apply τa|refine τb rfl ?_|refine ⟨⟨by kernel_rfl,by kernel_rfl⟩,?_⟩|refine ⟨by decide,?_⟩|apply τt|apply τf))
              refine aop_call rfl rfl (ECall.args (bs := [int (i + 1 : Nat), .bp (0, _) 0, .bp (2, _) 0]) ⟨le_int (wrap_succ (by dsimp only; omega)), AVle.refl _, AVle.refl _, trivial⟩
                (ECall.tell (goes_spec nx nx' nx3 (nx3 + 1) 3 (l.getD i ins0) now (i + 1) (atI l i) (by have := (hnx (i + 1) (by rw [hnxt]; simp)).2; omega) (by first | omega | (simp only [goI_length]; omega)) (hsm) hnow) ⟨rfl, OwnLe.of_eq (by rw [hor]; rfl), rfl, OwnLe.refl _, rfl, OwnLe.refl _, trivial⟩ trivial rfl)) fun r h' hq => ?_
              obtain ⟨kk, rfl⟩ := hq
              refine Named.same ?_
              (repeat((conv=>whnf);first|apply ω0|apply ω1|apply ω2|refine τ3 rfl ?_|refine τ4 rfl ?_|refine ⟨rfl,?_⟩|apply τa|refine τb rfl ?_|refine ⟨⟨by kernel_rfl,by kernel_rfl⟩,?_⟩|refine ⟨by decide,?_⟩|apply τt|apply τf))
              refine back (i + 1, _) (by dsimp only; omega) (by dsimp only; omega) (ele_tell [((0, _), .c ((goI now (atI l i) (i + 1)).map uA))] [] rfl rfl (.cons _ (.cons _ (.cons_cons _ .slnil))) .slnil ⟨rfl, OwnLe.of_eq ?_, trivial⟩ trivial ⟨AVle.refl _, AVle.refl _, AVle.refl _, AVle.refl _, le_int (wrap_succ (by dsimp only; omega)), trivial⟩)
              dsimp only
              rw [hstep]; unfold stepS; rw [hnxt]; (try rw [hnn]); rw [hnowd]; rfl
      · have h2 := yes_of g2
        have hit : (0 + (Int.toNat (i : Int)) * Tryz.prog.cellsOf 41) = i := by rw [c49]; omega
        (repeat((conv=>whnf);first|apply ω0|apply ω1|apply ω2|refine τ3 rfl ?_|refine τ4 rfl ?_|refine ⟨rfl,?_⟩|apply τa|refine τb rfl ?_|refine ⟨⟨by kernel_rfl,by kernel_rfl⟩,?_⟩|refine ⟨by decide,?_⟩|apply τt|apply τf))
        refine ⟨⟨by omega, by omega⟩, splitO_eq (b := .bp (0, nx) i) (congrArg (AV.bp (0, nx)) hit) ?_⟩
        obtain ⟨m, hm⟩ : ∃ m, 4096 - i = m + 1 := ⟨4096 - i - 1, by omega⟩
        have hsp : splice ((List.replicate i 65535 ++ List.replicate (4096 - i) 0).map uA) i [AV.v (.int .u16 65535)] = (List.replicate (i + 1) 65535 ++ List.replicate (4096 - (i + 1)) 0).map uA := by
          refine (splice_one (f := uA) (x := 65535) (by simp; omega)).trans ?_
          have := fill_set (List.replicate i 65535) m 65535 0
          rw [List.length_replicate] at this
          rw [hm, this, show 4096 - (i + 1) = m by omega, List.replicate_succ']
        (conv => whnf)
        refine ⟨⟨rfl, by simp; omega⟩, ?_⟩
        rw [hsp]
        (repeat((conv=>whnf);first|apply ω0|apply ω1|apply ω2|refine τ3 rfl ?_|refine τ4 rfl ?_|refine ⟨rfl,?_⟩|apply τa|refine τb rfl ?_|refine ⟨⟨by kernel_rfl,by kernel_rfl⟩,?_⟩|refine ⟨by decide,?_⟩|apply τt|apply τf))
        exact back (i + 1) (by omega) (by omega) (ele_tell _ _ rfl rfl (List.Sublist.refl _) .slnil ⟨rfl, OwnLe.refl _, trivial⟩ trivial ⟨AVle.refl _, AVle.refl _, AVle.refl _, le_int (wrap_succ (by omega)), trivial⟩)
  · have g1 := bne_yes g1
    (repeat((conv=>whnf);first|apply ω0|apply ω1|apply ω2|refine τ3 rfl ?_|refine τ4 rfl ?_|refine ⟨rfl,?_⟩|apply τa|refine τb rfl ?_|refine ⟨⟨by kernel_rfl,by kernel_rfl⟩,?_⟩|refine ⟨by decide,?_⟩|apply τt|apply τf))
    refine ret_tells rfl ?_
    unfold foundS
    rw [if_neg (by omega)]
    exact AVle.os_sl0
end Go.Proofs.W

namespace Go.Proofs.W
open Go.Vl
set_option maxRecDepth 100000

theorem storedI_length {l : List Ins} (hf : Formed l) : (storedI l).length = l.length := by
  unfold storedI; rw [List.length_take, atI_length hf.le]; have := hf.le; omega
theorem storedI_small {l : List Ins} (hf : Formed l) : small (storedI l) := by
  intro k
  unfold storedI
  simp only [List.getD, List.getElem?_take]
  split
  · exact atI_small hf.le l.length k
  · simp
theorem bit_of {x k : Nat} (hx : x < 65536) (hk : k < 16) : bitsI .and .u16 ((x : Int).fdiv (2 ^ (min (Int.toNat (k : Int)) IntKind.u16.bits))) 1 = ((x / 2 ^ k % 2 : Nat) : Int) := by
  have h1 : min (Int.toNat (k : Int)) IntKind.u16.bits = k := by show min _ 16 = _; omega
  have h2 : (x : Int).fdiv (2 ^ k) = ((x / 2 ^ k : Nat) : Int) := by
    rw [Int.fdiv_eq_ediv_of_nonneg _ (by exact_mod_cast Nat.zero_le _)]; simp
  rw [h1, h2]
  have h3 := nu16_and (a := x / 2 ^ k) (b := 1) (Nat.lt_of_le_of_lt (Nat.div_le_self _ _) hx) (by decide)
  rw [Nat.and_one_is_mod] at h3
  exact h3
theorem check_spec (l : List Ins) (hok : okL l) (hl : l.length ≤ 1000000000) : Tells Tryz.prog 23 [inss l] (.tup [int (checkI l).1, int (checkI l).2]) := by
  refine tells_of_aw Tryz.func23 rfl rfl fun nx => ?_
  (repeat((conv=>whnf);first|apply ω0|apply ω1|apply ω2|refine τ3 rfl ?_|refine τ4 rfl ?_|refine ⟨rfl,?_⟩|apply τa|refine τb rfl ?_|refine ⟨⟨by kernel_rfl,by kernel_rfl⟩,?_⟩|refine ⟨by decide,?_⟩|apply τt|apply τf))
  refine aop_tells rfl rfl (formed_spec l hok hl) ⟨AVle.refl _, trivial⟩ fun nx => ?_
  (repeat((conv=>whnf);first|apply ω0|apply ω1|apply ω2|refine τ3 rfl ?_|refine τ4 rfl ?_|refine ⟨rfl,?_⟩|apply τa|refine τb rfl ?_|refine ⟨⟨by kernel_rfl,by kernel_rfl⟩,?_⟩|refine ⟨by decide,?_⟩|apply τt|apply τf))
  intro c g1; cases c
  · have g1 := bne_no g1
    have hfz : (formedI l).2 = 0 := by omega
    have hf : Formed l := formed_of hfz
    have hle := hf.le
    have hpos := hf.pos
    have hsl := storedI_length hf
    have hss := storedI_small hf
    (repeat((conv=>whnf);first|apply ω0|apply ω1|apply ω2|refine τ3 rfl ?_|refine τ4 rfl ?_|refine ⟨rfl,?_⟩|apply τa|refine τb rfl ?_|refine ⟨⟨by kernel_rfl,by kernel_rfl⟩,?_⟩|refine ⟨by decide,?_⟩|apply τt|apply τf))
    have hst := stored_spec l hok hl
    unfold foundS at hst
    rw [if_pos hfz] at hst
    refine aop_tells rfl rfl hst ⟨AVle.refl _, trivial⟩ fun nx => ?_
    (repeat((conv=>whnf);first|apply ω0|apply ω1|apply ω2|refine τ3 rfl ?_|refine τ4 rfl ?_|refine ⟨rfl,?_⟩|apply τa|refine τb rfl ?_|refine ⟨⟨by kernel_rfl,by kernel_rfl⟩,?_⟩|refine ⟨by decide,?_⟩|apply τt|apply τf))
    refine aw_loop (fun s : Nat × Nat => mk 57 [(0, inss l), (21, u16s (storedI l)), (22, int (storedI l).length), (23, int s.1)] ⟨[], [], s.2, 0⟩) (fun s => s.1 ≤ l.length ∧ ∀ j, j < s.1 → ¬ ((kind l j = 3 ∨ kind l j = 6) ∧ (storedI l).getD j 0 / 2 ^ (l.getD j ins0).k % 2 = 0)) (fun s => l.length - s.1) ?_ ?_
    · exact ⟨(0, _), ⟨by omega, by intro j hj; omega⟩, ele_mk rfl rfl ⟨AVle.refl _, AVle.refl _, AVle.refl _, AVle.refl _, trivial⟩⟩
    · rintro ⟨i, nx'⟩ ⟨h3, h4⟩
      dsimp only at h3 h4
      (repeat((conv=>whnf);first|apply ω0|apply ω1|apply ω2|refine τ3 rfl ?_|refine τ4 rfl ?_|refine ⟨rfl,?_⟩|apply τa|refine τb rfl ?_|refine ⟨⟨by kernel_rfl,by kernel_rfl⟩,?_⟩|refine ⟨by decide,?_⟩|apply τt|apply τf))
      intro c g2; cases c
      · have h5 := not_of g2
        dsimp only at h5
        obtain rfl : i = l.length := by omega
        (repeat((conv=>whnf);first|apply ω0|apply ω1|apply ω2|refine τ3 rfl ?_|refine τ4 rfl ?_|refine ⟨rfl,?_⟩|apply τa|refine τb rfl ?_|refine ⟨⟨by kernel_rfl,by kernel_rfl⟩,?_⟩|refine ⟨by decide,?_⟩|apply τt|apply τf))
        refine ret_tells rfl (AVle.of_eq ?_)
        have : checkI l = (0, 0) := by
          unfold checkI
          rw [if_neg (by omega), find_range_none fun j hj => by rw [decide_eq_false_iff_not]; exact h4 j hj]
        rw [this]; rfl
      · have h5 := yes_of g2
        dsimp only at h5
        have hi : i < l.length := by omega
        have hki : (l.getD i ins0).ok := hok.get hi
        have hpt := wrong_parts (hf.ok i hi)
        (repeat((conv=>whnf);first|apply ω0|apply ω1|apply ω2|refine τ3 rfl ?_|refine τ4 rfl ?_|refine ⟨rfl,?_⟩|apply τa|refine τb rfl ?_|refine ⟨⟨by kernel_rfl,by kernel_rfl⟩,?_⟩|refine ⟨by decide,?_⟩|apply τt|apply τf))
        refine ⟨⟨by dsimp only; omega, by dsimp only; omega⟩, ?_⟩
        (repeat((conv=>whnf);first|apply ω0|apply ω1|apply ω2|refine τ3 rfl ?_|refine τ4 rfl ?_|refine ⟨rfl,?_⟩|apply τa|refine τb rfl ?_|refine ⟨⟨by kernel_rfl,by kernel_rfl⟩,?_⟩|refine ⟨by decide,?_⟩|apply τt|apply τf))
        refine ⟨⟨by dsimp only; omega, by dsimp only; omega⟩, ?_⟩
        (repeat((conv=>whnf);first|apply ω0|apply ω1|apply ω2|refine τ3 rfl ?_|refine τ4 rfl ?_|refine ⟨rfl,?_⟩|apply τa|refine τb rfl ?_|refine ⟨⟨by kernel_rfl,by kernel_rfl⟩,?_⟩|refine ⟨by decide,?_⟩|apply τt|apply τf))
        refine aop_tells rfl rfl (of_kind (l.getD i ins0).code hki.1) ⟨AVle.refl _, trivial⟩ fun nx3 => ?_
        (repeat((conv=>whnf);first|apply ω0|apply ω1|apply ω2|refine τ3 rfl ?_|refine τ4 rfl ?_|refine ⟨rfl,?_⟩|apply τa|refine τb rfl ?_|refine ⟨⟨by kernel_rfl,by kernel_rfl⟩,?_⟩|refine ⟨by decide,?_⟩|apply τt|apply τf))
        intro c a1; cases c
        · have a1 := not_of a1
          (repeat((conv=>whnf);first|apply ω0|apply ω1|apply ω2|refine τ3 rfl ?_|refine τ4 rfl ?_|refine ⟨rfl,?_⟩|apply τa|refine τb rfl ?_|refine ⟨⟨by kernel_rfl,by kernel_rfl⟩,?_⟩|refine ⟨by decide,?_⟩|apply τt|apply τf))
          intro c a2; cases c
          · have a2 := not_of a2
            (repeat((conv=>whnf);first|apply ω0|apply ω1|apply ω2|refine τ3 rfl ?_|refine τ4 rfl ?_|refine ⟨rfl,?_⟩|apply τa|refine τb rfl ?_|refine ⟨⟨by kernel_rfl,by kernel_rfl⟩,?_⟩|refine ⟨by decide,?_⟩|apply τt|apply τf))
            refine back (i + 1, _) ⟨by dsimp only; omega, fun j hj => ?_⟩ (by dsimp only; omega) (ele_mk rfl rfl ⟨AVle.refl _, AVle.refl _, AVle.refl _, le_int (wrap_succ (by dsimp only; omega)), trivial⟩)
            dsimp only at hj
            rcases Nat.lt_or_ge j i with h | h
            · exact h4 j h
            · obtain rfl : j = i := by omega
              unfold kind; omega
          · have a2 := yes_of a2
            have hb := bit_of (hss i) (k := (l.getD i ins0).k) (by omega)
            have hkd : kind l i = 3 ∨ kind l i = 6 := by unfold kind; omega
            (repeat((conv=>whnf);first|apply ω0|apply ω1|apply ω2|refine τ3 rfl ?_|refine τ4 rfl ?_|refine ⟨rfl,?_⟩|apply τa|refine τb rfl ?_|refine ⟨⟨by kernel_rfl,by kernel_rfl⟩,?_⟩|refine ⟨by decide,?_⟩|apply τt|apply τf))
            (conv => whnf)
            refine ⟨⟨by dsimp only; omega, by dsimp only; omega⟩, ?_⟩
            (repeat((conv=>whnf);first|apply ω0|apply ω1|apply ω2|refine τ3 rfl ?_|refine τ4 rfl ?_|refine ⟨rfl,?_⟩|apply τa|refine τb rfl ?_|refine ⟨⟨by kernel_rfl,by kernel_rfl⟩,?_⟩|refine ⟨by decide,?_⟩|apply τt|apply τf))
            (conv => whnf)
            refine ⟨Int.natCast_nonneg _, ?_⟩
            (repeat((conv=>whnf);first|apply ω0|apply ω1|apply ω2|refine τ3 rfl ?_|refine τ4 rfl ?_|refine ⟨rfl,?_⟩|apply τa|refine τb rfl ?_|refine ⟨⟨by kernel_rfl,by kernel_rfl⟩,?_⟩|refine ⟨by decide,?_⟩|apply τt|apply τf))
            intro c a3; cases c
            · have a3 := not_of a3
              have a4 : ¬ (((storedI l).getD i 0 / 2 ^ (l.getD i ins0).k % 2 : Nat) : Int) = 0 := hb ▸ a3
              (repeat((conv=>whnf);first|apply ω0|apply ω1|apply ω2|refine τ3 rfl ?_|refine τ4 rfl ?_|refine ⟨rfl,?_⟩|apply τa|refine τb rfl ?_|refine ⟨⟨by kernel_rfl,by kernel_rfl⟩,?_⟩|refine ⟨by decide,?_⟩|apply τt|apply τf))
              refine back (i + 1, _) ⟨by dsimp only; omega, fun j hj => ?_⟩ (by dsimp only; omega) (ele_mk rfl rfl ⟨AVle.refl _, AVle.refl _, AVle.refl _, le_int (wrap_succ (by dsimp only; omega)), trivial⟩)
              dsimp only at hj
              rcases Nat.lt_or_ge j i with h | h
              · exact h4 j h
              · obtain rfl : j = i := by omega
                unfold kind; omega
            · have a3 := yes_of a3
              have a4 : (((storedI l).getD i 0 / 2 ^ (l.getD i ins0).k % 2 : Nat) : Int) = 0 := hb ▸ a3
              (repeat((conv=>whnf);first|apply ω0|apply ω1|apply ω2|refine τ3 rfl ?_|refine τ4 rfl ?_|refine ⟨rfl,?_⟩|apply τa|refine τb rfl ?_|refine ⟨⟨by kernel_rfl,by kernel_rfl⟩,?_⟩|refine ⟨by decide,?_⟩|apply τt|apply τf))
              refine ret_tells rfl (AVle.of_eq ?_)
              have : checkI l = (i, 12) := by
                unfold checkI
                rw [if_neg (by omega), find_range_some hi (by rw [decide_eq_true_eq]; exact ⟨hkd, by omega⟩) (fun j hj => by rw [decide_eq_false_iff_not]; exact h4 j hj)]
              rw [this]; rfl
        · have a1 := yes_of a1
          have hb := bit_of (hss i) (k := (l.getD i ins0).k) (by omega)
          have hkd : kind l i = 3 ∨ kind l i = 6 := by unfold kind; omega
          (repeat((conv=>whnf);first|apply ω0|apply ω1|apply ω2|refine τ3 rfl ?_|refine τ4 rfl ?_|refine ⟨rfl,?_⟩|apply τa|refine τb rfl ?_|refine ⟨⟨by kernel_rfl,by kernel_rfl⟩,?_⟩|refine ⟨by decide,?_⟩|apply τt|apply τf))
          (conv => whnf)
          refine ⟨⟨by dsimp only; omega, by dsimp only; omega⟩, ?_⟩
          (repeat((conv=>whnf);first|apply ω0|apply ω1|apply ω2|refine τ3 rfl ?_|refine τ4 rfl ?_|refine ⟨rfl,?_⟩|apply τa|refine τb rfl ?_|refine ⟨⟨by kernel_rfl,by kernel_rfl⟩,?_⟩|refine ⟨by decide,?_⟩|apply τt|apply τf))
          (conv => whnf)
          refine ⟨Int.natCast_nonneg _, ?_⟩
          (repeat((conv=>whnf);first|apply ω0|apply ω1|apply ω2|refine τ3 rfl ?_|refine τ4 rfl ?_|refine ⟨rfl,?_⟩|apply τa|refine τb rfl ?_|refine ⟨⟨by kernel_rfl,by kernel_rfl⟩,?_⟩|refine ⟨by decide,?_⟩|apply τt|apply τf))
          intro c a3; cases c
          · have a3 := not_of a3
            have a4 : ¬ (((storedI l).getD i 0 / 2 ^ (l.getD i ins0).k % 2 : Nat) : Int) = 0 := hb ▸ a3
            (repeat((conv=>whnf);first|apply ω0|apply ω1|apply ω2|refine τ3 rfl ?_|refine τ4 rfl ?_|refine ⟨rfl,?_⟩|apply τa|refine τb rfl ?_|refine ⟨⟨by kernel_rfl,by kernel_rfl⟩,?_⟩|refine ⟨by decide,?_⟩|apply τt|apply τf))
            refine back (i + 1, _) ⟨by dsimp only; omega, fun j hj => ?_⟩ (by dsimp only; omega) (ele_mk rfl rfl ⟨AVle.refl _, AVle.refl _, AVle.refl _, le_int (wrap_succ (by dsimp only; omega)), trivial⟩)
            dsimp only at hj
            rcases Nat.lt_or_ge j i with h | h
            · exact h4 j h
            · obtain rfl : j = i := by omega
              unfold kind; omega
          · have a3 := yes_of a3
            have a4 : (((storedI l).getD i 0 / 2 ^ (l.getD i ins0).k % 2 : Nat) : Int) = 0 := hb ▸ a3
            (repeat((conv=>whnf);first|apply ω0|apply ω1|apply ω2|refine τ3 rfl ?_|refine τ4 rfl ?_|refine ⟨rfl,?_⟩|apply τa|refine τb rfl ?_|refine ⟨⟨by kernel_rfl,by kernel_rfl⟩,?_⟩|refine ⟨by decide,?_⟩|apply τt|apply τf))
            refine ret_tells rfl (AVle.of_eq ?_)
            have : checkI l = (i, 12) := by
              unfold checkI
              rw [if_neg (by omega), find_range_some hi (by rw [decide_eq_true_eq]; exact ⟨hkd, by omega⟩) (fun j hj => by rw [decide_eq_false_iff_not]; exact h4 j hj)]
            rw [this]; rfl
  · have g1 := bne_yes g1
    (repeat((conv=>whnf);first|apply ω0|apply ω1|apply ω2|refine τ3 rfl ?_|refine τ4 rfl ?_|refine ⟨rfl,?_⟩|apply τa|refine τb rfl ?_|refine ⟨⟨by kernel_rfl,by kernel_rfl⟩,?_⟩|refine ⟨by decide,?_⟩|apply τt|apply τf))
    refine ret_tells rfl (AVle.of_eq ?_)
    have : checkI l = formedI l := by
      unfold checkI
      rw [if_pos (by omega)]
    rw [this]; rfl
end Go.Proofs.W

namespace Go.Proofs.W
open Go.Vl
set_option maxRecDepth 100000

theorem le_ints1 {f : Nat → AV} {oi : Option Vl.Id} {a : Nat} {x : Int} (h : f 0 = int x) (hx : x = (a : Nat)) : AVle (.os 1 1 f oi) (ints [a]) :=
  AVle.os_sl.trans (AVle.sl_fun fun k hk => by obtain rfl : k = 0 := by omega
                                               rw [h, hx]; rfl)
theorem le_ints2 {f : Nat → AV} {oi : Option Vl.Id} {a b : Nat} {x y : Int} (h : f 0 = int x) (hx : x = (a : Nat)) (h' : f 1 = int y) (hy : y = (b : Nat)) : AVle (.os 1 2 f oi) (ints [a, b]) :=
  AVle.os_sl.trans (AVle.sl_fun fun k hk => by
    rcases k with _ | _ | k
    · rw [h, hx]; rfl
    · rw [h', hy]; rfl
    · omega)
theorem wrap_two {n k : Nat} (h : n + 1 + k ≤ 1000000000) : IntKind.i64.wrap (IntKind.i64.wrap ((n : Int) + 1) + IntKind.i64.wrap (k : Int)) = ((n + 1 + k : Nat) : Int) := by
  rw [show IntKind.i64.wrap (k : Int) = k from wrap_id (by omega) (by omega), show IntKind.i64.wrap ((n : Int) + 1) = (n : Int) + 1 from wrap_id (by omega) (by omega), wrap_id (by omega) (by omega)]; omega
theorem next_spec (l : List Ins) (hok : okL l) (hf : Formed l) (n : Nat) (hn : n < l.length) : Tells Tryz.prog 24 [inss l, int n] (ints (nextsI l n)) := by
  have hle := hf.le
  have hki : (l.getD n ins0).ok := hok.get hn
  have hnx := nexts_lt hf hn
  refine tells_of_aw Tryz.func24 rfl rfl fun nx => ?_
  (repeat((conv=>whnf);first|apply ω0|apply ω1|apply ω2|refine τ3 rfl ?_|refine τ4 rfl ?_|refine ⟨rfl,?_⟩|apply τa|refine τb rfl ?_|refine ⟨⟨by kernel_rfl,by kernel_rfl⟩,?_⟩|refine ⟨by decide,?_⟩|apply τt|apply τf))
  refine ⟨⟨by omega, by omega⟩, ?_⟩
  (repeat((conv=>whnf);first|apply ω0|apply ω1|apply ω2|refine τ3 rfl ?_|refine τ4 rfl ?_|refine ⟨rfl,?_⟩|apply τa|refine τb rfl ?_|refine ⟨⟨by kernel_rfl,by kernel_rfl⟩,?_⟩|refine ⟨by decide,?_⟩|apply τt|apply τf))
  refine aop_tells rfl rfl (of_kind (l.getD n ins0).code hki.1) ⟨AVle.refl _, trivial⟩ fun nx3 => ?_
  (repeat((conv=>whnf);first|apply ω0|apply ω1|apply ω2|refine τ3 rfl ?_|refine τ4 rfl ?_|refine ⟨rfl,?_⟩|apply τa|refine τb rfl ?_|refine ⟨⟨by kernel_rfl,by kernel_rfl⟩,?_⟩|refine ⟨by decide,?_⟩|apply τt|apply τf))
  intro c a1; cases c
  · have a1 := not_of a1
    (repeat((conv=>whnf);first|apply ω0|apply ω1|apply ω2|refine τ3 rfl ?_|refine τ4 rfl ?_|refine ⟨rfl,?_⟩|apply τa|refine τb rfl ?_|refine ⟨⟨by kernel_rfl,by kernel_rfl⟩,?_⟩|refine ⟨by decide,?_⟩|apply τt|apply τf))
    intro c a2; cases c
    · have a2 := not_of a2
      (repeat((conv=>whnf);first|apply ω0|apply ω1|apply ω2|refine τ3 rfl ?_|refine τ4 rfl ?_|refine ⟨rfl,?_⟩|apply τa|refine τb rfl ?_|refine ⟨⟨by kernel_rfl,by kernel_rfl⟩,?_⟩|refine ⟨by decide,?_⟩|apply τt|apply τf))
      intro c a3; cases c
      · have a3 := not_of a3
        (repeat((conv=>whnf);first|apply ω0|apply ω1|apply ω2|refine τ3 rfl ?_|refine τ4 rfl ?_|refine ⟨rfl,?_⟩|apply τa|refine τb rfl ?_|refine ⟨⟨by kernel_rfl,by kernel_rfl⟩,?_⟩|refine ⟨by decide,?_⟩|apply τt|apply τf))
        intro c a4; cases c
        · have a4 := not_of a4
          have hnxt : nextsI l n = [n + 1] := by unfold nextsI kind; rw [if_neg (by omega), if_neg (by omega), if_neg (by omega)]
          (repeat((conv=>whnf);first|apply ω0|apply ω1|apply ω2|refine τ3 rfl ?_|refine τ4 rfl ?_|refine ⟨rfl,?_⟩|apply τa|refine τb rfl ?_|refine ⟨⟨by kernel_rfl,by kernel_rfl⟩,?_⟩|refine ⟨by decide,?_⟩|apply τt|apply τf))
          refine ret_tells rfl ?_
          rw [hnxt]
          exact le_ints1 rfl (wrap_succ (by omega))
        · have a4 := yes_of a4
          have hnxt : nextsI l n = [n + 1 + (l.getD n ins0).jt, n + 1 + (l.getD n ins0).jf] := by unfold nextsI kind; rw [if_neg (by omega), if_neg (by omega), if_pos (by omega)]
          have h1 := hnx (n + 1 + (l.getD n ins0).jt) (by rw [hnxt]; simp)
          have h2 := hnx (n + 1 + (l.getD n ins0).jf) (by rw [hnxt]; simp)
          (repeat((conv=>whnf);first|apply ω0|apply ω1|apply ω2|refine τ3 rfl ?_|refine τ4 rfl ?_|refine ⟨rfl,?_⟩|apply τa|refine τb rfl ?_|refine ⟨⟨by kernel_rfl,by kernel_rfl⟩,?_⟩|refine ⟨by decide,?_⟩|apply τt|apply τf))
          refine ret_tells rfl ?_
          rw [hnxt]
          exact le_ints2 rfl (wrap_two (n := n) (k := (l.getD n ins0).jt) (by omega)) rfl (wrap_two (n := n) (k := (l.getD n ins0).jf) (by omega))
      · have a3 := yes_of a3
        have hnxt : nextsI l n = [n + 1 + (l.getD n ins0).k] := by unfold nextsI kind; rw [if_neg (by omega), if_pos (by omega)]
        have h1 := hnx (n + 1 + (l.getD n ins0).k) (by rw [hnxt]; simp)
        (repeat((conv=>whnf);first|apply ω0|apply ω1|apply ω2|refine τ3 rfl ?_|refine τ4 rfl ?_|refine ⟨rfl,?_⟩|apply τa|refine τb rfl ?_|refine ⟨⟨by kernel_rfl,by kernel_rfl⟩,?_⟩|refine ⟨by decide,?_⟩|apply τt|apply τf))
        refine ret_tells rfl ?_
        rw [hnxt]
        exact le_ints1 rfl (wrap_two (n := n) (k := (l.getD n ins0).k) (by omega))
    · have a2 := yes_of a2
      have hnxt : nextsI l n = [] := by unfold nextsI kind; rw [if_pos (by omega)]
      (repeat((conv=>whnf);first|apply ω0|apply ω1|apply ω2|refine τ3 rfl ?_|refine τ4 rfl ?_|refine ⟨rfl,?_⟩|apply τa|refine τb rfl ?_|refine ⟨⟨by kernel_rfl,by kernel_rfl⟩,?_⟩|refine ⟨by decide,?_⟩|apply τt|apply τf))
      refine ret_tells rfl ?_
      rw [hnxt]
      exact AVle.os_sl0
  · have a1 := yes_of a1
    have hnxt : nextsI l n = [] := by unfold nextsI kind; rw [if_pos (by omega)]
    (repeat((conv=>whnf);first|apply ω0|apply ω1|apply ω2|refine τ3 rfl ?_|refine τ4 rfl ?_|refine ⟨rfl,?_⟩|apply τa|refine τb rfl ?_|refine ⟨⟨by kernel_rfl,by kernel_rfl⟩,?_⟩|refine ⟨by decide,?_⟩|apply τt|apply τf))
    refine ret_tells rfl ?_
    rw [hnxt]
    exact AVle.os_sl0
end Go.Proofs.W

namespace Go.Proofs.W

/-- Reached, where nothing goes on behind what stops. -/
inductive Rch (l : List Ins) (stop : Nat → Bool) : Nat → Prop
  | zero : Rch l stop 0
  | step (n t : Nat) (h : Rch l stop n) (hs : stop n = false) (ht : t ∈ nextsI l n) : Rch l stop t
theorem Rch.lt {l : List Ins} {stop : Nat → Bool} (hf : Formed l) {n : Nat} (h : Rch l stop n) : n < l.length := by
  induction h with
  | zero => exact hf.pos
  | step n t _ _ ht ih => exact (nexts_lt hf ih t ht).2
def setT (o : List Bool) (t : Nat) : List Bool := o.set t true
def scanStep (l : List Ins) (stop : Nat → Bool) (o : List Bool) (n : Nat) : List Bool := if o.getD n false && !stop n then (nextsI l n).foldl setT o else o
def scan0 (n : Nat) : List Bool := setT (List.replicate n false) 0
def scanN (l : List Ins) (stop : Nat → Bool) (k : Nat) : List Bool := (List.range k).foldl (scanStep l stop) (scan0 l.length)
def reachC (l : List Ins) (stop : Nat → Bool) : List Bool := scanN l stop l.length
def reachI (l : List Ins) : List Bool := reachC l fun _ => false
theorem setT_get (o : List Bool) (t k : Nat) : (setT o t).getD k false = (o.getD k false || (decide (t = k) && decide (t < o.length))) := by
  simp only [setT, List.getD, List.getElem?_set]
  by_cases h1 : t = k
  · subst h1
    by_cases h2 : t < o.length
    · simp [h2]
    · simp [h2, List.getElem?_eq_none (Nat.le_of_not_lt h2)]
  · simp [h1]
theorem setT_length (o : List Bool) (t : Nat) : (setT o t).length = o.length := by simp [setT]
theorem foldT_length : ∀ (ts : List Nat) (o : List Bool), (ts.foldl setT o).length = o.length
  | [], _ => rfl
  | t :: ts, o => by rw [List.foldl_cons, foldT_length ts, setT_length]
theorem foldT_get : ∀ (ts : List Nat) (o : List Bool) (k : Nat), (∀ t ∈ ts, t < o.length) → ((ts.foldl setT o).getD k false = true ↔ o.getD k false = true ∨ k ∈ ts)
  | [], o, k, _ => by simp
  | t :: ts, o, k, h => by
    rw [List.foldl_cons, foldT_get ts (setT o t) k (fun x hx => by rw [setT_length]; exact h x (by simp [hx])), setT_get]
    have ht := h t (by simp)
    rw [show (decide (t = k)) = decide (k = t) from decide_eq_decide.2 eq_comm]
    simp [ht, or_assoc]
theorem scanN_succ (l : List Ins) (stop : Nat → Bool) (k : Nat) : scanN l stop (k + 1) = scanStep l stop (scanN l stop k) k := by simp [scanN, List.range_succ]
theorem scanStep_length (l : List Ins) (stop : Nat → Bool) (o : List Bool) (n : Nat) : (scanStep l stop o n).length = o.length := by
  unfold scanStep; split
  · exact foldT_length _ _
  · rfl
theorem scanN_length (l : List Ins) (stop : Nat → Bool) (k : Nat) : (scanN l stop k).length = l.length := by
  induction k with
  | zero => simp [scanN, scan0, setT_length]
  | succ k ih => rw [scanN_succ, scanStep_length, ih]
theorem scan0_get {n : Nat} (hn : 0 < n) (k : Nat) : (scan0 n).getD k false = true ↔ k = 0 := by
  rw [scan0, setT_get]
  have : (List.replicate n false).getD k false = false := by
    simp only [List.getD, List.getElem?_replicate]; split <;> rfl
  rw [this]
  simp [hn, eq_comm]
theorem scan_iff {l : List Ins} (hf : Formed l) (stop : Nat → Bool) : ∀ k, k ≤ l.length → ∀ n, (scanN l stop k).getD n false = true ↔ n = 0 ∨ ∃ m, m < k ∧ Rch l stop m ∧ stop m = false ∧ n ∈ nextsI l m := by
  intro k
  induction k with
  | zero => intro _ n; rw [show scanN l stop 0 = scan0 l.length from rfl, scan0_get hf.pos]; simp
  | succ k ih =>
    intro hk n
    have hR : (scanN l stop k).getD k false = true ↔ Rch l stop k := by
      rw [ih (by omega)]
      constructor
      · rintro (h | ⟨m, _, h1, h2, h3⟩)
        · subst h; exact .zero
        · exact .step m k h1 h2 h3
      · intro h
        cases h with
        | zero => exact .inl rfl
        | step m _ h1 h2 h3 => exact .inr ⟨m, (nexts_lt hf (h1.lt hf) k h3).1, h1, h2, h3⟩
    rw [scanN_succ, scanStep]
    split
    · rename_i h
      simp only [Bool.and_eq_true, Bool.not_eq_true'] at h
      rw [foldT_get _ _ _ (fun t ht => by rw [scanN_length]; exact (nexts_lt hf (by omega) t ht).2), ih (by omega)]
      constructor
      · rintro ((h1 | ⟨m, h1, h2⟩) | h1)
        · exact .inl h1
        · exact .inr ⟨m, by omega, h2⟩
        · exact .inr ⟨k, by omega, hR.1 h.1, h.2, h1⟩
      · rintro (h1 | ⟨m, h1, h2, h3, h4⟩)
        · exact .inl (.inl h1)
        · rcases Nat.lt_or_ge m k with h5 | h5
          · exact .inl (.inr ⟨m, h5, h2, h3, h4⟩)
          · obtain rfl : m = k := by omega
            exact .inr h4
    · rename_i h
      simp only [Bool.and_eq_true, Bool.not_eq_true'] at h
      rw [ih (by omega)]
      constructor
      · rintro (h1 | ⟨m, h1, h2⟩)
        · exact .inl h1
        · exact .inr ⟨m, by omega, h2⟩
      · rintro (h1 | ⟨m, h1, h2, h3, h4⟩)
        · exact .inl h1
        · rcases Nat.lt_or_ge m k with h5 | h5
          · exact .inr ⟨m, h5, h2, h3, h4⟩
          · obtain rfl : m = k := by omega
            exact absurd ⟨hR.2 h2, h3⟩ h
theorem reachC_iff {l : List Ins} (hf : Formed l) (stop : Nat → Bool) (n : Nat) : (reachC l stop).getD n false = true ↔ Rch l stop n := by
  rw [reachC, scan_iff hf stop l.length (Nat.le_refl _)]
  constructor
  · rintro (h | ⟨m, _, h1, h2, h3⟩)
    · subst h; exact .zero
    · exact .step m n h1 h2 h3
  · intro h
    cases h with
    | zero => exact .inl rfl
    | step m _ h1 h2 h3 => exact .inr ⟨m, h1.lt hf, h1, h2, h3⟩
theorem reachC_length (l : List Ins) (stop : Nat → Bool) : (reachC l stop).length = l.length := scanN_length l stop l.length
theorem reachI_length (l : List Ins) : (reachI l).length = l.length := reachC_length l _
abbrev Reached (l : List Ins) (n : Nat) : Prop := Rch l (fun _ => false) n
theorem reachI_iff {l : List Ins} (hf : Formed l) (n : Nat) : (reachI l).getD n false = true ↔ Reached l n := reachC_iff hf _ n
end Go.Proofs.W

namespace Go.Proofs.W

/-- A set, and what of it is still to be gone on from. -/
def lookB (s : List Bool × List Nat) (t : Nat) : List Bool × List Nat := if s.1.getD t false then s else (setT s.1 t, s.2 ++ [t])
theorem count_set : ∀ (o : List Bool) (t : Nat), t < o.length → o.getD t false = false → (setT o t).count true = o.count true + 1
  | [], t, h, _ => by simp at h
  | b :: o, 0, _, h => by
    have : b = false := by simpa using h
    subst this
    simp [setT]
  | b :: o, t + 1, h, h' => by
    have ih := count_set o t (by simpa using h) (by simpa using h')
    simp only [setT, List.set_cons_succ, List.count_cons] at ih ⊢
    omega
theorem count_lt : ∀ (o : List Bool) (t : Nat), t < o.length → o.getD t false = false → o.count true < o.length
  | [], t, h, _ => by simp at h
  | b :: o, 0, _, h => by
    have : b = false := by simpa using h
    subst this
    have := List.count_le_length (a := true) (l := o)
    simp only [List.count_cons, List.length_cons]
    simp; omega
  | b :: o, t + 1, h, h' => by
    have ih := count_lt o t (by simpa using h) (by simpa using h')
    simp only [List.count_cons, List.length_cons]
    split <;> omega
structure Weak (n : Nat) (s : List Bool × List Nat) : Prop where
  len : s.1.length = n
  few : s.2.length ≤ s.1.count true
theorem Weak.look {n t : Nat} {s : List Bool × List Nat} (h : Weak n s) (ht : t < n) : Weak n (lookB s t) := by
  unfold lookB
  split
  · exact h
  · rename_i h1
    have h1 : s.1.getD t false = false := by simpa using h1
    have h2 := count_set s.1 t (by rw [h.len]; exact ht) h1
    have h3 := h.few
    exact ⟨by rw [setT_length, h.len], by dsimp only; rw [h2, List.length_append, List.length_singleton]; omega⟩
theorem Weak.room {n t : Nat} {s : List Bool × List Nat} (h : Weak n s) (ht : t < n) (h1 : s.1.getD t false = false) : s.2.length < n := by
  have := count_lt s.1 t (by rw [h.len]; exact ht) h1
  have h2 := h.len
  have h3 := h.few
  omega
theorem Weak.fold {n : Nat} : ∀ {ts : List Nat} {s : List Bool × List Nat}, Weak n s → (∀ t ∈ ts, t < n) → Weak n (ts.foldl lookB s)
  | [], _, h, _ => h
  | t :: ts, s, h, ht => by rw [List.foldl_cons]; exact Weak.fold (h.look (ht t (by simp))) fun x hx => ht x (by simp [hx])
def mBfs (n : Nat) (s : List Bool × List Nat) : Nat := 2 * (n - s.1.count true) + s.2.length
theorem mBfs_look {n t : Nat} {s : List Bool × List Nat} (h : Weak n s) (ht : t < n) : mBfs n (lookB s t) ≤ mBfs n s := by
  unfold lookB
  split
  · exact Nat.le_refl _
  · rename_i h1
    have h1 : s.1.getD t false = false := by simpa using h1
    have h2 := count_set s.1 t (by rw [h.len]; exact ht) h1
    have h3 := count_lt s.1 t (by rw [h.len]; exact ht) h1
    have h4 := h.len
    unfold mBfs
    dsimp only
    rw [h2, List.length_append, List.length_singleton]
    omega
theorem mBfs_fold {n : Nat} : ∀ {ts : List Nat} {s : List Bool × List Nat}, Weak n s → (∀ t ∈ ts, t < n) → mBfs n (ts.foldl lookB s) ≤ mBfs n s
  | [], _, _, _ => Nat.le_refl _
  | t :: ts, s, h, ht => by
    rw [List.foldl_cons]
    exact Nat.le_trans (mBfs_fold (h.look (ht t (by simp))) fun x hx => ht x (by simp [hx])) (mBfs_look h (ht t (by simp)))
theorem look_get {n t : Nat} {s : List Bool × List Nat} (h : Weak n s) (ht : t < n) (k : Nat) : (lookB s t).1.getD k false = true ↔ s.1.getD k false = true ∨ k = t := by
  unfold lookB
  split
  · rename_i h1
    constructor
    · exact .inl
    · rintro (h2 | h2)
      · exact h2
      · subst h2; exact h1
  · dsimp only
    rw [setT_get, h.len, show (decide (t = k)) = decide (k = t) from decide_eq_decide.2 eq_comm]
    simp [ht]
theorem look_mem {t : Nat} {s : List Bool × List Nat} (k : Nat) : k ∈ (lookB s t).2 ↔ k ∈ s.2 ∨ (k = t ∧ s.1.getD k false = false) := by
  unfold lookB
  split
  · rename_i h1
    constructor
    · exact .inl
    · rintro (h2 | ⟨h2, h3⟩)
      · exact h2
      · subst h2; rw [h1] at h3; cases h3
  · rename_i h1
    have h1 : s.1.getD t false = false := by simpa using h1
    simp only [List.mem_append, List.mem_singleton]
    constructor
    · rintro (h2 | h2)
      · exact .inl h2
      · subst h2; exact .inr ⟨rfl, h1⟩
    · rintro (h2 | ⟨h2, _⟩)
      · exact .inl h2
      · exact .inr h2
theorem fold_get {n : Nat} : ∀ {ts : List Nat} {s : List Bool × List Nat}, Weak n s → (∀ t ∈ ts, t < n) → ∀ k, ((ts.foldl lookB s).1.getD k false = true ↔ s.1.getD k false = true ∨ k ∈ ts)
  | [], _, _, _, k => by simp
  | t :: ts, s, h, ht, k => by
    rw [List.foldl_cons, fold_get (h.look (ht t (by simp))) (fun x hx => ht x (by simp [hx])), look_get h (ht t (by simp))]
    simp [or_assoc]
theorem fold_mem {n : Nat} : ∀ {ts : List Nat} {s : List Bool × List Nat}, Weak n s → (∀ t ∈ ts, t < n) → ∀ k, (k ∈ (ts.foldl lookB s).2 ↔ k ∈ s.2 ∨ (k ∈ ts ∧ s.1.getD k false = false))
  | [], _, _, _, k => by simp
  | t :: ts, s, h, ht, k => by
    rw [List.foldl_cons, fold_mem (h.look (ht t (by simp))) (fun x hx => ht x (by simp [hx])), look_mem]
    have hg := look_get h (ht t (by simp)) k
    by_cases h1 : s.1.getD k false = true
    · have h2 := hg.2 (.inl h1)
      simp only [h1, h2]; simp
    · have h1' : s.1.getD k false = false := by simpa using h1
      by_cases h3 : k = t
      · have h2 := hg.2 (.inr h3)
        simp only [h1', h2]; simp [h3]
      · have h2 : (lookB s t).1.getD k false = false := by
          cases h4 : (lookB s t).1.getD k false
          · rfl
          · rcases hg.1 h4 with h5 | h5
            · exact absurd h5 h1
            · exact absurd h5 h3
        simp only [h1', h2]; simp [h3]
structure Inv (l : List Ins) (s : List Bool × List Nat) : Prop where
  weak : Weak l.length s
  zero : s.1.getD 0 false = true
  sound : ∀ x, s.1.getD x false = true → Reached l x
  mem : ∀ x ∈ s.2, s.1.getD x false = true
  full : ∀ x, s.1.getD x false = true → x ∈ s.2 ∨ ∀ t ∈ nextsI l x, s.1.getD t false = true
theorem Inv.start {l : List Ins} (hf : Formed l) : Inv l (lookB (List.replicate l.length false, []) 0) := by
  have hz : ∀ k, (List.replicate l.length false).getD k false = false := fun k => by
    simp only [List.getD, List.getElem?_replicate]; split <;> rfl
  have hw : Weak l.length (List.replicate l.length false, []) := ⟨by simp, by simp⟩
  have hg := look_get hw hf.pos
  have hm := fun k => look_mem (s := (List.replicate l.length false, [])) (t := 0) k
  refine ⟨hw.look hf.pos, (hg 0).2 (.inr rfl), fun x hx => ?_, fun x hx => ?_, fun x hx => ?_⟩
  · rcases (hg x).1 hx with h | h
    · rw [hz] at h; cases h
    · subst h; exact .zero
  · rcases (hm x).1 hx with h | ⟨h, _⟩
    · simp at h
    · subst h; exact (hg 0).2 (.inr rfl)
  · rcases (hg x).1 hx with h | h
    · rw [hz] at h; cases h
    · subst h; exact .inl ((hm 0).2 (.inr ⟨rfl, hz 0⟩))
theorem Inv.next {l : List Ins} (hf : Formed l) {o : List Bool} {m : Nat} {b : List Nat} (h : Inv l (o, m :: b)) : Inv l ((nextsI l m).foldl lookB (o, b)) ∧ mBfs l.length ((nextsI l m).foldl lookB (o, b)) < mBfs l.length (o, m :: b) := by
  obtain ⟨hw, hz, hs, hm, hfu⟩ := h
  dsimp only at hz hs hm hfu
  have hmo : o.getD m false = true := hm m (by simp)
  have hml : m < l.length := (hs m hmo).lt hf
  have hw' : Weak l.length (o, b) := ⟨hw.len, by have := hw.few; simp only [List.length_cons] at this; dsimp only; omega⟩
  have hts : ∀ t ∈ nextsI l m, t < l.length := fun t ht => (nexts_lt hf hml t ht).2
  have hg := fold_get hw' hts
  have hmm := fold_mem hw' hts
  refine ⟨⟨hw'.fold hts, (hg 0).2 (.inl hz), fun x hx => ?_, fun x hx => ?_, fun x hx => ?_⟩, ?_⟩
  · rcases (hg x).1 hx with h | h
    · exact hs x h
    · exact .step m x (hs m hmo) rfl h
  · rcases (hmm x).1 hx with h | ⟨h, _⟩
    · exact (hg x).2 (.inl (hm x (by simp; exact .inr h)))
    · exact (hg x).2 (.inr h)
  · by_cases h1 : o.getD x false = true
    · rcases hfu x h1 with h2 | h2
      · rcases List.mem_cons.1 h2 with h3 | h3
        · subst h3
          exact .inr fun t ht => (hg t).2 (.inr ht)
        · exact .inl ((hmm x).2 (.inl h3))
      · exact .inr fun t ht => (hg t).2 (.inl (h2 t ht))
    · rcases (hg x).1 hx with h2 | h2
      · exact absurd h2 h1
      · exact .inl ((hmm x).2 (.inr ⟨h2, by simpa using h1⟩))
  · have := mBfs_fold hw' hts
    unfold mBfs at this ⊢
    simp only [List.length_cons] at this ⊢
    omega
theorem getD_ext {o o' : List Bool} (hl : o.length = o'.length) (h : ∀ k, o.getD k false = o'.getD k false) : o = o' := by
  refine List.ext_getElem hl fun k h1 h2 => ?_
  have := h k
  simpa [List.getD, h1, h2] using this
theorem Inv.done {l : List Ins} (hf : Formed l) {o : List Bool} (h : Inv l (o, [])) : o = reachI l := by
  have hiff : ∀ x, o.getD x false = true ↔ Reached l x := by
    intro x
    constructor
    · exact h.sound x
    · intro hx
      induction hx with
      | zero => exact h.zero
      | step n t _ _ ht ih =>
        rcases h.full n ih with h1 | h1
        · simp at h1
        · exact h1 t ht
  refine getD_ext (by rw [reachI_length]; exact h.weak.len) fun k => ?_
  have := (hiff k).trans (reachI_iff hf k).symm
  exact Bool.eq_iff_iff.2 this
end Go.Proofs.W

namespace Go.Proofs.W
open Go.Vl
set_option maxRecDepth 100000

def intA (n : Nat) : AV := int n
def reachH (s0 s1 s2 s3 nx nn n : Nat) (s : List Bool × List Nat) : Heap :=
  ⟨[((3, s3), .c [.oc (2, s2)]), ((2, s2), .ch n (s.2.map intA)), ((1, s1), .c [.hs (0, s0) 0 n n]), ((0, s0), .c (s.1.map boolA))], [], nx, nn⟩
theorem u4 : Tryz.prog.underlying 4 = some .bool := by kernel_rfl
theorem b4 : Tryz.prog.bytesOf 4 = 1 := by kernel_rfl
theorem c4 : Tryz.prog.cellsOf 4 = 1 := by kernel_rfl
theorem look_spec (s0 s1 s2 s3 nx nn n : Nat) (s : List Bool × List Nat) (t : Nat) (hn : s.1.length = n) (hb : s.1.getD t false = false → s.2.length < n) (ht : t < n) (hle : n ≤ 1000000000) :
    ECall Tryz.prog 57 [int t, .bp (1, s1) 0, .bp (3, s3) 0] (reachH s0 s1 s2 s3 nx nn n s) fun _ h' => ∃ k, h' = reachH s0 s1 s2 s3 nx k n (lookB s t) := by
  obtain ⟨o, b⟩ := s
  dsimp only at hn hb
  have hit : (0 + (Int.toNat (t : Int)) * Tryz.prog.cellsOf 4) = t := by rw [c4]; omega
  refine ecall_of_aw Tryz.func57 rfl rfl ?_
  (repeat((conv=>whnf);first|apply ω0|apply ω1|apply ω2|refine τ3 rfl ?_|refine τ4 rfl ?_|refine ⟨rfl,?_⟩|apply τa|refine τb rfl ?_|refine ⟨⟨by kernel_rfl,by kernel_rfl⟩,?_⟩|refine ⟨by decide,?_⟩|apply τt|apply τf))
  refine ⟨⟨by omega, by omega⟩, splitO_eq (b := .bp (0, s0) t) (congrArg (AV.bp (0, s0)) hit) ?_⟩
  (conv => whnf)
  refine ⟨⟨rfl, by simp; omega⟩, splitO_eq (b := boolA (o.getD t false)) (getD_map (by dsimp only; omega)) ?_⟩
  (repeat((conv=>whnf);first|apply ω0|apply ω1|apply ω2|refine τ3 rfl ?_|refine τ4 rfl ?_|refine ⟨rfl,?_⟩|apply τa|refine τb rfl ?_|refine ⟨⟨by kernel_rfl,by kernel_rfl⟩,?_⟩|refine ⟨by decide,?_⟩|apply τt|apply τf))
  intro c h1; cases c
  · (repeat((conv=>whnf);first|apply ω0|apply ω2|refine τ3 rfl ?_|refine τ4 rfl ?_|refine ⟨rfl,?_⟩|apply τa|refine τb rfl ?_|refine ⟨⟨by kernel_rfl,by kernel_rfl⟩,?_⟩|refine ⟨by decide,?_⟩|apply τt|apply τf))
    refine aw_region ?_
    (repeat((conv=>whnf);first|apply ω0|apply ω2|refine τ3 rfl ?_|refine τ4 rfl ?_|refine ⟨rfl,?_⟩|apply τa|refine τb rfl ?_|refine ⟨⟨by kernel_rfl,by kernel_rfl⟩,?_⟩|refine ⟨by decide,?_⟩|apply τt|apply τf))
    refine ⟨⟨by omega, by omega⟩, splitO_eq (b := .bp (0, s0) t) (congrArg (AV.bp (0, s0)) hit) ?_⟩
    have hsp : splice (o.map boolA) t [AV.v (.bool true)] = (setT o t).map boolA := splice_one (f := boolA) (x := true) (by omega)
    (conv => whnf)
    refine ⟨⟨rfl, by simp; omega⟩, ?_⟩
    rw [hsp]
    (repeat((conv=>whnf);first|apply ω0|apply ω2|refine τ3 rfl ?_|refine τ4 rfl ?_|refine ⟨rfl,?_⟩|apply τa|refine τb rfl ?_|refine ⟨⟨by kernel_rfl,by kernel_rfl⟩,?_⟩|refine ⟨by decide,?_⟩|apply τt|apply τf))
    have hb := hb h1.symm
    refine aw_regionC ?_
    (repeat((conv=>whnf);first|apply ω0|apply ω2|refine τ3 rfl ?_|refine τ4 rfl ?_|refine ⟨rfl,?_⟩|apply τa|refine τb rfl ?_|refine ⟨⟨by kernel_rfl,by kernel_rfl⟩,?_⟩|refine ⟨by decide,?_⟩|apply τt|apply τf))
    (conv => whnf)
    refine ⟨⟨rfl, by simp; omega⟩, ?_⟩
    (repeat((conv=>whnf);first|apply ω0|apply ω1|apply ω2|refine τ3 rfl ?_|refine τ4 rfl ?_|refine ⟨rfl,?_⟩|apply τa|refine τb rfl ?_|refine ⟨⟨by kernel_rfl,by kernel_rfl⟩,?_⟩|refine ⟨by decide,?_⟩|apply τt|apply τf))
    refine ret_is rfl ⟨nn, ?_⟩
    unfold lookB
    rw [if_neg (by rw [← h1]; simp)]
    unfold reachH
    dsimp only
    rw [List.map_append]
    rfl
  · (repeat((conv=>whnf);first|apply ω0|apply ω1|apply ω2|refine τ3 rfl ?_|refine τ4 rfl ?_|refine ⟨rfl,?_⟩|apply τa|refine τb rfl ?_|refine ⟨⟨by kernel_rfl,by kernel_rfl⟩,?_⟩|refine ⟨by decide,?_⟩|apply τt|apply τf))
    refine ret_is rfl ⟨nn, ?_⟩
    unfold lookB
    rw [if_pos h1.symm]
    rfl
set_option maxHeartbeats 4000000 in
theorem reach_spec (l : List Ins) (hok : okL l) (hl : l.length ≤ 1000000000) : Tells Tryz.prog 30 [inss l] (bools (if (checkI l).2 = 0 then reachI l else [])) := by
  refine tells_of_aw Tryz.func30 rfl rfl fun nx => ?_
  (repeat((conv=>whnf);first|apply ω0|apply ω1|apply ω2|refine τ3 rfl ?_|refine τ4 rfl ?_|refine ⟨rfl,?_⟩|apply τa|refine τb rfl ?_|refine ⟨⟨by kernel_rfl,by kernel_rfl⟩,?_⟩|refine ⟨by decide,?_⟩|apply τt|apply τf))
  refine aop_tells rfl rfl (check_spec l hok hl) ⟨AVle.refl _, trivial⟩ fun nx => ?_
  (repeat((conv=>whnf);first|apply ω0|apply ω1|apply ω2|refine τ3 rfl ?_|refine τ4 rfl ?_|refine ⟨rfl,?_⟩|apply τa|refine τb rfl ?_|refine ⟨⟨by kernel_rfl,by kernel_rfl⟩,?_⟩|refine ⟨by decide,?_⟩|apply τt|apply τf))
  intro c g1; cases c
  · have g1 := bne_no g1
    have hf : Formed l := by
      refine formed_of ?_
      have h2 : (checkI l).2 = 0 := by omega
      unfold checkI at h2
      split at h2
      · exact absurd h2 (by assumption)
      · rename_i h3; omega
    have hle := hf.le
    have hpos := hf.pos
    rw [if_pos (by omega)]
    (repeat((conv=>whnf);first|apply ω0|apply ω1|apply ω2|refine τ3 rfl ?_|refine τ4 rfl ?_|refine ⟨rfl,?_⟩|apply τa|refine τb rfl ?_|refine ⟨⟨by kernel_rfl,by kernel_rfl⟩,?_⟩|refine ⟨by decide,?_⟩|apply τt|apply τf))
    (conv => whnf)
    refine ⟨by omega, by omega, by rw [b4]; omega, by omega, ?_⟩
    (repeat((conv=>whnf);first|apply ω0|apply ω1|apply ω2|refine τ3 rfl ?_|refine τ4 rfl ?_|refine ⟨rfl,?_⟩|apply τa|refine τb rfl ?_|refine ⟨⟨by kernel_rfl,by kernel_rfl⟩,?_⟩|refine ⟨by decide,?_⟩|apply τt|apply τf))
    (conv => whnf)
    refine ⟨by omega, by omega, by show ((8 : Nat) : Int) * _ ≤ _; omega, ?_⟩
    (repeat((conv=>whnf);first|apply ω0|apply ω1|apply ω2|refine τ3 rfl ?_|refine τ4 rfl ?_|refine ⟨rfl,?_⟩|apply τa|refine τb rfl ?_|refine ⟨⟨by kernel_rfl,by kernel_rfl⟩,?_⟩|refine ⟨by decide,?_⟩|apply τt|apply τf))
    have hI := Inv.start hf
    have hlook := look_spec nx (nx + 1) (nx + 2) (nx + 3) (nx + 4) 4 l.length (List.replicate l.length false, []) 0 (by simp) (fun _ => hpos) hpos (by omega)
    generalize lookB (List.replicate l.length false, []) 0 = s at hI hlook
    refine aop_call rfl rfl (ECall.tell (ECall.args (bs := [int ((0 : Nat) : Int), .bp (1, nx + 1) 0, .bp (3, nx + 3) 0]) ⟨AVle.refl _, AVle.refl _, AVle.refl _, trivial⟩ hlook)
      ⟨rfl, OwnLe.refl _, rfl, OwnLe.refl _, rfl, OwnLe.refl _, rfl, OwnLe.of_eq ?_, trivial⟩ trivial rfl) fun r h' hq => ?_
    · rw [List.map_replicate]; rfl
    obtain ⟨k, rfl⟩ := hq
    refine Named.same ?_
    (repeat((conv=>whnf);first|apply ω0|apply ω1|apply ω2|refine τ3 rfl ?_|refine τ4 rfl ?_|refine ⟨rfl,?_⟩|apply τa|refine τb rfl ?_|refine ⟨⟨by kernel_rfl,by kernel_rfl⟩,?_⟩|refine ⟨by decide,?_⟩|apply τt|apply τf))
    refine aw_loop (fun x : (List Bool × List Nat) × Nat × Nat => mk 45 [(0, inss l), (5, .bp (1, nx + 1) 0), (6, .bp (3, nx + 3) 0), (7, .fn (.func 57) [] [.bp (1, nx + 1) 0, .bp (3, nx + 3) 0])] (reachH nx (nx + 1) (nx + 2) (nx + 3) x.2.1 x.2.2 l.length x.1)) (fun x => Inv l x.1) (fun x => mBfs l.length x.1) ?_ ?_
    · exact ⟨(s, _, _), hI, ele_mk rfl rfl ⟨AVle.refl _, AVle.refl _, AVle.refl _, AVle.refl _, trivial⟩⟩
    · rintro ⟨⟨o, b⟩, nx', nn'⟩ hI'
      dsimp only at hI'
      (repeat((conv=>whnf);first|apply ω0|apply ω2|refine τ3 rfl ?_|refine τ4 rfl ?_|refine ⟨rfl,?_⟩|apply τa|refine τb rfl ?_|refine ⟨⟨by kernel_rfl,by kernel_rfl⟩,?_⟩|refine ⟨by decide,?_⟩|apply τt|apply τf))
      refine aw_region ?_
      (repeat((conv=>whnf);first|apply ω0|apply ω2|refine τ3 rfl ?_|refine τ4 rfl ?_|refine ⟨rfl,?_⟩|apply τa|refine τb rfl ?_|refine ⟨⟨by kernel_rfl,by kernel_rfl⟩,?_⟩|refine ⟨by decide,?_⟩|apply τt|apply τf))
      refine aw_regionC ?_
      cases b with
      | nil =>
        have ho := Inv.done hf hI'
        subst ho
        (repeat((conv=>whnf);first|apply ω0|apply ω2|refine τ3 rfl ?_|refine τ4 rfl ?_|refine ⟨rfl,?_⟩|apply τa|refine τb rfl ?_|refine ⟨⟨by kernel_rfl,by kernel_rfl⟩,?_⟩|refine ⟨by decide,?_⟩|apply τt|apply τf))
        refine ⟨fun _ => ?_, fun x rest h => by cases h⟩
        (repeat ((conv=>whnf);first|refine ω0 ?_|refine ω1 ?_|refine ω2 ?_|refine ω3 ?_|refine ω4 rfl ?_|refine ω5 rfl ?_|refine ω6 ?_|refine ω7 ?_|refine ⟨rfl,?_⟩|refine ⟨trivial,?_⟩|refine ⟨⟨rfl,Nat.le_of_ble_eq_true rfl⟩,?_⟩|refine ⟨⟨by kernel_rfl,by kernel_rfl⟩,?_⟩|refine ⟨by decide,?_⟩|refine lit_true ?_|refine lit_false ?_))
        refine AW.le (ele_freeze (L := [(2, bools (reachI l))]) (bx := []) (pm := []) (nn := 0) [((0, nx), .c ((reachI l).map boolA))] rfl rfl (.cons _ (.cons _ (.cons _ (.cons_cons _ .slnil)))) .slnil ⟨?_, trivial⟩) ?_
        · show Frz _ (.hs (0, nx) 0 l.length l.length) (.sl 1 (reachI l).length fun k => boolA ((reachI l).getD k false))
          have hrl := reachI_length l
          rw [hrl]
          refine Frz.hs1 (cs := (reachI l).map boolA) (.head _) (Nat.le_refl _) (by rw [List.length_map, hrl]; exact Nat.le_refl _) (fun _ _ => rfl) fun k hk => ?_
          rw [List.getElem?_map, List.getElem?_eq_getElem (by omega)]
          simp [List.getD, hrl, hk]
        (repeat((conv=>whnf);first|apply ω0|apply ω1|apply ω2|refine τ3 rfl ?_|refine τ4 rfl ?_|refine ⟨rfl,?_⟩|apply τa|refine τb rfl ?_|refine ⟨⟨by kernel_rfl,by kernel_rfl⟩,?_⟩|refine ⟨by decide,?_⟩|apply τt|apply τf))
        refine ret_tells rfl (AVle.refl _)
      | cons m b =>
        (repeat((conv=>whnf);first|apply ω0|apply ω2|refine τ3 rfl ?_|refine τ4 rfl ?_|refine ⟨rfl,?_⟩|apply τa|refine τb rfl ?_|refine ⟨⟨by kernel_rfl,by kernel_rfl⟩,?_⟩|refine ⟨by decide,?_⟩|apply τt|apply τf))
        refine ⟨fun h => (by cases h), fun x rest h => ?_⟩
        obtain ⟨rfl, rfl⟩ := List.cons.inj h
        have hm : m < l.length := (hI'.sound m (hI'.mem m (by simp))).lt hf
        have hts : ∀ t ∈ nextsI l m, t < l.length := fun t ht => (nexts_lt hf hm t ht).2
        have hw' : Weak l.length (o, b) := ⟨hI'.weak.len, by have := hI'.weak.few; simp only [List.length_cons] at this; dsimp only; omega⟩
        have hnext := Inv.next hf hI'
        have hshort : (nextsI l m).length ≤ 2 := by unfold nextsI; repeat' split
                                                    all_goals simp
        (repeat((conv=>whnf);first|apply ω0|apply ω1|apply ω2|refine τ3 rfl ?_|refine τ4 rfl ?_|refine ⟨rfl,?_⟩|apply τa|refine τb rfl ?_|refine ⟨⟨by kernel_rfl,by kernel_rfl⟩,?_⟩|refine ⟨by decide,?_⟩|apply τt|apply τf))
        refine aop_tells rfl rfl (next_spec l hok hf m hm) ⟨AVle.refl _, AVle.refl _, trivial⟩ fun nx3 => ?_
        have hl2 : ∀ j, j < (nextsI l m).length → (nextsI l m).getD j 0 ∈ nextsI l m := fun j hj => by simp [List.getD, hj]
        generalize nextsI l m = ts at hts hnext hshort hl2 ⊢
        (repeat((conv=>whnf);first|apply ω0|apply ω1|apply ω2|refine τ3 rfl ?_|refine τ4 rfl ?_|refine ⟨rfl,?_⟩|apply τa|refine τb rfl ?_|refine ⟨⟨by kernel_rfl,by kernel_rfl⟩,?_⟩|refine ⟨by decide,?_⟩|apply τt|apply τf))
        refine aw_loop (fun x : Nat × Nat × Nat => mk 45 [(0, inss l), (5, .bp (1, nx + 1) 0), (6, .bp (3, nx + 3) 0), (7, .fn (.func 57) [] [.bp (1, nx + 1) 0, .bp (3, nx + 3) 0]), (35, ints ts), (36, int ts.length), (37, int x.1)]
          (reachH nx (nx + 1) (nx + 2) (nx + 3) x.2.1 x.2.2 l.length ((ts.take x.1).foldl lookB (o, b)))) (fun x => x.1 ≤ ts.length) (fun x => ts.length - x.1) ?_ ?_
        · exact ⟨(0, _, _), by dsimp only; omega, ele_mk rfl rfl ⟨AVle.refl _, AVle.refl _, AVle.refl _, AVle.refl _, AVle.refl _, AVle.refl _, AVle.refl _, trivial⟩⟩
        · rintro ⟨j, nx5, nn5⟩ hj
          dsimp only at hj
          (repeat((conv=>whnf);first|apply ω0|apply ω1|apply ω2|refine τ3 rfl ?_|refine τ4 rfl ?_|refine ⟨rfl,?_⟩|apply τa|refine τb rfl ?_|refine ⟨⟨by kernel_rfl,by kernel_rfl⟩,?_⟩|refine ⟨by decide,?_⟩|apply τt|apply τf))
          intro c g5; cases c
          · have g5 := not_of g5
            dsimp only at g5
            obtain rfl : j = ts.length := by omega
            (repeat((conv=>whnf);first|apply ω0|apply ω1|apply ω2|refine τ3 rfl ?_|refine τ4 rfl ?_|refine ⟨rfl,?_⟩|apply τa|refine τb rfl ?_|refine ⟨⟨by kernel_rfl,by kernel_rfl⟩,?_⟩|refine ⟨by decide,?_⟩|apply τt|apply τf))
            exact back ((ts.take ts.length).foldl lookB (o, b), nx5, nn5) (by rw [List.take_length]; exact hnext.1) (by rw [List.take_length]; exact hnext.2) (ele_mk rfl rfl ⟨AVle.refl _, AVle.refl _, AVle.refl _, AVle.refl _, trivial⟩)
          · have g5 := yes_of g5
            dsimp only at g5
            have hj' : j < ts.length := by omega
            have htj := hts _ (hl2 j hj')
            (repeat((conv=>whnf);first|apply ω0|apply ω1|apply ω2|refine τ3 rfl ?_|refine τ4 rfl ?_|refine ⟨rfl,?_⟩|apply τa|refine τb rfl ?_|refine ⟨⟨by kernel_rfl,by kernel_rfl⟩,?_⟩|refine ⟨by decide,?_⟩|apply τt|apply τf))
            refine ⟨⟨by dsimp only; omega, by dsimp only; omega⟩, ?_⟩
            (repeat((conv=>whnf);first|apply ω0|apply ω1|apply ω2|refine τ3 rfl ?_|refine τ4 rfl ?_|refine ⟨rfl,?_⟩|apply τa|refine τb rfl ?_|refine ⟨⟨by kernel_rfl,by kernel_rfl⟩,?_⟩|refine ⟨by decide,?_⟩|apply τt|apply τf))
            have hwj : Weak l.length ((ts.take j).foldl lookB (o, b)) := hw'.fold fun t ht => hts t (List.mem_of_mem_take ht)
            refine aop_call rfl rfl (ECall.args (bs := [int (ts.getD j 0 : Nat), .bp (1, nx + 1) 0, .bp (3, nx + 3) 0]) ⟨AVle.refl _, AVle.refl _, AVle.refl _, trivial⟩
              (look_spec nx (nx + 1) (nx + 2) (nx + 3) nx5 nn5 l.length ((ts.take j).foldl lookB (o, b)) (ts.getD j 0) hwj.len (fun h => hwj.room htj h) htj (by omega))) fun r h' hq => ?_
            obtain ⟨k5, rfl⟩ := hq
            refine Named.same ?_
            (repeat((conv=>whnf);first|apply ω0|apply ω1|apply ω2|refine τ3 rfl ?_|refine τ4 rfl ?_|refine ⟨rfl,?_⟩|apply τa|refine τb rfl ?_|refine ⟨⟨by kernel_rfl,by kernel_rfl⟩,?_⟩|refine ⟨by decide,?_⟩|apply τt|apply τf))
            have hst : (ts.take (j + 1)).foldl lookB (o, b) = lookB ((ts.take j).foldl lookB (o, b)) (ts.getD j 0) := by rw [take_getD 0 hj', List.foldl_append]; rfl
            refine back (j + 1, nx5, k5) (by dsimp only; omega) (by dsimp only; omega) (ele_tell _ _ rfl rfl (List.Sublist.refl _) .slnil ?_ trivial ⟨AVle.refl _, AVle.refl _, AVle.refl _, AVle.refl _, AVle.refl _, AVle.refl _, le_int (wrap_succ (by dsimp only; omega)), trivial⟩)
            dsimp only
            rw [hst]
            exact BxLe.refl _
  · have g1 := bne_yes g1
    (repeat((conv=>whnf);first|apply ω0|apply ω1|apply ω2|refine τ3 rfl ?_|refine τ4 rfl ?_|refine ⟨rfl,?_⟩|apply τa|refine τb rfl ?_|refine ⟨⟨by kernel_rfl,by kernel_rfl⟩,?_⟩|refine ⟨by decide,?_⟩|apply τt|apply τf))
    refine ret_tells rfl ?_
    rw [if_neg (by omega)]
    exact AVle.os_sl0
end Go.Proofs.W

namespace Go.Proofs.W
open Go.Vl
set_option maxRecDepth 100000

def insF (l : List Ins) (k : Nat) : AV := insA (l.getD k ins0)
def nm3 : Option Nat → Option Vl.Id
  | none => none
  | some k => some (3, k)
def prB (s0 s1 s2 : Nat) (at' : List Nat) (out : List Ins) (oi : Option Nat) : List (Vl.Id × Own) :=
  [((2, s2), .c [.os 4 out.length (insF out) (nm3 oi)]), ((1, s1), .c [.hs (0, s0) 0 at'.length at'.length]), ((0, s0), .c (at'.map intA))]
theorem c3 : Tryz.prog.cellsOf 3 = 1 := by kernel_rfl
def toI (at' : List Nat) (n k : Nat) : Int := IntKind.i64.wrap ((at'.getD (n + 1 + k) 0 : Nat) - (at'.getD (n + 1) 0 : Nat))
theorem to_spec (at' : List Nat) (n k : Nat) (hk : n + 1 + k < at'.length) (hl : at'.length ≤ 1000000) :
    Tells Tryz.prog 32 [int k, .rp [ints at'], .rp [int n]] (int (toI at' n k)) := by
  have w1 : IntKind.i64.wrap ((n : Int) + 1) = ((n + 1 : Nat) : Int) := wrap_succ (by omega)
  have w2 : IntKind.i64.wrap (((n + 1 : Nat) : Int) + (k : Int)) = ((n + 1 + k : Nat) : Int) := by rw [wrap_id (by omega) (by omega)]; omega
  refine tells_of_aw Tryz.func32 rfl rfl fun nx => ?_
  (repeat((conv=>whnf);first|apply ω0|apply ω1|apply ω2|refine τ3 rfl ?_|refine τ4 rfl ?_|refine ⟨rfl,?_⟩|apply τa|refine τb rfl ?_|refine ⟨⟨by kernel_rfl,by kernel_rfl⟩,?_⟩|refine ⟨by decide,?_⟩|apply τt|apply τf))
  (refine aw_draw 13 ?_ ?_ ?_ ?_; (· kernel_rfl); (· kernel_rfl); (· kernel_rfl))
  (repeat((conv=>whnf);first|apply ω0|apply ω1|apply ω2|refine τ3 rfl ?_|refine τ4 rfl ?_|refine ⟨rfl,?_⟩|apply τa|refine τb rfl ?_|refine ⟨⟨by kernel_rfl,by kernel_rfl⟩,?_⟩|refine ⟨by decide,?_⟩|apply τt|apply τf))
  (conv => whnf)
  rw [w1, w2]
  refine ⟨⟨by omega, by omega⟩, ?_⟩
  (repeat((conv=>whnf);first|apply ω0|apply ω1|apply ω2|refine τ3 rfl ?_|refine τ4 rfl ?_|refine ⟨rfl,?_⟩|apply τa|refine τb rfl ?_|refine ⟨⟨by kernel_rfl,by kernel_rfl⟩,?_⟩|refine ⟨by decide,?_⟩|apply τt|apply τf))
  (conv => whnf)
  rw [w1]
  refine ⟨⟨by omega, by omega⟩, ?_⟩
  (repeat((conv=>whnf);first|apply ω0|apply ω1|apply ω2|refine τ3 rfl ?_|refine τ4 rfl ?_|refine ⟨rfl,?_⟩|apply τa|refine τb rfl ?_|refine ⟨⟨by kernel_rfl,by kernel_rfl⟩,?_⟩|refine ⟨by decide,?_⟩|apply τt|apply τf))
  exact ret_tells rfl (AVle.refl _)
def prAt (at' : List Nat) (n : Nat) (i : Ins) (k : Nat) : Ins :=
  if k = 13 then { i with k := (toI at' n i.k).toNat } else if 25 ≤ k then { i with jt := (toI at' n i.jt).toNat, jf := (toI at' n i.jf).toNat } else i
theorem u32_wrap {x : Int} {b : Nat} (h : 0 ≤ x ∧ x ≤ b) (hb : b < 4294967296) : IntKind.u32.wrap x = (x.toNat : Int) := by
  rw [IntWalk.u32_in _ (by omega)]; omega
theorem u8_wrap {x : Int} {b : Nat} (h : 0 ≤ x ∧ x ≤ b) (hb : b < 256) : IntKind.u8.wrap x = (x.toNat : Int) := by
  rw [IntWalk.u8_in _ (by omega)]; omega
theorem frz_at {bs : List (Nat × Own)} {s0 : Nat} {l : List Nat} (hm : (s0, .c (l.map intA)) ∈ bs) : Frz bs (.hs (0, s0) 0 l.length l.length) (ints l) :=
  Frz.hs1 (cs := l.map intA) hm (Nat.le_refl _) (by rw [List.length_map]; exact Nat.le_refl _) (fun _ _ => rfl) fun k hk => by
    rw [List.getElem?_map, List.getElem?_eq_getElem hk]
    simp [List.getD, hk]; rfl
theorem leave_spec (s0 s1 s2 nx : Nat) (at' : List Nat) (out : List Ins) (oi : Option Nat) (i : Ins) (n k : Nat) (hi : i.ok) (hl : at'.length ≤ 1000000) (ho : out.length ≤ 100000) (h0 : oi = none → out = [])
    (h1 : k = 13 → n + 1 + i.k < at'.length) (h2 : 25 ≤ k → n + 1 + i.jt < at'.length ∧ n + 1 + i.jf < at'.length)
    (hm : ∀ x, n + 1 + x < at'.length → 0 ≤ toI at' n x ∧ toI at' n x ≤ x) :
    ECall Tryz.prog 31 [int n, insA i, int k, .bp (1, s1) 0, .bp (2, s2) 0] ⟨prB s0 s1 s2 at' out oi, pmOf (nm3 oi) (out.length * 4), nx, 4⟩
      fun _ h' => ∃ id nx' nn', h' = ⟨prB s0 s1 s2 at' (out ++ [prAt at' n i k]) (some id), pmOf (nm3 (some id)) ((out ++ [prAt at' n i k]).length * 4), nx', nn'⟩ := by
  obtain ⟨i1, i2, i3, i4⟩ := hi
  refine ECall.wk (ecall_of_aw Tryz.func31 rfl rfl ?_)
  (repeat((conv=>whnf);first|apply ω0|apply ω1|apply ω2|refine τ3 rfl ?_|refine τ4 rfl ?_|refine ⟨rfl,?_⟩|apply τa|refine τb rfl ?_|refine ⟨⟨by kernel_rfl,by kernel_rfl⟩,?_⟩|refine ⟨by decide,?_⟩|apply τt|apply τf))
  intro c g1; cases c
  · have g1 := not_of g1
    (repeat((conv=>whnf);first|apply ω0|apply ω1|apply ω2|refine τ3 rfl ?_|refine τ4 rfl ?_|refine ⟨rfl,?_⟩|apply τa|refine τb rfl ?_|refine ⟨⟨by kernel_rfl,by kernel_rfl⟩,?_⟩|refine ⟨by decide,?_⟩|apply τt|apply τf))
    intro c g2; cases c
    · have g2 := not_of g2
      have hX : insA (prAt at' n i k) = .ag [u16 i.code, u8 i.jt, u8 i.jf, u32 i.k] := by unfold prAt; rw [if_neg (by omega), if_neg (by omega)]; rfl
      (repeat((conv=>whnf);first|apply ω0|apply ω2|refine τ3 rfl ?_|refine τ4 rfl ?_|refine ⟨rfl,?_⟩|apply τa|refine τb rfl ?_|refine ⟨⟨by kernel_rfl,by kernel_rfl⟩,?_⟩|refine ⟨by decide,?_⟩|apply τt|apply τf))
      refine aw_region ?_
      rcases oi with _ | id
      · obtain rfl := h0 rfl
        (repeat((conv=>whnf);first|apply ω0|apply ω1|apply ω2|refine τ3 rfl ?_|refine τ4 rfl ?_|refine ⟨rfl,?_⟩|apply τa|refine τb rfl ?_|refine ⟨⟨by kernel_rfl,by kernel_rfl⟩,?_⟩|refine ⟨by decide,?_⟩|apply τt|apply τf))
        refine ⟨oneRow_one rfl, by show (0 + 1) * 8 ≤ _; omega, by decide, ?_⟩
        (repeat((conv=>whnf);first|apply ω0|apply ω1|apply ω2|refine τ3 rfl ?_|refine τ4 rfl ?_|refine ⟨rfl,?_⟩|apply τa|refine τb rfl ?_|refine ⟨⟨by kernel_rfl,by kernel_rfl⟩,?_⟩|refine ⟨by decide,?_⟩|apply τt|apply τf))
        refine ret_is rfl ⟨_, _, AVle.refl _, hle_tell (nn := 4) (bx := prB s0 s1 s2 at' [prAt at' n i k] (some (nx + 2))) (pm := [((3, nx + 2), 4)]) _ _ rfl (.cons _ (.cons _ (.cons_cons _ (.cons_cons _ (.cons_cons _ .slnil))))) (.cons_cons _ .slnil) ?_ ?_, nx + 2, _, 4, rfl⟩
        · exact ⟨rfl, ⟨AVle.trans (b := .os 4 1 (insF [prAt at' n i k]) _) (AVle.os_fun (appF_one (fun k hk => absurd hk (Nat.not_lt_zero _)) hX.symm)) (AVle.os_nm rfl), trivial⟩, rfl, OwnLe.refl _, rfl, OwnLe.refl _, trivial⟩
        · exact ⟨rfl, rfl, trivial⟩
      · (repeat((conv=>whnf);first|apply ω0|apply ω1|apply ω2|refine τ3 rfl ?_|refine τ4 rfl ?_|refine ⟨rfl,?_⟩|apply τa|refine τb rfl ?_|refine ⟨⟨by kernel_rfl,by kernel_rfl⟩,?_⟩|refine ⟨by decide,?_⟩|apply τt|apply τf))
        refine ⟨oneRow_one rfl, by show (out.length + 1) * 8 ≤ _; omega, by omega, ?_⟩
        (repeat((conv=>whnf);first|apply ω0|apply ω1|apply ω2|refine τ3 rfl ?_|refine τ4 rfl ?_|refine ⟨rfl,?_⟩|apply τa|refine τb rfl ?_|refine ⟨⟨by kernel_rfl,by kernel_rfl⟩,?_⟩|refine ⟨by decide,?_⟩|apply τt|apply τf))
        refine ret_is rfl ⟨_, _, AVle.refl _, hle_tell (nn := 4) (bx := prB s0 s1 s2 at' (out ++ [prAt at' n i k]) (some (nx + 2))) (pm := [((3, nx + 2), (out ++ [prAt at' n i k]).length * 4)]) _ _ rfl (.cons _ (.cons _ (.cons_cons _ (.cons_cons _ (.cons_cons _ .slnil))))) (.cons_cons _ .slnil) ?_ ?_, nx + 2, _, 4, rfl⟩
        · refine ⟨rfl, ⟨AVle.trans (b := .os 4 (out.length + 1) (insF (out ++ [prAt at' n i k])) _) (AVle.os_fun (appF_one (fun k hk => ?_) ?_)) ?_, trivial⟩, rfl, OwnLe.refl _, rfl, OwnLe.refl _, trivial⟩
          · simp [insF, List.getD, List.getElem?_append_left hk, hk]
          · simp [insF, List.getD]; exact hX.symm
          · simp only [List.length_append, List.length_cons, List.length_nil]; exact AVle.os_nm rfl
        · exact ⟨rfl, by simp; rfl, trivial⟩
    · have g2 := yes_of g2
      have hwk : IntKind.i64.wrap (i.jt : Int) = i.jt := wrap_id (by omega) (by omega)
      have hwf : IntKind.i64.wrap (i.jf : Int) = i.jf := wrap_id (by omega) (by omega)
      obtain ⟨j1, j2⟩ := h2 (by omega)
      have hX : insA (prAt at' n i k) = .ag [u16 i.code, u8 (IntKind.u8.wrap (toI at' n i.jt)), u8 (IntKind.u8.wrap (toI at' n i.jf)), u32 i.k] := by
        unfold prAt; rw [if_neg (by omega), if_pos (by omega), u8_wrap (hm i.jt j1) i2, u8_wrap (hm i.jf j2) i3]; rfl
      (repeat((conv=>whnf);first|apply ω0|apply ω1|apply ω2|refine τ3 rfl ?_|refine τ4 rfl ?_|refine ⟨rfl,?_⟩|apply τa|refine τb rfl ?_|refine ⟨⟨by kernel_rfl,by kernel_rfl⟩,?_⟩|refine ⟨by decide,?_⟩|apply τt|apply τf))
      refine aw_drawZ (ds := .int .i64) (kd := .u8) 13 11 (by kernel_rfl) (by kernel_rfl) (by kernel_rfl) rfl rfl rfl (by kernel_rfl) (by kernel_rfl) (by decide) ?_
      (repeat((conv=>whnf);first|apply ω0|apply ω1|apply ω2|refine τ3 rfl ?_|refine τ4 rfl ?_|refine ⟨rfl,?_⟩|apply τa|refine τb rfl ?_|refine ⟨⟨by kernel_rfl,by kernel_rfl⟩,?_⟩|refine ⟨by decide,?_⟩|apply τt|apply τf))
      refine ex_yields (yields_look rfl rfl (to_spec at' n i.jt j1 hl) ⟨Frz.of_le (le_int hwk), Frz.bpL (.tail _ (.tail _ (.tail _ (.head _)))) ⟨frz_at (.tail _ (.tail _ (.tail _ (.tail _ (.head _))))), trivial⟩, Frz.bpL (.tail _ (.head _)) ⟨Frz.refl _, trivial⟩, trivial⟩ (Flat.v _)) ?_
      (repeat((conv=>whnf);first|apply ω0|apply ω1|apply ω2|refine τ3 rfl ?_|refine τ4 rfl ?_|refine ⟨rfl,?_⟩|apply τa|refine τb rfl ?_|refine ⟨⟨by kernel_rfl,by kernel_rfl⟩,?_⟩|refine ⟨by decide,?_⟩|apply τt|apply τf))
      refine ex_yields (yields_look rfl rfl (to_spec at' n i.jf j2 hl) ⟨Frz.of_le (le_int hwf), Frz.bpL (.tail _ (.tail _ (.tail _ (.head _)))) ⟨frz_at (.tail _ (.tail _ (.tail _ (.tail _ (.head _))))), trivial⟩, Frz.bpL (.tail _ (.head _)) ⟨Frz.refl _, trivial⟩, trivial⟩ (Flat.v _)) ?_
      (repeat((conv=>whnf);first|apply ω0|apply ω1|apply ω2|refine τ3 rfl ?_|refine τ4 rfl ?_|refine ⟨rfl,?_⟩|apply τa|refine τb rfl ?_|refine ⟨⟨by kernel_rfl,by kernel_rfl⟩,?_⟩|refine ⟨by decide,?_⟩|apply τt|apply τf))
      refine ⟨⟨_, _, rfl⟩, ?_⟩
      (repeat((conv=>whnf);first|apply ω0|apply ω2|refine τ3 rfl ?_|refine τ4 rfl ?_|refine ⟨rfl,?_⟩|apply τa|refine τb rfl ?_|refine ⟨⟨by kernel_rfl,by kernel_rfl⟩,?_⟩|refine ⟨by decide,?_⟩|apply τt|apply τf))
      refine aw_region ?_
      rcases oi with _ | id
      · obtain rfl := h0 rfl
        (repeat((conv=>whnf);first|apply ω0|apply ω1|apply ω2|refine τ3 rfl ?_|refine τ4 rfl ?_|refine ⟨rfl,?_⟩|apply τa|refine τb rfl ?_|refine ⟨⟨by kernel_rfl,by kernel_rfl⟩,?_⟩|refine ⟨by decide,?_⟩|apply τt|apply τf))
        refine ⟨oneRow_one rfl, by show (0 + 1) * 8 ≤ _; omega, by decide, ?_⟩
        (repeat((conv=>whnf);first|apply ω0|apply ω1|apply ω2|refine τ3 rfl ?_|refine τ4 rfl ?_|refine ⟨rfl,?_⟩|apply τa|refine τb rfl ?_|refine ⟨⟨by kernel_rfl,by kernel_rfl⟩,?_⟩|refine ⟨by decide,?_⟩|apply τt|apply τf))
        refine ret_is rfl ⟨_, _, AVle.refl _, hle_tell (nn := 4) (bx := prB s0 s1 s2 at' [prAt at' n i k] (some (nx + 2))) (pm := [((3, nx + 2), 4)]) _ _ rfl (.cons _ (.cons _ (.cons_cons _ (.cons_cons _ (.cons_cons _ .slnil))))) (.cons_cons _ .slnil) ?_ ?_, nx + 2, _, 4, rfl⟩
        · exact ⟨rfl, ⟨AVle.trans (b := .os 4 1 (insF [prAt at' n i k]) _) (AVle.os_fun (appF_one (fun k hk => absurd hk (Nat.not_lt_zero _)) hX.symm)) (AVle.os_nm rfl), trivial⟩, rfl, OwnLe.refl _, rfl, OwnLe.refl _, trivial⟩
        · exact ⟨rfl, rfl, trivial⟩
      · (repeat((conv=>whnf);first|apply ω0|apply ω1|apply ω2|refine τ3 rfl ?_|refine τ4 rfl ?_|refine ⟨rfl,?_⟩|apply τa|refine τb rfl ?_|refine ⟨⟨by kernel_rfl,by kernel_rfl⟩,?_⟩|refine ⟨by decide,?_⟩|apply τt|apply τf))
        refine ⟨oneRow_one rfl, by show (out.length + 1) * 8 ≤ _; omega, by omega, ?_⟩
        (repeat((conv=>whnf);first|apply ω0|apply ω1|apply ω2|refine τ3 rfl ?_|refine τ4 rfl ?_|refine ⟨rfl,?_⟩|apply τa|refine τb rfl ?_|refine ⟨⟨by kernel_rfl,by kernel_rfl⟩,?_⟩|refine ⟨by decide,?_⟩|apply τt|apply τf))
        refine ret_is rfl ⟨_, _, AVle.refl _, hle_tell (nn := 4) (bx := prB s0 s1 s2 at' (out ++ [prAt at' n i k]) (some (nx + 2))) (pm := [((3, nx + 2), (out ++ [prAt at' n i k]).length * 4)]) _ _ rfl (.cons _ (.cons _ (.cons_cons _ (.cons_cons _ (.cons_cons _ .slnil))))) (.cons_cons _ .slnil) ?_ ?_, nx + 2, _, 4, rfl⟩
        · refine ⟨rfl, ⟨AVle.trans (b := .os 4 (out.length + 1) (insF (out ++ [prAt at' n i k])) _) (AVle.os_fun (appF_one (fun k hk => ?_) ?_)) ?_, trivial⟩, rfl, OwnLe.refl _, rfl, OwnLe.refl _, trivial⟩
          · simp [insF, List.getD, List.getElem?_append_left hk, hk]
          · simp [insF, List.getD]; exact hX.symm
          · simp only [List.length_append, List.length_cons, List.length_nil]; exact AVle.os_nm rfl
        · exact ⟨rfl, by simp; rfl, trivial⟩
  · have g1 := yes_of g1
    have hwk : IntKind.i64.wrap (i.k : Int) = i.k := wrap_id (by omega) (by omega)
    have hX : insA (prAt at' n i k) = .ag [u16 i.code, u8 i.jt, u8 i.jf, u32 (IntKind.u32.wrap (toI at' n i.k))] := by
      unfold prAt; rw [if_pos (by omega), u32_wrap (hm i.k (h1 (by omega))) i4]; rfl
    (repeat((conv=>whnf);first|apply ω0|apply ω1|apply ω2|refine τ3 rfl ?_|refine τ4 rfl ?_|refine ⟨rfl,?_⟩|apply τa|refine τb rfl ?_|refine ⟨⟨by kernel_rfl,by kernel_rfl⟩,?_⟩|refine ⟨by decide,?_⟩|apply τt|apply τf))
    refine AOp.of_yields (yields_look rfl rfl (to_spec at' n i.k (h1 (by omega)) hl) ⟨Frz.of_le (le_int hwk), Frz.bpL (.tail _ (.tail _ (.tail _ (.head _)))) ⟨frz_at (.tail _ (.tail _ (.tail _ (.tail _ (.head _))))), trivial⟩, Frz.bpL (.tail _ (.head _)) ⟨Frz.refl _, trivial⟩, trivial⟩ (Flat.v _)) ?_
    (repeat((conv=>whnf);first|apply ω0|apply ω2|refine τ3 rfl ?_|refine τ4 rfl ?_|refine ⟨rfl,?_⟩|apply τa|refine τb rfl ?_|refine ⟨⟨by kernel_rfl,by kernel_rfl⟩,?_⟩|refine ⟨by decide,?_⟩|apply τt|apply τf))
    refine aw_region ?_
    rcases oi with _ | id
    · obtain rfl := h0 rfl
      (repeat((conv=>whnf);first|apply ω0|apply ω1|apply ω2|refine τ3 rfl ?_|refine τ4 rfl ?_|refine ⟨rfl,?_⟩|apply τa|refine τb rfl ?_|refine ⟨⟨by kernel_rfl,by kernel_rfl⟩,?_⟩|refine ⟨by decide,?_⟩|apply τt|apply τf))
      refine ⟨oneRow_one rfl, by show (0 + 1) * 8 ≤ _; omega, by decide, ?_⟩
      (repeat((conv=>whnf);first|apply ω0|apply ω1|apply ω2|refine τ3 rfl ?_|refine τ4 rfl ?_|refine ⟨rfl,?_⟩|apply τa|refine τb rfl ?_|refine ⟨⟨by kernel_rfl,by kernel_rfl⟩,?_⟩|refine ⟨by decide,?_⟩|apply τt|apply τf))
      refine ret_is rfl ⟨_, _, AVle.refl _, hle_tell (nn := 4) (bx := prB s0 s1 s2 at' [prAt at' n i k] (some (nx + 2))) (pm := [((3, nx + 2), 4)]) _ _ rfl (.cons _ (.cons _ (.cons_cons _ (.cons_cons _ (.cons_cons _ .slnil))))) (.cons_cons _ .slnil) ?_ ?_, nx + 2, _, 4, rfl⟩
      · exact ⟨rfl, ⟨AVle.trans (b := .os 4 1 (insF [prAt at' n i k]) _) (AVle.os_fun (appF_one (fun k hk => absurd hk (Nat.not_lt_zero _)) hX.symm)) (AVle.os_nm rfl), trivial⟩, rfl, OwnLe.refl _, rfl, OwnLe.refl _, trivial⟩
      · exact ⟨rfl, rfl, trivial⟩
    · (repeat((conv=>whnf);first|apply ω0|apply ω1|apply ω2|refine τ3 rfl ?_|refine τ4 rfl ?_|refine ⟨rfl,?_⟩|apply τa|refine τb rfl ?_|refine ⟨⟨by kernel_rfl,by kernel_rfl⟩,?_⟩|refine ⟨by decide,?_⟩|apply τt|apply τf))
      refine ⟨oneRow_one rfl, by show (out.length + 1) * 8 ≤ _; omega, by omega, ?_⟩
      (repeat((conv=>whnf);first|apply ω0|apply ω1|apply ω2|refine τ3 rfl ?_|refine τ4 rfl ?_|refine ⟨rfl,?_⟩|apply τa|refine τb rfl ?_|refine ⟨⟨by kernel_rfl,by kernel_rfl⟩,?_⟩|refine ⟨by decide,?_⟩|apply τt|apply τf))
      refine ret_is rfl ⟨_, _, AVle.refl _, hle_tell (nn := 4) (bx := prB s0 s1 s2 at' (out ++ [prAt at' n i k]) (some (nx + 2))) (pm := [((3, nx + 2), (out ++ [prAt at' n i k]).length * 4)]) _ _ rfl (.cons _ (.cons _ (.cons_cons _ (.cons_cons _ (.cons_cons _ .slnil))))) (.cons_cons _ .slnil) ?_ ?_, nx + 2, _, 4, rfl⟩
      · refine ⟨rfl, ⟨AVle.trans (b := .os 4 (out.length + 1) (insF (out ++ [prAt at' n i k])) _) (AVle.os_fun (appF_one (fun k hk => ?_) ?_)) ?_, trivial⟩, rfl, OwnLe.refl _, rfl, OwnLe.refl _, trivial⟩
        · simp [insF, List.getD, List.getElem?_append_left hk, hk]
        · simp [insF, List.getD]; exact hX.symm
        · simp only [List.length_append, List.length_cons, List.length_nil]; exact AVle.os_nm rfl
      · exact ⟨rfl, by simp; rfl, trivial⟩
end Go.Proofs.W

namespace Go.Proofs.W
open Go.Vl
set_option maxRecDepth 100000

def reachedOf (l : List Ins) : List Bool := if (checkI l).2 = 0 then reachI l else []
theorem reachedOf_len (l : List Ins) : (reachedOf l).length ≤ l.length := by
  unfold reachedOf; split
  · rw [reachI_length]; exact Nat.le_refl _
  · simp
theorem reached_spec {α : Type} (l : List Ins) (hok : okL l) (hl : l.length ≤ 1000000000) (B : α → List (Vl.Id × Own)) (M : α → List (Vl.Id × Nat)) (N cb : Nat) (caps : List AV) (I : Nat → α → Prop)
    (hcb : ∀ n x nx, n < (reachedOf l).length → (reachedOf l).getD n false = true → I n x → ECall Tryz.prog cb ([int n, insA (l.getD n ins0), int (kind l n)] ++ caps) ⟨B x, M x, nx, N⟩ fun _ h' => ∃ x' nx' nn', h' = ⟨B x', M x', nx', nn'⟩ ∧ I (n + 1) x')
    (hskip : ∀ n x, n < (reachedOf l).length → (reachedOf l).getD n false = false → I n x → I (n + 1) x) (x0 : α) (nx : Nat) (h0 : I 0 x0) :
    ECall Tryz.prog 14 [inss l, .fn (.func cb) [] caps] ⟨B x0, M x0, nx, N⟩ fun _ h' => ∃ x nx' nn', h' = ⟨B x, M x, nx', nn'⟩ ∧ I (reachedOf l).length x := by
  have hlr := reachedOf_len l
  refine ecall_of_aw Tryz.func14 rfl rfl ?_
  (repeat((conv=>whnf);first|apply ω0|apply ω1|apply ω2|refine τ3 rfl ?_|refine τ4 rfl ?_|refine ⟨rfl,?_⟩|apply τa|refine τb rfl ?_|refine ⟨⟨by kernel_rfl,by kernel_rfl⟩,?_⟩|refine ⟨by decide,?_⟩|apply τt|apply τf))
  have hr : Tells Tryz.prog 30 [inss l] (bools (reachedOf l)) := reach_spec l hok hl
  refine aop_tells rfl rfl hr ⟨AVle.refl _, trivial⟩ fun nx => ?_
  generalize reachedOf l = o at hcb hskip hlr ⊢
  (repeat((conv=>whnf);first|apply ω0|apply ω1|apply ω2|refine τ3 rfl ?_|refine τ4 rfl ?_|refine ⟨rfl,?_⟩|apply τa|refine τb rfl ?_|refine ⟨⟨by kernel_rfl,by kernel_rfl⟩,?_⟩|refine ⟨by decide,?_⟩|apply τt|apply τf))
  refine aw_loop (fun s : Nat × α × Nat => mk 37 [(0, inss l), (1, .fn (.func cb) [] caps), (10, bools o), (11, int o.length), (12, int s.1)] ⟨B s.2.1, M s.2.1, s.2.2, N⟩) (fun s => s.1 ≤ o.length ∧ I s.1 s.2.1) (fun s => o.length - s.1) ?_ ?_
  · exact ⟨(0, x0, nx), ⟨by dsimp only; omega, h0⟩, ele_mk rfl rfl ⟨AVle.refl _, AVle.refl _, AVle.refl _, AVle.refl _, AVle.refl _, trivial⟩⟩
  · rintro ⟨i, x, nx'⟩ ⟨h1, h2⟩
    dsimp only at h1 h2
    (repeat((conv=>whnf);first|apply ω0|apply ω1|apply ω2|refine τ3 rfl ?_|refine τ4 rfl ?_|refine ⟨rfl,?_⟩|apply τa|refine τb rfl ?_|refine ⟨⟨by kernel_rfl,by kernel_rfl⟩,?_⟩|refine ⟨by decide,?_⟩|apply τt|apply τf))
    intro c g1; cases c
    · have g1 := not_of g1
      dsimp only at g1
      obtain rfl : i = o.length := by omega
      (repeat((conv=>whnf);first|apply ω0|apply ω1|apply ω2|refine τ3 rfl ?_|refine τ4 rfl ?_|refine ⟨rfl,?_⟩|apply τa|refine τb rfl ?_|refine ⟨⟨by kernel_rfl,by kernel_rfl⟩,?_⟩|refine ⟨by decide,?_⟩|apply τt|apply τf))
      exact ret_is rfl ⟨x, nx', N, rfl, h2⟩
    · have g1 := yes_of g1
      dsimp only at g1
      have hi : i < o.length := by omega
      have hki : (l.getD i ins0).ok := hok.get (by omega)
      (repeat((conv=>whnf);first|apply ω0|apply ω1|apply ω2|refine τ3 rfl ?_|refine τ4 rfl ?_|refine ⟨rfl,?_⟩|apply τa|refine τb rfl ?_|refine ⟨⟨by kernel_rfl,by kernel_rfl⟩,?_⟩|refine ⟨by decide,?_⟩|apply τt|apply τf))
      refine ⟨⟨by dsimp only; omega, by dsimp only; omega⟩, ?_⟩
      (repeat((conv=>whnf);first|apply ω0|apply ω1|apply ω2|refine τ3 rfl ?_|refine τ4 rfl ?_|refine ⟨rfl,?_⟩|apply τa|refine τb rfl ?_|refine ⟨⟨by kernel_rfl,by kernel_rfl⟩,?_⟩|refine ⟨by decide,?_⟩|apply τt|apply τf))
      intro c g2; cases c
      · (repeat((conv=>whnf);first|apply ω0|apply ω1|apply ω2|refine τ3 rfl ?_|refine τ4 rfl ?_|refine ⟨rfl,?_⟩|apply τa|refine τb rfl ?_|refine ⟨⟨by kernel_rfl,by kernel_rfl⟩,?_⟩|refine ⟨by decide,?_⟩|apply τt|apply τf))
        exact back (i + 1, x, nx') ⟨by dsimp only; omega, hskip i x hi g2.symm h2⟩ (by dsimp only; omega) (ele_mk rfl rfl ⟨AVle.refl _, AVle.refl _, AVle.refl _, AVle.refl _, le_int (wrap_succ (by dsimp only; omega)), trivial⟩)
      · (repeat((conv=>whnf);first|apply ω0|apply ω1|apply ω2|refine τ3 rfl ?_|refine τ4 rfl ?_|refine ⟨rfl,?_⟩|apply τa|refine τb rfl ?_|refine ⟨⟨by kernel_rfl,by kernel_rfl⟩,?_⟩|refine ⟨by decide,?_⟩|apply τt|apply τf))
        refine ⟨⟨by dsimp only; omega, by dsimp only; omega⟩, ?_⟩
        (repeat((conv=>whnf);first|apply ω0|apply ω1|apply ω2|refine τ3 rfl ?_|refine τ4 rfl ?_|refine ⟨rfl,?_⟩|apply τa|refine τb rfl ?_|refine ⟨⟨by kernel_rfl,by kernel_rfl⟩,?_⟩|refine ⟨by decide,?_⟩|apply τt|apply τf))
        refine aop_tells rfl rfl (of_kind (l.getD i ins0).code hki.1) ⟨AVle.refl _, trivial⟩ fun nx3 => ?_
        (repeat((conv=>whnf);first|apply ω0|apply ω1|apply ω2|refine τ3 rfl ?_|refine τ4 rfl ?_|refine ⟨rfl,?_⟩|apply τa|refine τb rfl ?_|refine ⟨⟨by kernel_rfl,by kernel_rfl⟩,?_⟩|refine ⟨by decide,?_⟩|apply τt|apply τf))
        (conv => whnf)
        refine forceL_intro ?_
        (repeat((conv=>whnf);first|apply ω0|apply ω1|apply ω2|refine τ3 rfl ?_|refine τ4 rfl ?_|refine ⟨rfl,?_⟩|apply τa|refine τb rfl ?_|refine ⟨⟨by kernel_rfl,by kernel_rfl⟩,?_⟩|refine ⟨by decide,?_⟩|apply τt|apply τf))
        refine ⟨⟨by dsimp only; omega, by dsimp only; omega⟩, ?_⟩
        (repeat((conv=>whnf);first|apply ω0|apply ω1|apply ω2|refine τ3 rfl ?_|refine τ4 rfl ?_|refine ⟨rfl,?_⟩|apply τa|refine τb rfl ?_|refine ⟨⟨by kernel_rfl,by kernel_rfl⟩,?_⟩|refine ⟨by decide,?_⟩|apply τt|apply τf))
        refine aop_call rfl rfl (hcb i x nx3 hi g2.symm h2) fun r h' hq => ?_
        obtain ⟨x', nx5, nn5, rfl, h5⟩ := hq
        refine Named.same ?_
        (repeat((conv=>whnf);first|apply ω0|apply ω1|apply ω2|refine τ3 rfl ?_|refine τ4 rfl ?_|refine ⟨rfl,?_⟩|apply τa|refine τb rfl ?_|refine ⟨⟨by kernel_rfl,by kernel_rfl⟩,?_⟩|refine ⟨by decide,?_⟩|apply τt|apply τf))
        exact back (i + 1, x', nx5) ⟨by dsimp only; omega, h5⟩ (by dsimp only; omega) (ele_keep rfl rfl (List.Sublist.refl _) (List.Sublist.refl _) ⟨AVle.refl _, AVle.refl _, AVle.refl _, AVle.refl _, le_int (wrap_succ (by dsimp only; omega)), trivial⟩)
end Go.Proofs.W

namespace Go.Proofs.W
open Go.Vl
set_option maxRecDepth 100000

theorem forceM_map {α : Type} {f : α → Value × AV} : ∀ {l : List α} {K : List (Value × AV) → Prop}, K (l.map f) → forceM (l.map f) K := forceM_intro
/-- A set of numbers as a map's entries. -/
def esN (k : IntKind) (l : List Nat) : List (Value × AV) := l.map fun n : Nat => (.int k (n : Int), .v (.bool true))
def addK (l : List Nat) (n : Nat) : List Nat := if n ∈ l then l else l ++ [n]
theorem addK_mem {l : List Nat} {n x : Nat} : x ∈ addK l n ↔ x ∈ l ∨ x = n := by
  unfold addK; split
  · rename_i h
    exact ⟨.inl, fun hx => hx.elim id fun e => e ▸ h⟩
  · simp
theorem addK_nodup {l : List Nat} {n : Nat} (h : l.Nodup) : (addK l n).Nodup := by
  unfold addK; split
  · exact h
  · rename_i hn
    rw [List.nodup_append]
    exact ⟨h, by simp, fun a ha b hb => by simp at hb; subst hb; exact fun e => hn (e ▸ ha)⟩
theorem addK_length {l : List Nat} {n : Nat} : (addK l n).length ≤ l.length + 1 := by unfold addK; split <;> simp
theorem kindEq_self (k : IntKind) : kindEq k k = true := by cases k <;> rfl
theorem esN_fit (k : IntKind) (l : List Nat) : keysFit (.int k) (esN k l) = true := by simp [keysFit, esN, keyFit, kindEq_self]
theorem esN_put (k : IntKind) (n : Nat) : ∀ l : List Nat, aput (.int k (n : Int)) (.v (.bool true)) (esN k l) = esN k (addK l n)
  | [] => rfl
  | x :: l => by
    have ih := esN_put k n l
    have hb : keyIs (.int k (n : Int)) (.int k (x : Int)) = (n == x) := by
      simp only [keyIs, kindEq_self, Bool.true_and]
      by_cases h : n = x
      · subst h; simp
      · have h' : ¬ (n : Int) = (x : Int) := by omega
        rw [beq_eq_false_iff_ne.2 h, beq_eq_false_iff_ne.2 h']
    show (bif keyIs (.int k (n : Int)) (.int k (x : Int)) then _ else _) = _
    rw [hb]
    by_cases h : n = x
    · subst h; simp [addK, esN]
    · have h1 : (n == x) = false := by simpa using h
      rw [h1, cond_false]
      show (_ : Value × AV) :: aput _ _ (esN k l) = _
      rw [ih]
      unfold addK
      by_cases hm : n ∈ l
      · rw [if_pos hm, if_pos (by simp [hm])]; rfl
      · rw [if_neg hm, if_neg (by simp [hm, h])]; rfl
theorem esN_keys (k : IntKind) (l : List Nat) : (esN k l).map (·.1) = (l.map Int.ofNat).map (Value.int k) := by simp [esN]
theorem NoId.fm {es : List (Value × AV)} (h : ∀ p ∈ es, NoId p.2) : NoId (.fm es) := fun w X g g' u hr => by
  cases hr with
  | fm _ b ents hb hx hn hk hr => exact .fm es b ents hb hx hn hk fun k p e hp he => h p (List.mem_of_getElem? hp) w X g g' _ (hr k p e hp he)
/-- The numbers of the reached instructions of a kind, up to one, in the order in which they are met. -/
def metTo (l : List Ins) (K : Nat) : Nat → List Nat
  | 0 => []
  | n + 1 => if (reachedOf l).getD n false = true ∧ kind l n = K then addK (metTo l K n) (l.getD n ins0).k else metTo l K n
theorem metTo_length (l : List Ins) (K : Nat) : ∀ n, (metTo l K n).length ≤ n
  | 0 => Nat.le_refl _
  | n + 1 => by
    have h := metTo_length l K n
    unfold metTo
    split
    · have := addK_length (l := metTo l K n) (n := (l.getD n ins0).k); omega
    · omega
theorem metTo_nodup (l : List Ins) (K : Nat) : ∀ n, (metTo l K n).Nodup
  | 0 => List.nodup_nil
  | n + 1 => by
    unfold metTo
    split
    · exact addK_nodup (metTo_nodup l K n)
    · exact metTo_nodup l K n
def natsI (k : IntKind) (l : List Int) : AV := slOf 1 (fun z => .v (.int k z)) 0 l
def loadsI (l : List Ins) : List Int := sortBy Go.Sort.ltInt ((metTo l 1 (reachedOf l).length).map Int.ofNat)
def endsI (l : List Ins) : List Int := sortBy Go.Sort.ltInt ((metTo l 14 (reachedOf l).length).map Int.ofNat)
def lB (s0 s1 : Nat) (x : List Nat) : List (Vl.Id × Own) := [((1, s1), .c [.om (0, s0)]), ((0, s0), .mp (esN .i64 x))]
theorem loads1_spec (l : List Ins) (hok : okL l) (s0 s1 n : Nat) (hn : n < (reachedOf l).length) (hr : (reachedOf l).getD n false = true) (nx : Nat) :
    ECall Tryz.prog 20 [int n, insA (l.getD n ins0), int (kind l n), .bp (1, s1) 0] ⟨lB s0 s1 (metTo l 1 n), [], nx, 2⟩ fun _ h' => ∃ nx' nn', h' = ⟨lB s0 s1 (metTo l 1 (n + 1)), [], nx', nn'⟩ := by
  refine ECall.wk (ecall_of_aw Tryz.func20 rfl rfl ?_)
  have hk32 : (l.getD n ins0).k < 4294967296 := (hok.get (by have := reachedOf_len l; omega)).2.2.2
  have wk : IntKind.i64.wrap ((l.getD n ins0).k : Int) = ((l.getD n ins0).k : Nat) := wrap_id (by omega) (by omega)
  have hs : metTo l 1 (n + 1) = if kind l n = 1 then addK (metTo l 1 n) (l.getD n ins0).k else metTo l 1 n := by
    show (if _ ∧ _ then _ else _) = _
    simp only [hr, true_and]
  rw [hs]
  clear hs hr hn
  generalize kind l n = K
  generalize metTo l 1 n = M
  generalize l.getD n ins0 = I at hk32 wk ⊢
  obtain ⟨ic, ij, if_, ik⟩ := I
  dsimp only at hk32 wk
  (repeat((conv=>whnf);first|apply ω0|apply ω1|apply ω2|refine τ3 rfl ?_|refine τ4 rfl ?_|refine ⟨rfl,?_⟩|apply τa|refine τb rfl ?_|refine ⟨⟨by kernel_rfl,by kernel_rfl⟩,?_⟩|refine ⟨by decide,?_⟩|apply τt|apply τf))
  intro c g; cases c
  · have g : ¬ K = 1 := fun h => by subst h; exact Bool.false_ne_true (g.trans (beq_self_eq_true _))
    rw [if_neg g]
    (repeat((conv=>whnf);first|apply ω0|apply ω1|apply ω2|refine τ3 rfl ?_|refine τ4 rfl ?_|refine ⟨rfl,?_⟩|apply τa|refine τb rfl ?_|refine ⟨⟨by kernel_rfl,by kernel_rfl⟩,?_⟩|refine ⟨by decide,?_⟩|apply τt|apply τf))
    exact ret_is rfl ⟨_, _, AVle.refl _, hle_tell (lB s0 s1 M) [] rfl (.cons _ (List.Sublist.refl _)) .slnil (BxLe.refl _) (PmEq.refl _), _, 2, rfl⟩
  · have g : K = 1 := Int.ofNat_inj.1 (eq_of_beq g.symm)
    rw [if_pos g]
    (repeat((conv=>whnf);first|apply ω0|apply ω1|apply ω2|refine τ3 rfl ?_|refine τ4 rfl ?_|refine ⟨rfl,?_⟩|apply τa|refine τb rfl ?_|refine ⟨by decide,?_⟩|apply τt|apply τf))
    refine ⟨⟨rfl, esN_fit _ _⟩, ?_⟩
    (repeat((conv=>whnf);first|apply ω0|apply ω1|apply ω2|refine τ3 rfl ?_|refine τ4 rfl ?_|refine ⟨rfl,?_⟩|apply τa|refine τb rfl ?_|refine ⟨by decide,?_⟩|apply τt|apply τf))
    refine forceM_intro ?_
    (repeat((conv=>whnf);first|apply ω0|apply ω1|apply ω2|refine τ3 rfl ?_|refine τ4 rfl ?_|refine ⟨rfl,?_⟩|apply τa|refine τb rfl ?_|refine ⟨⟨by kernel_rfl,by kernel_rfl⟩,?_⟩|refine ⟨by decide,?_⟩|apply τt|apply τf))
    exact ret_is rfl ⟨_, ⟨lB s0 s1 (addK M ik), [], _, 2⟩, AVle.refl _, hle_tell _ [] rfl (.cons _ (List.Sublist.refl _)) .slnil ⟨rfl, OwnLe.refl _, rfl, OwnLe.of_eq (congrArg Own.mp (by dsimp only; rw [wk]; exact esN_put .i64 ik M)), trivial⟩ (PmEq.refl _), _, 2, rfl⟩
theorem loads_spec (l : List Ins) (hok : okL l) (hl : l.length ≤ 1000000) : Tells Tryz.prog 9 [inss l] (natsI .i64 (loadsI l)) := by
  have hlr := reachedOf_len l
  have hml := metTo_length l 1 (reachedOf l).length
  refine tells_of_aw Tryz.func9 rfl rfl fun nx => ?_
  (repeat((conv=>whnf);first|apply ω0|apply ω1|apply ω2|refine τ3 rfl ?_|refine τ4 rfl ?_|refine ⟨rfl,?_⟩|apply τa|refine τb rfl ?_|refine ⟨⟨by kernel_rfl,by kernel_rfl⟩,?_⟩|refine ⟨by decide,?_⟩|apply τt|apply τf))
  have hcall := fun (s0 s1 nx : Nat) => reached_spec (α := List Nat) l hok (by omega) (lB s0 s1) (fun _ => []) 2 20 [.bp (1, s1) 0] (fun n x => x = metTo l 1 n)
    (fun n x nx hn hr hx => by subst hx; exact (loads1_spec l hok s0 s1 n hn hr nx).mono fun r h' ⟨nx', nn', hh⟩ => ⟨_, nx', nn', hh, rfl⟩)
    (fun n x hn hr hx => by subst hx; show _ = (if _ ∧ _ then _ else _); rw [if_neg (fun hh => Bool.false_ne_true (hr.symm.trans hh.1))]) [] nx rfl
  refine aop_callF (xs := [inss l, .fn (.func 20) [] [.bp (1, nx + 1) 0]]) [] [] 2 rfl rfl rfl rfl ⟨AVle.refl _, AVle.refl _, trivial⟩ (hcall nx (nx + 1) _) ⟨rfl, OwnLe.refl _, rfl, OwnLe.refl _, trivial⟩ (PmEq.refl _) rfl fun r h' hq => ?_
  obtain ⟨x, nx2, nn2, rfl, rfl⟩ := hq
  (repeat((conv=>whnf);first|apply ω0|apply ω2|refine τ3 rfl ?_|refine τ4 rfl ?_|refine ⟨rfl,?_⟩|apply τa|refine τb rfl ?_|refine ⟨⟨by kernel_rfl,by kernel_rfl⟩,?_⟩|refine ⟨by decide,?_⟩|apply τt|apply τf))
  refine AW.le (ele_freeze (L := [(3, .rp [.fm (esN .i64 (metTo l 1 (reachedOf l).length))])]) (bx := []) (pm := []) (nn := 2) [((1, nx + 1), .c [.om (0, nx)]), ((0, nx), .mp (esN .i64 (metTo l 1 (reachedOf l).length)))] rfl rfl (List.Sublist.refl _) .slnil ⟨Frz.bpL (.head _) ⟨Frz.om (.tail _ (.head _)), trivial⟩, trivial⟩) ?_
  (repeat((conv=>whnf);first|apply ω0|apply ω1|apply ω2|refine τ3 rfl ?_|refine τ4 rfl ?_|refine ⟨rfl,?_⟩|apply τa|refine τb rfl ?_|refine ⟨⟨by kernel_rfl,by kernel_rfl⟩,?_⟩|refine ⟨by decide,?_⟩|apply τt|apply τf))
  refine aop_tells rfl rfl (mapsKeys_int _) ⟨AVle.refl _, trivial⟩ fun nx3 => ?_
  (repeat((conv=>whnf);first|apply ω0|apply ω1|apply ω2|refine τ3 rfl ?_|refine τ4 rfl ?_|refine ⟨rfl,?_⟩|apply τa|refine τb rfl ?_|refine ⟨⟨by kernel_rfl,by kernel_rfl⟩,?_⟩|refine ⟨by decide,?_⟩|apply τt|apply τf))
  refine aop_tells rfl rfl (sorted_int _ ((metTo l 1 (reachedOf l).length).map Int.ofNat) (esN_keys _ _) (by simp [esN]; omega)) ⟨AVle.refl _, trivial⟩ fun nx4 => ?_
  (repeat((conv=>whnf);first|apply ω0|apply ω1|apply ω2|refine τ3 rfl ?_|refine τ4 rfl ?_|refine ⟨rfl,?_⟩|apply τa|refine τb rfl ?_|refine ⟨⟨by kernel_rfl,by kernel_rfl⟩,?_⟩|refine ⟨by decide,?_⟩|apply τt|apply τf))
  exact ret_tells rfl (AVle.refl _)
/-- Is an end with A among the first ones? -/
def metA (l : List Ins) : Nat → Bool
  | 0 => false
  | n + 1 => metA l n || ((reachedOf l).getD n false && decide (kind l n = 15))
def eB (s0 s1 s2 : Nat) (x : List Nat × Bool) : List (Vl.Id × Own) := [((2, s2), .c [.om (1, s1)]), ((1, s1), .mp (esN .u32 x.1)), ((0, s0), .c [.v (.bool x.2)])]
theorem ends1_spec (l : List Ins) (hok : okL l) (s0 s1 s2 n : Nat) (hn : n < (reachedOf l).length) (hr : (reachedOf l).getD n false = true) (nx : Nat) :
    ECall Tryz.prog 15 [int n, insA (l.getD n ins0), int (kind l n), .bp (2, s2) 0, .bp (0, s0) 0] ⟨eB s0 s1 s2 (metTo l 14 n, metA l n), [], nx, 3⟩ fun _ h' => ∃ nx' nn', h' = ⟨eB s0 s1 s2 (metTo l 14 (n + 1), metA l (n + 1)), [], nx', nn'⟩ := by
  refine ECall.wk (ecall_of_aw Tryz.func15 rfl rfl ?_)
  have hs : metTo l 14 (n + 1) = if kind l n = 14 then addK (metTo l 14 n) (l.getD n ins0).k else metTo l 14 n := by
    show (if _ ∧ _ then _ else _) = _
    simp only [hr, true_and]
  have hs2 : metA l (n + 1) = (metA l n || decide (kind l n = 15)) := by
    show (_ || (_ && _)) = _
    rw [hr, Bool.true_and]
  rw [hs, hs2]
  clear hs hs2 hr hn
  generalize kind l n = K
  generalize metTo l 14 n = M
  generalize metA l n = A
  generalize l.getD n ins0 = I
  obtain ⟨ic, ij, if_, ik⟩ := I
  (repeat((conv=>whnf);first|apply ω0|apply ω2|refine τ3 rfl ?_|refine τ4 rfl ?_|refine ⟨rfl,?_⟩|apply τa|refine τb rfl ?_|refine ⟨⟨by kernel_rfl,by kernel_rfl⟩,?_⟩|refine ⟨by decide,?_⟩|apply τt|apply τf))
  refine aw_region ?_
  (repeat((conv=>whnf);first|apply ω0|apply ω2|refine τ3 rfl ?_|refine τ4 rfl ?_|refine ⟨rfl,?_⟩|apply τa|refine τb rfl ?_|refine ⟨⟨by kernel_rfl,by kernel_rfl⟩,?_⟩|refine ⟨by decide,?_⟩|apply τt|apply τf))
  refine aw_mid2 (fun y : Nat => mk 18 [(2, int K), (4, .bp (0, s0) 0)] ⟨eB s0 s1 s2 (if K = 14 then addK M ik else M, A), [], y, 3⟩) (fun _ => True) ?_ ?_
  · (repeat((conv=>whnf);first|apply ω0|apply ω1|apply ω2|refine τ3 rfl ?_|refine τ4 rfl ?_|refine ⟨rfl,?_⟩|apply τa|refine τb rfl ?_|refine ⟨⟨by kernel_rfl,by kernel_rfl⟩,?_⟩|refine ⟨by decide,?_⟩|apply τt|apply τf))
    intro c g; cases c
    · have g : ¬ K = 14 := fun h => by subst h; exact Bool.false_ne_true (g.trans (beq_self_eq_true _))
      rw [if_neg g]
      (repeat((conv=>whnf);first|apply ω0|apply ω1|apply ω2|refine τ3 rfl ?_|refine τ4 rfl ?_|refine ⟨rfl,?_⟩|apply τa|refine τb rfl ?_|refine ⟨⟨by kernel_rfl,by kernel_rfl⟩,?_⟩|refine ⟨by decide,?_⟩|apply τt|apply τf))
      exact ⟨nx + 1, trivial, ele_tell (eB s0 s1 s2 (M, A)) _ rfl rfl (.cons _ (List.Sublist.refl _)) .slnil (BxLe.refl _) trivial ⟨AVle.refl _, AVle.refl _, trivial⟩⟩
    · have g : K = 14 := Int.ofNat_inj.1 (eq_of_beq g.symm)
      rw [if_pos g]
      (repeat((conv=>whnf);first|apply ω0|apply ω1|apply ω2|refine τ3 rfl ?_|refine τ4 rfl ?_|refine ⟨rfl,?_⟩|apply τa|refine τb rfl ?_|refine ⟨by decide,?_⟩|apply τt|apply τf))
      refine ⟨⟨rfl, esN_fit _ _⟩, ?_⟩
      (repeat((conv=>whnf);first|apply ω0|apply ω1|apply ω2|refine τ3 rfl ?_|refine τ4 rfl ?_|refine ⟨rfl,?_⟩|apply τa|refine τb rfl ?_|refine ⟨by decide,?_⟩|apply τt|apply τf))
      refine forceM_intro ?_
      (repeat((conv=>whnf);first|apply ω0|apply ω1|apply ω2|refine τ3 rfl ?_|refine τ4 rfl ?_|refine ⟨rfl,?_⟩|apply τa|refine τb rfl ?_|refine ⟨⟨by kernel_rfl,by kernel_rfl⟩,?_⟩|refine ⟨by decide,?_⟩|apply τt|apply τf))
      exact ⟨nx + 1, trivial, ele_tell _ _ rfl rfl (.cons _ (List.Sublist.refl _)) .slnil ⟨rfl, OwnLe.refl _, rfl, OwnLe.of_eq (congrArg Own.mp (esN_put .u32 ik M)), rfl, OwnLe.refl _, trivial⟩ trivial ⟨AVle.refl _, AVle.refl _, trivial⟩⟩
  · intro nx1 _
    generalize (if K = 14 then addK M ik else M) = M2
    have fin : ∀ c : Bool, c = (A || decide (K = 15)) → (∃ nx' nn', (⟨eB s0 s1 s2 (M2, c), [], nx1, 3⟩ : Heap) = ⟨eB s0 s1 s2 (M2, A || decide (K = 15)), [], nx', nn'⟩) := fun c h => ⟨nx1, 3, by rw [h]⟩
    cases A
    · (repeat((conv=>whnf);first|apply ω0|apply ω1|apply ω2|refine τ3 rfl ?_|refine τ4 rfl ?_|refine ⟨rfl,?_⟩|apply τa|refine τb rfl ?_|refine ⟨⟨by kernel_rfl,by kernel_rfl⟩,?_⟩|refine ⟨by decide,?_⟩|apply τt|apply τf))
      intro c g; cases c
      · (repeat((conv=>whnf);first|apply ω0|apply ω1|apply ω2|refine τ3 rfl ?_|refine τ4 rfl ?_|refine ⟨rfl,?_⟩|apply τa|refine τb rfl ?_|refine ⟨⟨by kernel_rfl,by kernel_rfl⟩,?_⟩|refine ⟨by decide,?_⟩|apply τt|apply τf))
        exact ret_is rfl ⟨_, ⟨eB s0 s1 s2 (M2, false), [], nx1, 3⟩, AVle.refl _, hle_tell _ [] rfl (List.Sublist.refl _) .slnil (BxLe.refl _) (PmEq.refl _), fin false (by rw [Bool.false_or]; exact (decide_eq_false (fun h => by subst h; exact Bool.false_ne_true (g.trans (beq_self_eq_true _)))).symm)⟩
      · (repeat((conv=>whnf);first|apply ω0|apply ω1|apply ω2|refine τ3 rfl ?_|refine τ4 rfl ?_|refine ⟨rfl,?_⟩|apply τa|refine τb rfl ?_|refine ⟨⟨by kernel_rfl,by kernel_rfl⟩,?_⟩|refine ⟨by decide,?_⟩|apply τt|apply τf))
        exact ret_is rfl ⟨_, ⟨eB s0 s1 s2 (M2, true), [], nx1, 3⟩, AVle.refl _, hle_tell _ [] rfl (List.Sublist.refl _) .slnil (BxLe.refl _) (PmEq.refl _), fin true (by rw [Bool.false_or]; exact (decide_eq_true (Int.ofNat_inj.1 (eq_of_beq g.symm))).symm)⟩
    · (repeat((conv=>whnf);first|apply ω0|apply ω1|apply ω2|refine τ3 rfl ?_|refine τ4 rfl ?_|refine ⟨rfl,?_⟩|apply τa|refine τb rfl ?_|refine ⟨⟨by kernel_rfl,by kernel_rfl⟩,?_⟩|refine ⟨by decide,?_⟩|apply τt|apply τf))
      exact ret_is rfl ⟨_, ⟨eB s0 s1 s2 (M2, true), [], nx1, 3⟩, AVle.refl _, hle_tell _ [] rfl (List.Sublist.refl _) .slnil (BxLe.refl _) (PmEq.refl _), fin true rfl⟩
theorem ends_spec (l : List Ins) (hok : okL l) (hl : l.length ≤ 1000000) : Tells Tryz.prog 7 [inss l] (.tup [natsI .u32 (endsI l), .v (.bool (metA l (reachedOf l).length))]) := by
  have hlr := reachedOf_len l
  have hml := metTo_length l 14 (reachedOf l).length
  refine tells_of_aw Tryz.func7 rfl rfl fun nx => ?_
  (repeat((conv=>whnf);first|apply ω0|apply ω1|apply ω2|refine τ3 rfl ?_|refine τ4 rfl ?_|refine ⟨rfl,?_⟩|apply τa|refine τb rfl ?_|refine ⟨⟨by kernel_rfl,by kernel_rfl⟩,?_⟩|refine ⟨by decide,?_⟩|apply τt|apply τf))
  have hcall := fun (s0 s1 s2 nx : Nat) => reached_spec (α := List Nat × Bool) l hok (by omega) (eB s0 s1 s2) (fun _ => []) 3 15 [.bp (2, s2) 0, .bp (0, s0) 0] (fun n x => x = (metTo l 14 n, metA l n))
    (fun n x nx hn hr hx => by subst hx; exact (ends1_spec l hok s0 s1 s2 n hn hr nx).mono fun r h' ⟨nx', nn', hh⟩ => ⟨_, nx', nn', hh, rfl⟩)
    (fun n x hn hr hx => by
      subst hx
      show _ = ((if _ ∧ _ then _ else _), (_ || (_ && _)))
      rw [if_neg (fun hh => Bool.false_ne_true (hr.symm.trans hh.1)), hr, Bool.false_and, Bool.or_false]) ([], false) nx rfl
  refine aop_callF (xs := [inss l, .fn (.func 15) [] [.bp (2, nx + 2) 0, .bp (0, nx) 0]]) [] [] 3 rfl rfl rfl rfl ⟨AVle.refl _, AVle.refl _, trivial⟩ (hcall nx (nx + 1) (nx + 2) _) ⟨rfl, OwnLe.refl _, rfl, OwnLe.refl _, rfl, OwnLe.refl _, trivial⟩ (PmEq.refl _) rfl fun r h' hq => ?_
  obtain ⟨x, nx2, nn2, rfl, rfl⟩ := hq
  have hso := sorted_u32 (esN .u32 (metTo l 14 (reachedOf l).length)) ((metTo l 14 (reachedOf l).length).map Int.ofNat) (esN_keys _ _) (by simp [esN]; omega)
  have hmk := mapsKeys_u32 (esN .u32 (metTo l 14 (reachedOf l).length))
  have hno : NoId (.fm (esN .u32 (metTo l 14 (reachedOf l).length))) := NoId.fm fun p hp => by obtain ⟨n, _, rfl⟩ := List.mem_map.1 hp; exact NoId.v _
  have hes : endsI l = sortBy Go.Sort.ltInt ((metTo l 14 (reachedOf l).length).map Int.ofNat) := rfl
  rw [← hes] at hso
  generalize endsI l = L at hso ⊢
  generalize metTo l 14 (reachedOf l).length = M at hso hmk hno ⊢
  generalize metA l (reachedOf l).length = A
  (repeat((conv=>whnf);first|apply ω0|apply ω2|refine τ3 rfl ?_|refine τ4 rfl ?_|refine ⟨rfl,?_⟩|apply τa|refine τb rfl ?_|refine ⟨⟨by kernel_rfl,by kernel_rfl⟩,?_⟩|refine ⟨by decide,?_⟩|apply τt|apply τf))
  refine AW.le (ele_freeze (L := [(3, .bp (0, nx) 0), (4, .rp [.fm (esN .u32 M)])]) (bx := [((0, nx), .c [.v (.bool A)])]) (pm := []) (nn := 3) [((2, nx + 2), .c [.om (1, nx + 1)]), ((1, nx + 1), .mp (esN .u32 M))] rfl rfl (List.Sublist.refl _) .slnil ⟨Frz.refl _, Frz.bpL (.head _) ⟨Frz.om (.tail _ (.head _)), trivial⟩, trivial⟩) ?_
  refine aw_mixN 5 [((0, nx), .c [.v (.bool A)])] (fun _ => false) (fun i => match i with | 1 => true | 2 => true | _ => false) [0, 1, 2, 3, 4] (by kernel_rfl) (by kernel_rfl) (HB.refl _) ?_
  (repeat((conv=>whnf);first|apply ω0|apply ω1|apply ω2|refine τ3 rfl ?_|refine τ4 rfl ?_|refine ⟨rfl,?_⟩|apply τa|refine τb rfl ?_|refine ⟨⟨by kernel_rfl,by kernel_rfl⟩,?_⟩|refine ⟨by decide,?_⟩|apply τt|apply τf))
  refine ⟨_, pure_tells rfl rfl rfl hmk ⟨AVle.refl _, trivial⟩ (NoId.fn (by simp) (by intro c hc; simp at hc; subst hc; exact NoId.rp (by intro c hc; simp at hc; subst hc; exact hno))), ?_⟩
  (repeat((conv=>whnf);first|apply ω0|apply ω1|apply ω2|refine τ3 rfl ?_|refine τ4 rfl ?_|refine ⟨rfl,?_⟩|apply τa|refine τb rfl ?_|refine ⟨⟨by kernel_rfl,by kernel_rfl⟩,?_⟩|refine ⟨by decide,?_⟩|apply τt|apply τf))
  refine ⟨_, pure_tells rfl rfl rfl hso ⟨AVle.refl _, trivial⟩ (NoId.sl (fun i hi c hc => by
    have hc2 : c = eA_u32 (L.getD i 0) := by simpa [AV.cells, eA_u32] using hc
    rw [hc2]; exact NoId.v _)), ?_⟩
  (repeat((conv=>whnf);first|apply ω0|apply ω1|apply ω2|refine τ3 rfl ?_|refine τ4 rfl ?_|refine ⟨rfl,?_⟩|apply τa|refine τb rfl ?_|refine ⟨⟨by kernel_rfl,by kernel_rfl⟩,?_⟩|refine ⟨by decide,?_⟩|apply τt|apply τf))
  exact ret_tells_all rfl ⟨⟨rfl, Nat.zero_lt_one⟩, trivial⟩ (AVle.refl _)
end Go.Proofs.W
