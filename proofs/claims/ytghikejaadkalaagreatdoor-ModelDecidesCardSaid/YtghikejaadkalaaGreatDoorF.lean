import Derived.Test.YtghikejaadkalaaGreatDoorE
import Derived.Test.YtghikejaadkalaaGreatDoorC
import Derived.Test.YtghikejaadkalaaGreatDoorD
set_option linter.unusedVariables false
set_option linter.unusedSimpArgs false
namespace Go.Proofs.W
open Go.Vl
set_option maxRecDepth 100000

def okN (n : Nat) : Bool := (decide (97 ≤ n) && decide (n ≤ 122)) || (decide (48 ≤ n) && decide (n ≤ 57)) || decide (n = 95)
theorem signs_all : ∀ n, n < 256 → signsB.data.toList.contains (UInt8.ofNat n) = okN n := by decide +kernel
theorem letters_all : ∀ n, n < 256 → lettersB.data.toList.contains (UInt8.ofNat n) = (decide (97 ≤ n) && decide (n ≤ 122)) := by decide +kernel
theorem signs_ok (b : UInt8) : signsB.data.toList.contains b = okN b.toNat := by
  have := signs_all b.toNat b.toNat_lt
  rwa [UInt8.ofNat_toNat] at this
theorem letters_ok (b : UInt8) : lettersB.data.toList.contains b = (decide (97 ≤ b.toNat) && decide (b.toNat ≤ 122)) := by
  have := letters_all b.toNat b.toNat_lt
  rwa [UInt8.ofNat_toNat] at this
/-- As the reference asks. -/
theorem nameB_ref (l : List UInt8) : nameB l = true ↔ l.length ≠ 0 ∧ l.length ≤ 30 ∧ 97 ≤ (l.headD 0).toNat ∧ (l.headD 0).toNat ≤ 122 ∧ l ≠ defaultL ∧ l ≠ x32L ∧ ∀ j, j < l.length → okN (l.getD j 0).toNat = true := by
  unfold nameB
  simp only [Bool.and_eq_true, Bool.not_eq_true', beq_eq_false_iff_ne, decide_eq_true_eq, letters_ok, List.all_eq_true, signs_ok]
  constructor
  · rintro ⟨h1, h2, h3, h4, h5, h6, h7⟩
    refine ⟨fun h => h1 (List.length_eq_zero_iff.1 h), h4, h6, h7, h2, h3, fun j hj => ?_⟩
    exact h5 _ (by simp [List.getD, hj])
  · rintro ⟨h1, h2, h3, h4, h5, h6, h7⟩
    refine ⟨fun h => h1 (by rw [h]; rfl), h5, h6, h2, fun x hx => ?_, h3, h4⟩
    obtain ⟨j, hj, rfl⟩ := List.getElem_of_mem hx
    have := h7 j hj
    simpa [List.getD, hj] using this
theorem nameB_false {l : List UInt8} (h : ¬ (l.length ≠ 0 ∧ l.length ≤ 30 ∧ 97 ≤ (l.headD 0).toNat ∧ (l.headD 0).toNat ≤ 122 ∧ l ≠ defaultL ∧ l ≠ x32L ∧ ∀ j, j < l.length → okN (l.getD j 0).toNat = true)) : nameB l = false := by
  rw [← nameB_ref] at h
  simpa using h
theorem okN_in {n : Nat} (h : (97 ≤ n ∧ n ≤ 122) ∨ (48 ≤ n ∧ n ≤ 57) ∨ n = 95) : okN n = true := by
  unfold okN
  simp only [Bool.or_eq_true, Bool.and_eq_true, decide_eq_true_eq]
  omega
theorem okN_out {n : Nat} (h : ¬ ((97 ≤ n ∧ n ≤ 122) ∨ (48 ≤ n ∧ n ≤ 57) ∨ n = 95)) : okN n = false := by
  unfold okN
  simp only [Bool.or_eq_false_iff, Bool.and_eq_false_iff, decide_eq_false_iff_not]
  omega
theorem ba_get (s : ByteArray) (i : Nat) : s.data.getD i 0 = s.data.toList.getD i 0 := by
  simp [Array.getD_eq_getD_getElem?, List.getD]
theorem head_getD (l : List UInt8) : l.headD 0 = l.getD 0 0 := by cases l <;> rfl
set_option maxHeartbeats 1000000 in
theorem name11_spec (s : ByteArray) : Tells Tryz.prog 88 [strA s] (boolA (nameB s.data.toList)) := by
  have hsz : s.size = s.data.toList.length := rfl
  refine tells_of_aw Tryz.func88 rfl rfl fun nx => ?_
  (repeat((conv=>whnf);first|apply ω0|apply ω1|apply ω2|refine τ3 rfl ?_|refine τ4 rfl ?_|refine ⟨rfl,?_⟩|apply τa|refine τb rfl ?_|refine ⟨⟨by kernel_rfl,by kernel_rfl⟩,?_⟩|refine ⟨by decide,?_⟩|apply τt|apply τf))
  intro c t1; cases c
  rotate_left
  · have t1 : ((s.size : Nat) : Int) = 0 := fct_b1.1 t1
    (repeat((conv=>whnf);first|apply ω0|apply ω1|apply ω2|refine τ3 rfl ?_|refine τ4 rfl ?_|refine ⟨rfl,?_⟩|apply τa|refine τb rfl ?_|refine ⟨⟨by kernel_rfl,by kernel_rfl⟩,?_⟩|refine ⟨by decide,?_⟩|apply τt|apply τf))
    exact ret_tells rfl (le_bool (nameB_false (fun h => h.1 (by omega))).symm)
  have t1 : ((s.size : Nat) : Int) ≠ 0 := fct_b0.1 t1
  (repeat((conv=>whnf);first|apply ω0|apply ω1|apply ω2|refine τ3 rfl ?_|refine τ4 rfl ?_|refine ⟨rfl,?_⟩|apply τa|refine τb rfl ?_|refine ⟨⟨by kernel_rfl,by kernel_rfl⟩,?_⟩|refine ⟨by decide,?_⟩|apply τt|apply τf))
  intro c t2; cases c
  rotate_left
  · have t2 : ((s.size : Nat) : Int) > 30 := yes_of t2
    (repeat((conv=>whnf);first|apply ω0|apply ω1|apply ω2|refine τ3 rfl ?_|refine τ4 rfl ?_|refine ⟨rfl,?_⟩|apply τa|refine τb rfl ?_|refine ⟨⟨by kernel_rfl,by kernel_rfl⟩,?_⟩|refine ⟨by decide,?_⟩|apply τt|apply τf))
    exact ret_tells rfl (le_bool (nameB_false (fun h => absurd h.2.1 (by omega))).symm)
  have t2 : ¬ ((s.size : Nat) : Int) > 30 := not_of t2
  (repeat((conv=>whnf);first|apply ω0|apply ω1|apply ω2|refine τ3 rfl ?_|refine τ4 rfl ?_|refine ⟨rfl,?_⟩|apply τa|refine τb rfl ?_|refine ⟨⟨by kernel_rfl,by kernel_rfl⟩,?_⟩|refine ⟨by decide,?_⟩|apply τt|apply τf))
  refine ⟨⟨by decide, by show (0 : Int) < (s.size : Int); omega⟩, ?_⟩
  (repeat((conv=>whnf);first|apply ω0|apply ω1|apply ω2|refine τ3 rfl ?_|refine τ4 rfl ?_|refine ⟨rfl,?_⟩|apply τa|refine τb rfl ?_|refine ⟨⟨by kernel_rfl,by kernel_rfl⟩,?_⟩|refine ⟨by decide,?_⟩|apply τt|apply τf))
  intro c t3; cases c
  rotate_left
  · have t3 : (((s.data.getD 0 0).toNat : Nat) : Int) < 97 := yes_of t3
    rw [ba_get, ← head_getD] at t3
    (repeat((conv=>whnf);first|apply ω0|apply ω1|apply ω2|refine τ3 rfl ?_|refine τ4 rfl ?_|refine ⟨rfl,?_⟩|apply τa|refine τb rfl ?_|refine ⟨⟨by kernel_rfl,by kernel_rfl⟩,?_⟩|refine ⟨by decide,?_⟩|apply τt|apply τf))
    exact ret_tells rfl (le_bool (nameB_false (fun h => absurd h.2.2.1 (by omega))).symm)
  have t3 : ¬ (((s.data.getD 0 0).toNat : Nat) : Int) < 97 := not_of t3
  rw [ba_get, ← head_getD] at t3
  (repeat((conv=>whnf);first|apply ω0|apply ω1|apply ω2|refine τ3 rfl ?_|refine τ4 rfl ?_|refine ⟨rfl,?_⟩|apply τa|refine τb rfl ?_|refine ⟨⟨by kernel_rfl,by kernel_rfl⟩,?_⟩|refine ⟨by decide,?_⟩|apply τt|apply τf))
  refine ⟨⟨by decide, by show (0 : Int) < (s.size : Int); omega⟩, ?_⟩
  (repeat((conv=>whnf);first|apply ω0|apply ω1|apply ω2|refine τ3 rfl ?_|refine τ4 rfl ?_|refine ⟨rfl,?_⟩|apply τa|refine τb rfl ?_|refine ⟨⟨by kernel_rfl,by kernel_rfl⟩,?_⟩|refine ⟨by decide,?_⟩|apply τt|apply τf))
  intro c t4; cases c
  rotate_left
  · have t4 : (((s.data.getD 0 0).toNat : Nat) : Int) > 122 := yes_of t4
    rw [ba_get, ← head_getD] at t4
    (repeat((conv=>whnf);first|apply ω0|apply ω1|apply ω2|refine τ3 rfl ?_|refine τ4 rfl ?_|refine ⟨rfl,?_⟩|apply τa|refine τb rfl ?_|refine ⟨⟨by kernel_rfl,by kernel_rfl⟩,?_⟩|refine ⟨by decide,?_⟩|apply τt|apply τf))
    exact ret_tells rfl (le_bool (nameB_false (fun h => absurd h.2.2.2.1 (by omega))).symm)
  have t4 : ¬ (((s.data.getD 0 0).toNat : Nat) : Int) > 122 := not_of t4
  rw [ba_get, ← head_getD] at t4
  (repeat((conv=>whnf);first|apply ω0|apply ω1|apply ω2|refine τ3 rfl ?_|refine τ4 rfl ?_|refine ⟨rfl,?_⟩|apply τa|refine τb rfl ?_|refine ⟨⟨by kernel_rfl,by kernel_rfl⟩,?_⟩|refine ⟨by decide,?_⟩|apply τt|apply τf))
  intro c t5
  rw [Lib.toList_data, Lib.toList_data] at t5
  cases c
  rotate_left
  · have t5 : s.data.toList = defaultL := beq_iff_eq.1 t5.symm
    (repeat((conv=>whnf);first|apply ω0|apply ω1|apply ω2|refine τ3 rfl ?_|refine τ4 rfl ?_|refine ⟨rfl,?_⟩|apply τa|refine τb rfl ?_|refine ⟨⟨by kernel_rfl,by kernel_rfl⟩,?_⟩|refine ⟨by decide,?_⟩|apply τt|apply τf))
    exact ret_tells rfl (le_bool (nameB_false (fun h => h.2.2.2.2.1 t5)).symm)
  have t5 : ¬ s.data.toList = defaultL := beq_eq_false_iff_ne.1 t5.symm
  (repeat((conv=>whnf);first|apply ω0|apply ω1|apply ω2|refine τ3 rfl ?_|refine τ4 rfl ?_|refine ⟨rfl,?_⟩|apply τa|refine τb rfl ?_|refine ⟨⟨by kernel_rfl,by kernel_rfl⟩,?_⟩|refine ⟨by decide,?_⟩|apply τt|apply τf))
  intro c t6
  rw [Lib.toList_data, Lib.toList_data] at t6
  cases c
  rotate_left
  · have t6 : s.data.toList = x32L := beq_iff_eq.1 t6.symm
    (repeat((conv=>whnf);first|apply ω0|apply ω1|apply ω2|refine τ3 rfl ?_|refine τ4 rfl ?_|refine ⟨rfl,?_⟩|apply τa|refine τb rfl ?_|refine ⟨⟨by kernel_rfl,by kernel_rfl⟩,?_⟩|refine ⟨by decide,?_⟩|apply τt|apply τf))
    exact ret_tells rfl (le_bool (nameB_false (fun h => h.2.2.2.2.2.1 t6)).symm)
  have t6 : ¬ s.data.toList = x32L := beq_eq_false_iff_ne.1 t6.symm
  (repeat((conv=>whnf);first|apply ω0|apply ω1|apply ω2|refine τ3 rfl ?_|refine τ4 rfl ?_|refine ⟨rfl,?_⟩|apply τa|refine τb rfl ?_|refine ⟨⟨by kernel_rfl,by kernel_rfl⟩,?_⟩|refine ⟨by decide,?_⟩|apply τt|apply τf))
  refine aw_loop (fun y : Nat × Nat => mk 59 [(0, strA s), (3, int y.1)] ⟨[], [], y.2, 0⟩) (fun y => y.1 ≤ s.size ∧ ∀ j, j < y.1 → okN (s.data.toList.getD j 0).toNat = true) (fun y => s.size - y.1) ?_ ?_
  · exact ⟨(0, nx), ⟨Nat.zero_le _, fun j h => absurd h (Nat.not_lt_zero _)⟩, ele_mk rfl rfl ⟨AVle.refl _, AVle.refl _, trivial⟩⟩
  · rintro ⟨i, nx2⟩ ⟨h3, h4⟩
    dsimp only at h3 h4
    (repeat((conv=>whnf);first|apply ω0|apply ω1|apply ω2|refine τ3 rfl ?_|refine τ4 rfl ?_|refine ⟨rfl,?_⟩|apply τa|refine τb rfl ?_|refine ⟨⟨by kernel_rfl,by kernel_rfl⟩,?_⟩|refine ⟨by decide,?_⟩|apply τt|apply τf))
    intro c g; cases c
    · have g : ¬ ((i : Nat) : Int) < ((s.size : Nat) : Int) := not_of g
      obtain rfl : i = s.size := by omega
      have : nameB s.data.toList = true := (nameB_ref _).2 ⟨by omega, by omega, by omega, by omega, t5, t6, h4⟩
      rw [this]
      (repeat((conv=>whnf);first|apply ω0|apply ω1|apply ω2|refine τ3 rfl ?_|refine τ4 rfl ?_|refine ⟨rfl,?_⟩|apply τa|refine τb rfl ?_|refine ⟨⟨by kernel_rfl,by kernel_rfl⟩,?_⟩|refine ⟨by decide,?_⟩|apply τt|apply τf))
      exact ret_tells rfl (AVle.refl _)
    · have g : ((i : Nat) : Int) < ((s.size : Nat) : Int) := yes_of g
      have hbad : okN (s.data.toList.getD i 0).toNat = false → false = nameB s.data.toList := fun h => (nameB_false (fun hh => by have := hh.2.2.2.2.2.2 i (by omega); rw [h] at this; cases this)).symm
      (repeat((conv=>whnf);first|apply ω0|apply ω1|apply ω2|refine τ3 rfl ?_|refine τ4 rfl ?_|refine ⟨rfl,?_⟩|apply τa|refine τb rfl ?_|refine ⟨⟨by kernel_rfl,by kernel_rfl⟩,?_⟩|refine ⟨by decide,?_⟩|apply τt|apply τf))
      refine ⟨⟨by dsimp only; omega, by dsimp only; omega⟩, ?_⟩
      have hgood : okN (s.data.toList.getD i 0).toNat = true → ∀ j, j < i + 1 → okN (s.data.toList.getD j 0).toNat = true := fun h j hj => by
        rcases Nat.lt_or_ge j i with h1 | h1
        · exact h4 j h1
        · obtain rfl : j = i := by omega
          exact h
      have hval : (((s.data.getD i 0).toNat : Nat) : Int) = (((s.data.toList.getD i 0).toNat : Nat) : Int) := by rw [ba_get]
      generalize (s.data.toList.getD i 0).toNat = n at hbad hgood hval
      (repeat((conv=>whnf);first|apply ω0|apply ω1|apply ω2|refine τ3 rfl ?_|refine τ4 rfl ?_|refine ⟨rfl,?_⟩|apply τa|refine τb rfl ?_|refine ⟨⟨by kernel_rfl,by kernel_rfl⟩,?_⟩|refine ⟨by decide,?_⟩|apply τt|apply τf))
      intro c u1
      have u1 : c = decide ((n : Int) ≥ 97) := u1.trans (by rw [← hval]; rfl)
      cases c
      · have u1 : ¬ (n : Int) ≥ 97 := not_of u1
        (repeat((conv=>whnf);first|apply ω0|apply ω1|apply ω2|refine τ3 rfl ?_|refine τ4 rfl ?_|refine ⟨rfl,?_⟩|apply τa|refine τb rfl ?_|refine ⟨⟨by kernel_rfl,by kernel_rfl⟩,?_⟩|refine ⟨by decide,?_⟩|apply τt|apply τf))
        intro c u3
        have u3 : c = decide ((n : Int) ≥ 48) := u3.trans (by rw [← hval]; rfl)
        cases c
        · have u3 : ¬ (n : Int) ≥ 48 := not_of u3
          (repeat((conv=>whnf);first|apply ω0|apply ω1|apply ω2|refine τ3 rfl ?_|refine τ4 rfl ?_|refine ⟨rfl,?_⟩|apply τa|refine τb rfl ?_|refine ⟨⟨by kernel_rfl,by kernel_rfl⟩,?_⟩|refine ⟨by decide,?_⟩|apply τt|apply τf))
          intro c u5
          have u5 : c = ((n : Int) == 95) := u5.trans (by rw [← hval]; rfl)
          cases c
          · have u5 : (n : Int) ≠ 95 := fct_b0.1 u5
            (repeat((conv=>whnf);first|apply ω0|apply ω1|apply ω2|refine τ3 rfl ?_|refine τ4 rfl ?_|refine ⟨rfl,?_⟩|apply τa|refine τb rfl ?_|refine ⟨⟨by kernel_rfl,by kernel_rfl⟩,?_⟩|refine ⟨by decide,?_⟩|apply τt|apply τf))
            exact ret_tells rfl (le_bool (hbad (okN_out (by omega))))
          · have u5 : (n : Int) = 95 := fct_b1.1 u5
            (repeat((conv=>whnf);first|apply ω0|apply ω1|apply ω2|refine τ3 rfl ?_|refine τ4 rfl ?_|refine ⟨rfl,?_⟩|apply τa|refine τb rfl ?_|refine ⟨⟨by kernel_rfl,by kernel_rfl⟩,?_⟩|refine ⟨by decide,?_⟩|apply τt|apply τf))
            refine back (i + 1, nx2) ⟨by dsimp only; omega, hgood (okN_in (by omega))⟩ (by dsimp only; omega) (ele_mk rfl rfl ⟨AVle.refl _, le_int (wrap_succ (by dsimp only; omega)), trivial⟩)
        · have u3 : (n : Int) ≥ 48 := yes_of u3
          (repeat((conv=>whnf);first|apply ω0|apply ω1|apply ω2|refine τ3 rfl ?_|refine τ4 rfl ?_|refine ⟨rfl,?_⟩|apply τa|refine τb rfl ?_|refine ⟨⟨by kernel_rfl,by kernel_rfl⟩,?_⟩|refine ⟨by decide,?_⟩|apply τt|apply τf))
          intro c u4
          have u4 : c = decide ((n : Int) ≤ 57) := u4.trans (by rw [← hval]; rfl)
          cases c
          · have u4 : ¬ (n : Int) ≤ 57 := not_of u4
            (repeat((conv=>whnf);first|apply ω0|apply ω1|apply ω2|refine τ3 rfl ?_|refine τ4 rfl ?_|refine ⟨rfl,?_⟩|apply τa|refine τb rfl ?_|refine ⟨⟨by kernel_rfl,by kernel_rfl⟩,?_⟩|refine ⟨by decide,?_⟩|apply τt|apply τf))
            intro c u5
            have u5 : c = ((n : Int) == 95) := u5.trans (by rw [← hval]; rfl)
            cases c
            · have u5 : (n : Int) ≠ 95 := fct_b0.1 u5
              (repeat((conv=>whnf);first|apply ω0|apply ω1|apply ω2|refine τ3 rfl ?_|refine τ4 rfl ?_|refine ⟨rfl,?_⟩|apply τa|refine τb rfl ?_|refine ⟨⟨by kernel_rfl,by kernel_rfl⟩,?_⟩|refine ⟨by decide,?_⟩|apply τt|apply τf))
              exact ret_tells rfl (le_bool (hbad (okN_out (by omega))))
            · have u5 : (n : Int) = 95 := fct_b1.1 u5
              (repeat((conv=>whnf);first|apply ω0|apply ω1|apply ω2|refine τ3 rfl ?_|refine τ4 rfl ?_|refine ⟨rfl,?_⟩|apply τa|refine τb rfl ?_|refine ⟨⟨by kernel_rfl,by kernel_rfl⟩,?_⟩|refine ⟨by decide,?_⟩|apply τt|apply τf))
              refine back (i + 1, nx2) ⟨by dsimp only; omega, hgood (okN_in (by omega))⟩ (by dsimp only; omega) (ele_mk rfl rfl ⟨AVle.refl _, le_int (wrap_succ (by dsimp only; omega)), trivial⟩)
          · have u4 : (n : Int) ≤ 57 := yes_of u4
            (repeat((conv=>whnf);first|apply ω0|apply ω1|apply ω2|refine τ3 rfl ?_|refine τ4 rfl ?_|refine ⟨rfl,?_⟩|apply τa|refine τb rfl ?_|refine ⟨⟨by kernel_rfl,by kernel_rfl⟩,?_⟩|refine ⟨by decide,?_⟩|apply τt|apply τf))
            refine back (i + 1, nx2) ⟨by dsimp only; omega, hgood (okN_in (by omega))⟩ (by dsimp only; omega) (ele_mk rfl rfl ⟨AVle.refl _, le_int (wrap_succ (by dsimp only; omega)), trivial⟩)
      · have u1 : (n : Int) ≥ 97 := yes_of u1
        (repeat((conv=>whnf);first|apply ω0|apply ω1|apply ω2|refine τ3 rfl ?_|refine τ4 rfl ?_|refine ⟨rfl,?_⟩|apply τa|refine τb rfl ?_|refine ⟨⟨by kernel_rfl,by kernel_rfl⟩,?_⟩|refine ⟨by decide,?_⟩|apply τt|apply τf))
        intro c u2
        have u2 : c = decide ((n : Int) ≤ 122) := u2.trans (by rw [← hval]; rfl)
        cases c
        · have u2 : ¬ (n : Int) ≤ 122 := not_of u2
          (repeat((conv=>whnf);first|apply ω0|apply ω1|apply ω2|refine τ3 rfl ?_|refine τ4 rfl ?_|refine ⟨rfl,?_⟩|apply τa|refine τb rfl ?_|refine ⟨⟨by kernel_rfl,by kernel_rfl⟩,?_⟩|refine ⟨by decide,?_⟩|apply τt|apply τf))
          intro c u3
          have u3 : c = decide ((n : Int) ≥ 48) := u3.trans (by rw [← hval]; rfl)
          cases c
          · have u3 : ¬ (n : Int) ≥ 48 := not_of u3
            (repeat((conv=>whnf);first|apply ω0|apply ω1|apply ω2|refine τ3 rfl ?_|refine τ4 rfl ?_|refine ⟨rfl,?_⟩|apply τa|refine τb rfl ?_|refine ⟨⟨by kernel_rfl,by kernel_rfl⟩,?_⟩|refine ⟨by decide,?_⟩|apply τt|apply τf))
            intro c u5
            have u5 : c = ((n : Int) == 95) := u5.trans (by rw [← hval]; rfl)
            cases c
            · have u5 : (n : Int) ≠ 95 := fct_b0.1 u5
              (repeat((conv=>whnf);first|apply ω0|apply ω1|apply ω2|refine τ3 rfl ?_|refine τ4 rfl ?_|refine ⟨rfl,?_⟩|apply τa|refine τb rfl ?_|refine ⟨⟨by kernel_rfl,by kernel_rfl⟩,?_⟩|refine ⟨by decide,?_⟩|apply τt|apply τf))
              exact ret_tells rfl (le_bool (hbad (okN_out (by omega))))
            · have u5 : (n : Int) = 95 := fct_b1.1 u5
              (repeat((conv=>whnf);first|apply ω0|apply ω1|apply ω2|refine τ3 rfl ?_|refine τ4 rfl ?_|refine ⟨rfl,?_⟩|apply τa|refine τb rfl ?_|refine ⟨⟨by kernel_rfl,by kernel_rfl⟩,?_⟩|refine ⟨by decide,?_⟩|apply τt|apply τf))
              refine back (i + 1, nx2) ⟨by dsimp only; omega, hgood (okN_in (by omega))⟩ (by dsimp only; omega) (ele_mk rfl rfl ⟨AVle.refl _, le_int (wrap_succ (by dsimp only; omega)), trivial⟩)
          · have u3 : (n : Int) ≥ 48 := yes_of u3
            (repeat((conv=>whnf);first|apply ω0|apply ω1|apply ω2|refine τ3 rfl ?_|refine τ4 rfl ?_|refine ⟨rfl,?_⟩|apply τa|refine τb rfl ?_|refine ⟨⟨by kernel_rfl,by kernel_rfl⟩,?_⟩|refine ⟨by decide,?_⟩|apply τt|apply τf))
            intro c u4
            have u4 : c = decide ((n : Int) ≤ 57) := u4.trans (by rw [← hval]; rfl)
            cases c
            · have u4 : ¬ (n : Int) ≤ 57 := not_of u4
              (repeat((conv=>whnf);first|apply ω0|apply ω1|apply ω2|refine τ3 rfl ?_|refine τ4 rfl ?_|refine ⟨rfl,?_⟩|apply τa|refine τb rfl ?_|refine ⟨⟨by kernel_rfl,by kernel_rfl⟩,?_⟩|refine ⟨by decide,?_⟩|apply τt|apply τf))
              intro c u5
              have u5 : c = ((n : Int) == 95) := u5.trans (by rw [← hval]; rfl)
              cases c
              · have u5 : (n : Int) ≠ 95 := fct_b0.1 u5
                (repeat((conv=>whnf);first|apply ω0|apply ω1|apply ω2|refine τ3 rfl ?_|refine τ4 rfl ?_|refine ⟨rfl,?_⟩|apply τa|refine τb rfl ?_|refine ⟨⟨by kernel_rfl,by kernel_rfl⟩,?_⟩|refine ⟨by decide,?_⟩|apply τt|apply τf))
                exact ret_tells rfl (le_bool (hbad (okN_out (by omega))))
              · have u5 : (n : Int) = 95 := fct_b1.1 u5
                (repeat((conv=>whnf);first|apply ω0|apply ω1|apply ω2|refine τ3 rfl ?_|refine τ4 rfl ?_|refine ⟨rfl,?_⟩|apply τa|refine τb rfl ?_|refine ⟨⟨by kernel_rfl,by kernel_rfl⟩,?_⟩|refine ⟨by decide,?_⟩|apply τt|apply τf))
                refine back (i + 1, nx2) ⟨by dsimp only; omega, hgood (okN_in (by omega))⟩ (by dsimp only; omega) (ele_mk rfl rfl ⟨AVle.refl _, le_int (wrap_succ (by dsimp only; omega)), trivial⟩)
            · have u4 : (n : Int) ≤ 57 := yes_of u4
              (repeat((conv=>whnf);first|apply ω0|apply ω1|apply ω2|refine τ3 rfl ?_|refine τ4 rfl ?_|refine ⟨rfl,?_⟩|apply τa|refine τb rfl ?_|refine ⟨⟨by kernel_rfl,by kernel_rfl⟩,?_⟩|refine ⟨by decide,?_⟩|apply τt|apply τf))
              refine back (i + 1, nx2) ⟨by dsimp only; omega, hgood (okN_in (by omega))⟩ (by dsimp only; omega) (ele_mk rfl rfl ⟨AVle.refl _, le_int (wrap_succ (by dsimp only; omega)), trivial⟩)
        · have u2 : (n : Int) ≤ 122 := yes_of u2
          (repeat((conv=>whnf);first|apply ω0|apply ω1|apply ω2|refine τ3 rfl ?_|refine τ4 rfl ?_|refine ⟨rfl,?_⟩|apply τa|refine τb rfl ?_|refine ⟨⟨by kernel_rfl,by kernel_rfl⟩,?_⟩|refine ⟨by decide,?_⟩|apply τt|apply τf))
          refine back (i + 1, nx2) ⟨by dsimp only; omega, hgood (okN_in (by omega))⟩ (by dsimp only; omega) (ele_mk rfl rfl ⟨AVle.refl _, le_int (wrap_succ (by dsimp only; omega)), trivial⟩)
end Go.Proofs.W

namespace Go.Proofs.W
open Go.Vl
set_option maxRecDepth 100000

theorem right9_spec (k n : Int) : Tells Tryz.prog 39 [act k n] (boolA (right9 k n)) := by
  refine tells_of_aw Tryz.func39 rfl rfl fun nx => ?_
  (repeat((conv=>whnf);first|apply ω0|apply ω1|apply ω2|refine τ3 rfl ?_|refine τ4 rfl ?_|refine ⟨rfl,?_⟩|apply τa|refine τb rfl ?_|refine ⟨⟨by kernel_rfl,by kernel_rfl⟩,?_⟩|refine ⟨by decide,?_⟩|apply τt|apply τf))
  (refine aw_draw 21 ?_ ?_ ?_ ?_; (· kernel_rfl); (· kernel_rfl); (· kernel_rfl))
  (repeat((conv=>whnf);first|apply ω0|apply ω1|apply ω2|refine τ3 rfl ?_|refine τ4 rfl ?_|refine ⟨rfl,?_⟩|apply τa|refine τb rfl ?_|refine ⟨⟨by kernel_rfl,by kernel_rfl⟩,?_⟩|refine ⟨by decide,?_⟩|apply τt|apply τf))
  intro c h1; cases c
  · (repeat((conv=>whnf);first|apply ω0|apply ω1|apply ω2|refine τ3 rfl ?_|refine τ4 rfl ?_|refine ⟨rfl,?_⟩|apply τa|refine τb rfl ?_|refine ⟨⟨by kernel_rfl,by kernel_rfl⟩,?_⟩|refine ⟨by decide,?_⟩|apply τt|apply τf))
    refine ret_tells rfl (le_bool ?_)
    simp at h1; simp [right9]; omega
  (repeat((conv=>whnf);first|apply ω0|apply ω1|apply ω2|refine τ3 rfl ?_|refine τ4 rfl ?_|refine ⟨rfl,?_⟩|apply τa|refine τb rfl ?_|refine ⟨⟨by kernel_rfl,by kernel_rfl⟩,?_⟩|refine ⟨by decide,?_⟩|apply τt|apply τf))
  intro c h2; cases c
  · (repeat((conv=>whnf);first|apply ω0|apply ω1|apply ω2|refine τ3 rfl ?_|refine τ4 rfl ?_|refine ⟨rfl,?_⟩|apply τa|refine τb rfl ?_|refine ⟨⟨by kernel_rfl,by kernel_rfl⟩,?_⟩|refine ⟨by decide,?_⟩|apply τt|apply τf))
    refine ret_tells rfl (le_bool ?_)
    simp at h1 h2; simp [right9]; omega
  (repeat((conv=>whnf);first|apply ω0|apply ω1|apply ω2|refine τ3 rfl ?_|refine τ4 rfl ?_|refine ⟨rfl,?_⟩|apply τa|refine τb rfl ?_|refine ⟨⟨by kernel_rfl,by kernel_rfl⟩,?_⟩|refine ⟨by decide,?_⟩|apply τt|apply τf))
  intro c h3; cases c
  · (repeat((conv=>whnf);first|apply ω0|apply ω1|apply ω2|refine τ3 rfl ?_|refine τ4 rfl ?_|refine ⟨rfl,?_⟩|apply τa|refine τb rfl ?_|refine ⟨⟨by kernel_rfl,by kernel_rfl⟩,?_⟩|refine ⟨by decide,?_⟩|apply τt|apply τf))
    refine ret_tells rfl (le_bool ?_)
    simp at h1 h2 h3; simp [right9]; omega
  (repeat((conv=>whnf);first|apply ω0|apply ω1|apply ω2|refine τ3 rfl ?_|refine τ4 rfl ?_|refine ⟨rfl,?_⟩|apply τa|refine τb rfl ?_|refine ⟨⟨by kernel_rfl,by kernel_rfl⟩,?_⟩|refine ⟨by decide,?_⟩|apply τt|apply τf))
  refine ex_yields (yields_tells rfl rfl (most9_spec k) ⟨AVle.refl _, trivial⟩ (NoId.v _)) ?_
  intro c h4; cases c
  · (repeat((conv=>whnf);first|apply ω0|apply ω1|apply ω2|refine τ3 rfl ?_|refine τ4 rfl ?_|refine ⟨rfl,?_⟩|apply τa|refine τb rfl ?_|refine ⟨⟨by kernel_rfl,by kernel_rfl⟩,?_⟩|refine ⟨by decide,?_⟩|apply τt|apply τf))
    refine ret_tells rfl (le_bool ?_)
    simp at h1 h2 h3 h4; simp [right9]; omega
  (repeat((conv=>whnf);first|apply ω0|apply ω1|apply ω2|refine τ3 rfl ?_|refine τ4 rfl ?_|refine ⟨rfl,?_⟩|apply τa|refine τb rfl ?_|refine ⟨⟨by kernel_rfl,by kernel_rfl⟩,?_⟩|refine ⟨by decide,?_⟩|apply τt|apply τf))
  refine ret_tells rfl (le_bool ?_)
  simp at h1 h2 h3 h4; simp [right9]; omega
theorem name14_spec (s : ByteArray) : Tells Tryz.prog 40 [strA s] (boolA (nameB s.data.toList)) := by
  have h := name11_spec s
  generalize nameB s.data.toList = b at h ⊢
  refine tells_of_aw Tryz.func40 rfl rfl fun nx => ?_
  (repeat((conv=>whnf);first|apply ω0|apply ω1|apply ω2|refine τ3 rfl ?_|refine τ4 rfl ?_|refine ⟨rfl,?_⟩|apply τa|refine τb rfl ?_|refine ⟨⟨by kernel_rfl,by kernel_rfl⟩,?_⟩|refine ⟨by decide,?_⟩|apply τt|apply τf))
  refine aop_tells rfl rfl h ⟨AVle.refl _, trivial⟩ fun nx1 => ?_
  intro c hc
  (repeat((conv=>whnf);first|apply ω0|apply ω1|apply ω2|refine τ3 rfl ?_|refine τ4 rfl ?_|refine ⟨rfl,?_⟩|apply τa|refine τb rfl ?_|refine ⟨⟨by kernel_rfl,by kernel_rfl⟩,?_⟩|refine ⟨by decide,?_⟩|apply τt|apply τf))
  exact ret_tells rfl (le_bool hc)
theorem any_first {l : List Rul} {i : Nat} (hi : i < l.length) (h : rightR (l.getD i rul0) = false) : (l.any fun r => !rightR r) = true := by
  rw [List.any_eq_true]
  exact ⟨l.getD i rul0, by simp [List.getD, hi], by rw [h]; rfl⟩
theorem any_none {l : List Rul} (h : ∀ j, j < l.length → rightR (l.getD j rul0) = true) : (l.any fun r => !rightR r) = false := by
  rw [List.any_eq_false]
  intro r hr
  obtain ⟨j, hj, rfl⟩ := List.getElem_of_mem hr
  have := h j hj
  rw [List.getD_eq_getElem?_getD, List.getElem?_eq_getElem hj] at this
  simp at this
  simp [this]
theorem anyC_first {l : List Cnd} {i : Nat} (hi : i < l.length) (h : rightC (l.getD i cnd0) = false) : (l.any fun c => !rightC c) = true := by
  rw [List.any_eq_true]
  exact ⟨l.getD i cnd0, by simp [List.getD, hi], by rw [h]; rfl⟩
theorem anyC_none {l : List Cnd} (h : ∀ j, j < l.length → rightC (l.getD j cnd0) = true) : (l.any fun c => !rightC c) = false := by
  rw [List.any_eq_false]
  intro r hr
  obtain ⟨j, hj, rfl⟩ := List.getElem_of_mem hr
  have := h j hj
  rw [List.getD_eq_getElem?_getD, List.getElem?_eq_getElem hj] at this
  simp at this
  simp [this]
set_option maxHeartbeats 2000000 in
theorem right14_spec (p : Pol) : Tells Tryz.prog 10 [polA p] (boolA (rightP p)) := by
  have hd := right9_spec p.dflt.1 p.dflt.2
  have hP : rightP p = (right9 p.dflt.1 p.dflt.2 && (decide (p.rules.length ≤ 500) && !(p.rules.any fun r => !rightR r))) := rfl
  generalize rightP p = R at hP ⊢
  generalize right9 p.dflt.1 p.dflt.2 = b0 at hd hP
  obtain ⟨⟨k, n⟩, x, rs⟩ := p
  dsimp only at hP hd
  refine tells_of_aw Tryz.func10 rfl rfl fun nx => ?_
  (repeat((conv=>whnf);first|apply ω0|apply ω1|apply ω2|refine τ3 rfl ?_|refine τ4 rfl ?_|refine ⟨rfl,?_⟩|apply τa|refine τb rfl ?_|refine ⟨⟨by kernel_rfl,by kernel_rfl⟩,?_⟩|refine ⟨by decide,?_⟩|apply τt|apply τf))
  refine aop_tells rfl rfl hd ⟨AVle.refl _, trivial⟩ fun nx1 => ?_
  cases b0
  · (repeat((conv=>whnf);first|apply ω0|apply ω1|apply ω2|refine τ3 rfl ?_|refine τ4 rfl ?_|refine ⟨rfl,?_⟩|apply τa|refine τb rfl ?_|refine ⟨⟨by kernel_rfl,by kernel_rfl⟩,?_⟩|refine ⟨by decide,?_⟩|apply τt|apply τf))
    exact ret_tells rfl (le_bool (by rw [hP]; rfl))
  (repeat((conv=>whnf);first|apply ω0|apply ω1|apply ω2|refine τ3 rfl ?_|refine τ4 rfl ?_|refine ⟨rfl,?_⟩|apply τa|refine τb rfl ?_|refine ⟨⟨by kernel_rfl,by kernel_rfl⟩,?_⟩|refine ⟨by decide,?_⟩|apply τt|apply τf))
  intro c g1; cases c
  rotate_left
  · have g1 : ((rs.length : Nat) : Int) > 500 := yes_of g1
    (repeat((conv=>whnf);first|apply ω0|apply ω1|apply ω2|refine τ3 rfl ?_|refine τ4 rfl ?_|refine ⟨rfl,?_⟩|apply τa|refine τb rfl ?_|refine ⟨⟨by kernel_rfl,by kernel_rfl⟩,?_⟩|refine ⟨by decide,?_⟩|apply τt|apply τf))
    exact ret_tells rfl (le_bool (by rw [hP, decide_eq_false (by omega)]; rfl))
  have g1 : ¬ ((rs.length : Nat) : Int) > 500 := not_of g1
  have h500 : rs.length ≤ 500 := by omega
  rw [decide_eq_true h500, Bool.true_and, Bool.true_and] at hP
  (repeat((conv=>whnf);first|apply ω0|apply ω1|apply ω2|refine τ3 rfl ?_|refine τ4 rfl ?_|refine ⟨rfl,?_⟩|apply τa|refine τb rfl ?_|refine ⟨⟨by kernel_rfl,by kernel_rfl⟩,?_⟩|refine ⟨by decide,?_⟩|apply τt|apply τf))
  refine aw_loop (fun s : Nat × Nat => mk 58 [(1, .bp (0, nx) 0), (3, int s.1)] ⟨[((0, nx), .c [int k, int n, boolA x, ruls rs])], [], s.2, 1⟩) (fun s => s.1 ≤ rs.length ∧ ∀ j, j < s.1 → rightR (rs.getD j rul0) = true) (fun s => rs.length - s.1) ?_ ?_
  · exact ⟨(0, nx1), ⟨Nat.zero_le _, fun j h => absurd h (Nat.not_lt_zero _)⟩, ele_tell (pm := []) _ [] rfl rfl (List.Sublist.refl _) (List.Sublist.refl _) ⟨rfl, OwnLe.refl _, trivial⟩ trivial ⟨AVle.refl _, AVle.refl _, trivial⟩⟩
  · rintro ⟨i, nx2⟩ ⟨h3, h4⟩
    dsimp only at h3 h4
    (repeat((conv=>whnf);first|apply ω0|apply ω1|apply ω2|refine τ3 rfl ?_|refine τ4 rfl ?_|refine ⟨rfl,?_⟩|apply τa|refine τb rfl ?_|refine ⟨⟨by kernel_rfl,by kernel_rfl⟩,?_⟩|refine ⟨by decide,?_⟩|apply τt|apply τf))
    intro c h5; cases c
    · have h6 : ¬ ((i : Nat) : Int) < ((rs.length : Nat) : Int) := not_of h5
      obtain rfl : i = rs.length := by omega
      (repeat((conv=>whnf);first|apply ω0|apply ω1|apply ω2|refine τ3 rfl ?_|refine τ4 rfl ?_|refine ⟨rfl,?_⟩|apply τa|refine τb rfl ?_|refine ⟨⟨by kernel_rfl,by kernel_rfl⟩,?_⟩|refine ⟨by decide,?_⟩|apply τt|apply τf))
      exact ret_tells rfl (le_bool (by rw [hP, any_none h4]; rfl))
    · have h6 : ((i : Nat) : Int) < ((rs.length : Nat) : Int) := yes_of h5
      have hi : i < rs.length := by omega
      have hbad : rightR (rs.getD i rul0) = false → false = R := fun h => by rw [hP, any_first hi h]; rfl
      have hR : rightR (rs.getD i rul0) = (nameB (rs.getD i rul0).name.data.toList && (right9 (rs.getD i rul0).act.1 (rs.getD i rul0).act.2 && (decide ((rs.getD i rul0).conds.length ≤ 6) && !((rs.getD i rul0).conds.any fun c => !rightC c)))) := rfl
      have hn := name14_spec (rs.getD i rul0).name
      have ha := right9_spec (rs.getD i rul0).act.1 (rs.getD i rul0).act.2
      generalize nameB (rs.getD i rul0).name.data.toList = b1 at hn hR
      generalize right9 (rs.getD i rul0).act.1 (rs.getD i rul0).act.2 = b2 at ha hR
      (repeat((conv=>whnf);first|apply ω0|apply ω1|apply ω2|refine τ3 rfl ?_|refine τ4 rfl ?_|refine ⟨rfl,?_⟩|apply τa|refine τb rfl ?_|refine ⟨⟨by kernel_rfl,by kernel_rfl⟩,?_⟩|refine ⟨by decide,?_⟩|apply τt|apply τf))
      refine ⟨⟨by dsimp only; omega, by dsimp only; omega⟩, ?_⟩
      (repeat((conv=>whnf);first|apply ω0|apply ω1|apply ω2|refine τ3 rfl ?_|refine τ4 rfl ?_|refine ⟨rfl,?_⟩|apply τa|refine τb rfl ?_|refine ⟨⟨by kernel_rfl,by kernel_rfl⟩,?_⟩|refine ⟨by decide,?_⟩|apply τt|apply τf))
      refine aop_tells rfl rfl hn ⟨AVle.refl _, trivial⟩ fun nx3 => ?_
      cases b1
      · (repeat((conv=>whnf);first|apply ω0|apply ω1|apply ω2|refine τ3 rfl ?_|refine τ4 rfl ?_|refine ⟨rfl,?_⟩|apply τa|refine τb rfl ?_|refine ⟨⟨by kernel_rfl,by kernel_rfl⟩,?_⟩|refine ⟨by decide,?_⟩|apply τt|apply τf))
        exact ret_tells rfl (le_bool (hbad (by rw [hR]; rfl)))
      (repeat((conv=>whnf);first|apply ω0|apply ω1|apply ω2|refine τ3 rfl ?_|refine τ4 rfl ?_|refine ⟨rfl,?_⟩|apply τa|refine τb rfl ?_|refine ⟨⟨by kernel_rfl,by kernel_rfl⟩,?_⟩|refine ⟨by decide,?_⟩|apply τt|apply τf))
      refine aop_tells rfl rfl ha ⟨AVle.refl _, trivial⟩ fun nx4 => ?_
      cases b2
      · (repeat((conv=>whnf);first|apply ω0|apply ω1|apply ω2|refine τ3 rfl ?_|refine τ4 rfl ?_|refine ⟨rfl,?_⟩|apply τa|refine τb rfl ?_|refine ⟨⟨by kernel_rfl,by kernel_rfl⟩,?_⟩|refine ⟨by decide,?_⟩|apply τt|apply τf))
        exact ret_tells rfl (le_bool (hbad (by rw [hR]; rfl)))
      (repeat((conv=>whnf);first|apply ω0|apply ω1|apply ω2|refine τ3 rfl ?_|refine τ4 rfl ?_|refine ⟨rfl,?_⟩|apply τa|refine τb rfl ?_|refine ⟨⟨by kernel_rfl,by kernel_rfl⟩,?_⟩|refine ⟨by decide,?_⟩|apply τt|apply τf))
      intro c g2; cases c
      rotate_left
      · have g2 : (((rs.getD i rul0).conds.length : Nat) : Int) > 6 := yes_of g2
        (repeat((conv=>whnf);first|apply ω0|apply ω1|apply ω2|refine τ3 rfl ?_|refine τ4 rfl ?_|refine ⟨rfl,?_⟩|apply τa|refine τb rfl ?_|refine ⟨⟨by kernel_rfl,by kernel_rfl⟩,?_⟩|refine ⟨by decide,?_⟩|apply τt|apply τf))
        exact ret_tells rfl (le_bool (hbad (by rw [hR, decide_eq_false (by omega)]; rfl)))
      have g2 : ¬ (((rs.getD i rul0).conds.length : Nat) : Int) > 6 := not_of g2
      rw [decide_eq_true (show (rs.getD i rul0).conds.length ≤ 6 by omega), Bool.true_and, Bool.true_and, Bool.true_and] at hR
      (repeat((conv=>whnf);first|apply ω0|apply ω1|apply ω2|refine τ3 rfl ?_|refine τ4 rfl ?_|refine ⟨rfl,?_⟩|apply τa|refine τb rfl ?_|refine ⟨⟨by kernel_rfl,by kernel_rfl⟩,?_⟩|refine ⟨by decide,?_⟩|apply τt|apply τf))
      refine aw_loop (fun s : Nat × Nat => mk 58 [(1, .bp (0, nx) 0), (3, int i), (4, .bp (1, nx2) 0), (5, int s.1)] ⟨[((1, nx2), .c [strA (rs.getD i rul0).name, int (rs.getD i rul0).act.1, int (rs.getD i rul0).act.2, cnds (rs.getD i rul0).conds]), ((0, nx), .c [int k, int n, boolA x, ruls rs])], [], s.2, 2⟩) (fun s => s.1 ≤ (rs.getD i rul0).conds.length ∧ ∀ j, j < s.1 → rightC ((rs.getD i rul0).conds.getD j cnd0) = true) (fun s => (rs.getD i rul0).conds.length - s.1) ?_ ?_
      · exact ⟨(0, nx4), ⟨Nat.zero_le _, fun j h => absurd h (Nat.not_lt_zero _)⟩, ele_tell (pm := []) _ [] rfl rfl (List.Sublist.refl _) (List.Sublist.refl _) ⟨rfl, OwnLe.refl _, rfl, OwnLe.refl _, trivial⟩ trivial ⟨AVle.refl _, AVle.refl _, AVle.refl _, AVle.refl _, trivial⟩⟩
      · rintro ⟨j, nx5⟩ ⟨h7, h8⟩
        dsimp only at h7 h8
        (repeat((conv=>whnf);first|apply ω0|apply ω1|apply ω2|refine τ3 rfl ?_|refine τ4 rfl ?_|refine ⟨rfl,?_⟩|apply τa|refine τb rfl ?_|refine ⟨⟨by kernel_rfl,by kernel_rfl⟩,?_⟩|refine ⟨by decide,?_⟩|apply τt|apply τf))
        intro c h9; cases c
        · have h9 : ¬ ((j : Nat) : Int) < (((rs.getD i rul0).conds.length : Nat) : Int) := not_of h9
          have hj : j = (rs.getD i rul0).conds.length := by omega
          have hgood : rightR (rs.getD i rul0) = true := by rw [hR, anyC_none (fun q hq => h8 q (by omega))]; rfl
          (repeat((conv=>whnf);first|apply ω0|apply ω1|apply ω2|refine τ3 rfl ?_|refine τ4 rfl ?_|refine ⟨rfl,?_⟩|apply τa|refine τb rfl ?_|refine ⟨⟨by kernel_rfl,by kernel_rfl⟩,?_⟩|refine ⟨by decide,?_⟩|apply τt|apply τf))
          refine back (i + 1, nx5) ⟨by first | omega | (dsimp only; omega), fun q hq => ?_⟩ (by dsimp only; omega) (ele_tell (pm := []) _ [] rfl rfl (.cons _ (List.Sublist.refl _)) (List.Sublist.refl _) ⟨rfl, OwnLe.refl _, trivial⟩ trivial ⟨AVle.refl _, le_int (wrap_succ (by first | omega | (dsimp only; omega))), trivial⟩)
          dsimp only at hq
          rcases Nat.lt_or_ge q i with h | h
          · exact h4 q h
          · obtain rfl : q = i := by omega
            exact hgood
        · have h9 : ((j : Nat) : Int) < (((rs.getD i rul0).conds.length : Nat) : Int) := yes_of h9
          have hj : j < (rs.getD i rul0).conds.length := by omega
          have hbc : rightC ((rs.getD i rul0).conds.getD j cnd0) = false → false = R := fun h => hbad (by rw [hR, anyC_first hj h]; rfl)
          have hgc : rightC ((rs.getD i rul0).conds.getD j cnd0) = true → ∀ q, q < j + 1 → rightC ((rs.getD i rul0).conds.getD q cnd0) = true := fun h q hq => by
            rcases Nat.lt_or_ge q j with h1 | h1
            · exact h8 q h1
            · obtain rfl : q = j := by omega
              exact h
          have hc := right10_spec ((rs.getD i rul0).conds.getD j cnd0)
          generalize rightC ((rs.getD i rul0).conds.getD j cnd0) = b3 at hc hbc hgc
          (repeat((conv=>whnf);first|apply ω0|apply ω1|apply ω2|refine τ3 rfl ?_|refine τ4 rfl ?_|refine ⟨rfl,?_⟩|apply τa|refine τb rfl ?_|refine ⟨⟨by kernel_rfl,by kernel_rfl⟩,?_⟩|refine ⟨by decide,?_⟩|apply τt|apply τf))
          refine ⟨⟨by dsimp only; omega, by dsimp only; omega⟩, ?_⟩
          (repeat((conv=>whnf);first|apply ω0|apply ω1|apply ω2|refine τ3 rfl ?_|refine τ4 rfl ?_|refine ⟨rfl,?_⟩|apply τa|refine τb rfl ?_|refine ⟨⟨by kernel_rfl,by kernel_rfl⟩,?_⟩|refine ⟨by decide,?_⟩|apply τt|apply τf))
          refine aop_tells rfl rfl hc ⟨AVle.refl _, trivial⟩ fun nx6 => ?_
          cases b3
          · (repeat((conv=>whnf);first|apply ω0|apply ω1|apply ω2|refine τ3 rfl ?_|refine τ4 rfl ?_|refine ⟨rfl,?_⟩|apply τa|refine τb rfl ?_|refine ⟨⟨by kernel_rfl,by kernel_rfl⟩,?_⟩|refine ⟨by decide,?_⟩|apply τt|apply τf))
            exact ret_tells rfl (le_bool (hbc rfl))
          · (repeat((conv=>whnf);first|apply ω0|apply ω1|apply ω2|refine τ3 rfl ?_|refine τ4 rfl ?_|refine ⟨rfl,?_⟩|apply τa|refine τb rfl ?_|refine ⟨⟨by kernel_rfl,by kernel_rfl⟩,?_⟩|refine ⟨by decide,?_⟩|apply τt|apply τf))
            exact back (j + 1, nx6) ⟨by dsimp only; omega, hgc rfl⟩ (by dsimp only; omega) (ele_tell (pm := []) _ [] rfl rfl (List.Sublist.refl _) (List.Sublist.refl _) ⟨rfl, OwnLe.refl _, rfl, OwnLe.refl _, trivial⟩ trivial ⟨AVle.refl _, AVle.refl _, AVle.refl _, le_int (wrap_succ (by dsimp only; omega)), trivial⟩)
end Go.Proofs.W

namespace Go.Proofs.W
open Go.Vl
set_option maxRecDepth 100000

end Go.Proofs.W

namespace Go.Proofs.W
open Go.Vl
set_option maxRecDepth 100000

theorem ref08arg_spec (a : Int) (x : Nat) (hx : x < 18446744073709551616) : Tells Tryz.prog 50 [int a, u64 (x : Nat)] (u64 ((if a = 2 then x % 4294967296 else x : Nat) : Nat)) := by
  refine tells_of_aw Tryz.func50 rfl rfl fun nx => ?_
  (repeat((conv=>whnf);first|apply ω0|apply ω1|apply ω2|refine τ3 rfl ?_|refine τ4 rfl ?_|refine ⟨rfl,?_⟩|apply τa|refine τb rfl ?_|refine ⟨⟨by kernel_rfl,by kernel_rfl⟩,?_⟩|refine ⟨by decide,?_⟩|apply τt|apply τf))
  intro c t; cases c
  · have t : ¬ a = 2 := by simpa using t
    rw [if_neg t]
    (repeat((conv=>whnf);first|apply ω0|apply ω1|apply ω2|refine τ3 rfl ?_|refine τ4 rfl ?_|refine ⟨rfl,?_⟩|apply τa|refine τb rfl ?_|refine ⟨⟨by kernel_rfl,by kernel_rfl⟩,?_⟩|refine ⟨by decide,?_⟩|apply τt|apply τf))
    exact ret_tells rfl (AVle.refl _)
  · have t : a = 2 := by simpa using t
    rw [if_pos t]
    (repeat((conv=>whnf);first|apply ω0|apply ω1|apply ω2|refine τ3 rfl ?_|refine τ4 rfl ?_|refine ⟨rfl,?_⟩|apply τa|refine τb rfl ?_|refine ⟨⟨by kernel_rfl,by kernel_rfl⟩,?_⟩|refine ⟨by decide,?_⟩|apply τt|apply τf))
    refine ret_tells rfl (AVle.of_eq (congrArg u64 ?_))
    exact (Int.ofNat_tmod x 4294967296).symm
end Go.Proofs.W

namespace Go.Proofs.W
open Go.Vl
set_option maxRecDepth 100000

end Go.Proofs.W

namespace Go.Proofs.W
open Go.Vl
set_option maxRecDepth 100000

end Go.Proofs.W

namespace Go.Proofs.W
open Go.Vl
set_option maxRecDepth 100000

end Go.Proofs.W

namespace Go.Proofs.W
open Go.Vl
set_option maxRecDepth 100000

theorem arg_lt {r : Rec} (h : r.ok) (k : Nat) : r.arg k < 18446744073709551616 := by
  obtain ⟨_, _, _, h0, h1, h2, h3, h4, h5⟩ := h
  unfold Rec.arg; split <;> assumption
end Go.Proofs.W

namespace Go.Proofs.W
open Go.Vl
set_option maxRecDepth 100000

end Go.Proofs.W

namespace Go.Proofs.W
open Go.Vl
set_option maxRecDepth 100000

end Go.Proofs.W

namespace Go.Proofs.W
open Go.Vl
set_option maxRecDepth 100000

end Go.Proofs.W

namespace Go.Proofs.W
open Go.Vl
set_option maxRecDepth 100000

def nameR (l : List TRow) (r : Rec) : ByteArray := (ofI l r).name
def ownN (l : List TRow) (s : ByteArray) (rs : List Rec) : List Rec := rs.filter fun r => kS s (nameR l r)
def xarg (l : List TRow) (r : Rec) (k : Nat) : Nat := argI (ofI l r).abi.toNat r k
def OwnOk (l : List TRow) (rs : List Rec) (g : Gat) : Prop := ∃ r0 rest, ownN l g.name rs = r0 :: rest ∧ g.m = rest.length + 1 ∧ (∀ k, g.a k = xarg l r0 k) ∧ ∀ k, g.b k = rest.all fun r => decide (xarg l r0 k = xarg l r k)
structure GInv (l : List TRow) (rs : List Rec) (S : List Gat × Bool) : Prop where
  nd : (S.1.map Gat.name).Nodup
  nz : ∀ g ∈ S.1, g.name.size ≠ 0
  own : ∀ g ∈ S.1, OwnOk l rs g
  all : ∀ r ∈ rs, (nameR l r).size ≠ 0 → ∃ g ∈ S.1, g.name = nameR l r
  x : S.2 = rs.any fun r => decide ((nameR l r).size ≠ 0) && decide ((ofI l r).abi = 1)
end Go.Proofs.W

namespace Go.Proofs.W
open Go.Vl
set_option maxRecDepth 100000

end Go.Proofs.W

namespace Go.Proofs.W
open Go.Vl
set_option maxRecDepth 100000

def actionP (p : Pol) (l : List TRow) (r : Rec) : A2 := if (!(ofI l r).some || (decide ((ofI l r).abi = 1) && !p.x32)) = true then (1, 0) else if (ofI l r).name.size = 0 then p.dflt else if (ofI l r).muxed = true then blindP p (ofI l r).name else decP p (ofI l r).name (argI (ofI l r).abi.toNat r)
def polOk (p : Pol) : Prop := p.rules.length ≤ 1000000 ∧ ∀ r ∈ p.rules, r.conds.length ≤ 1000000 ∧ ∀ c ∈ r.conds, c.ok
theorem argI_lt {r : Rec} (h : r.ok) (a k : Nat) : argI a r k < 18446744073709551616 := by
  have := arg_lt h k
  unfold argI; split <;> omega
set_option maxHeartbeats 4000000 in
theorem action_law (p : Pol) (l : List TRow) (r : Rec) (hp : polOk p) (hl : l.length ≤ 1000000) (hr : r.ok) : Tells Tryz.prog 53 [polA p, trows l, recA r] (actP (actionP p l r)) := by
  have hof := muxof_spec l r hr (by omega)
  have hab := ofI_abi (l := l) (r := r)
  have hbl := blind_spec p (ofI l r).name hp.1
  have hdc := decide_spec p (ofI l r).name (argI (ofI l r).abi.toNat r) hp.1 (fun q hq => let_spec _ (argI_lt hr _) q (by have := (hp.2 q hq).1; omega) (hp.2 q hq).2)
  unfold actionP
  generalize ofI l r = c at hof hab hbl hdc
  obtain ⟨sm, ab, nm, mx⟩ := c
  dsimp only at hab hbl hdc
  generalize blindP p nm = bl at hbl
  generalize decP p nm (argI ab.toNat r) = dc at hdc
  obtain ⟨⟨k, n⟩, x32, rs⟩ := p
  dsimp only
  generalize hA : (if (!sm || (decide (ab = 1) && !x32)) = true then ((1, 0) : A2) else if nm.size = 0 then (k, n) else if mx = true then bl else dc) = A
  obtain ⟨b1, b2⟩ := bl
  obtain ⟨d1, d2⟩ := dc
  refine tells_of_aw Tryz.func53 rfl rfl fun nx => ?_
  (repeat((conv=>whnf);first|apply ω0|apply ω1|apply ω2|refine τ3 rfl ?_|refine τ4 rfl ?_|refine ⟨rfl,?_⟩|apply τa|refine τb rfl ?_|refine ⟨⟨by kernel_rfl,by kernel_rfl⟩,?_⟩|refine ⟨by decide,?_⟩|apply τt|apply τf))
  refine splitO_eq (b := recA r) rfl ?_
  (repeat((conv=>whnf);first|apply ω0|apply ω1|apply ω2|refine τ3 rfl ?_|refine τ4 rfl ?_|refine ⟨rfl,?_⟩|apply τa|refine τb rfl ?_|refine ⟨⟨by kernel_rfl,by kernel_rfl⟩,?_⟩|refine ⟨by decide,?_⟩|apply τt|apply τf))
  refine aop_tells rfl rfl hof ⟨AVle.refl _, AVle.refl _, trivial⟩ fun nx2 => ?_
  cases sm with
  | false =>
    rw [if_pos (by rfl)] at hA
    (repeat((conv=>whnf);first|apply ω0|apply ω1|apply ω2|refine τ3 rfl ?_|refine τ4 rfl ?_|refine ⟨rfl,?_⟩|apply τa|refine τb rfl ?_|refine ⟨⟨by kernel_rfl,by kernel_rfl⟩,?_⟩|refine ⟨by decide,?_⟩|apply τt|apply τf))
    exact ret_tells_all rfl ⟨rfl, trivial⟩ (AVle.of_eq (by rw [← hA]; rfl))
  | true =>
    (repeat((conv=>whnf);first|apply ω0|apply ω2|refine τ3 rfl ?_|refine τ4 rfl ?_|refine ⟨rfl,?_⟩|apply τa|refine τb rfl ?_|refine ⟨⟨by kernel_rfl,by kernel_rfl⟩,?_⟩|refine ⟨by decide,?_⟩|apply τt|apply τf))
    refine aw_mid (fun y : Nat => mk 47 [(3, .bp (0, nx) 0), (5, .bp (1, nx + 1) 0), (6, .bp (2, nx + 2) 0), (7, .bp (3, nx2) 0), (1, trows l), (11, boolA (decide (ab = 1) && !x32))] ⟨[((3, nx2), .c [boolA true, int ab, strA nm, boolA mx]), ((2, nx + 2), .c [int 0, int 0]), ((1, nx + 1), .c (recC r)), ((0, nx), .c [int k, int n, boolA x32, ruls rs])], [], y, 4⟩) (fun _ => True) ?_ ?_
    · refine aw_region ?_
      (repeat((conv=>whnf);first|apply ω0|apply ω1|apply ω2|refine τ3 rfl ?_|refine τ4 rfl ?_|refine ⟨rfl,?_⟩|apply τa|refine τb rfl ?_|refine ⟨⟨by kernel_rfl,by kernel_rfl⟩,?_⟩|refine ⟨by decide,?_⟩|apply τt|apply τf))
      intro c hc
      have hc2 : c = decide (ab = 1) := hc.trans (by rw [Bool.eq_iff_iff]; simp)
      clear hc
      cases c
      · (repeat((conv=>whnf);first|apply ω0|apply ω1|apply ω2|refine τ3 rfl ?_|refine τ4 rfl ?_|refine ⟨rfl,?_⟩|apply τa|refine τb rfl ?_|refine ⟨⟨by kernel_rfl,by kernel_rfl⟩,?_⟩|refine ⟨by decide,?_⟩|apply τt|apply τf))
        exact ⟨nx2 + 1, trivial, ele_tell (pm := []) (bx := [((3, nx2), .c [boolA true, int ab, strA nm, boolA mx]), ((2, nx + 2), .c [int 0, int 0]), ((1, nx + 1), .c (recC r)), ((0, nx), .c [int k, int n, boolA x32, ruls rs])]) _ _ rfl rfl (List.Sublist.refl _) (List.Sublist.refl _) (BxLe.refl _) trivial ⟨AVle.refl _, AVle.refl _, AVle.refl _, AVle.refl _, AVle.refl _, AVle.of_eq (by rw [← hc2]; rfl), trivial⟩⟩
      · cases x32
        · (repeat((conv=>whnf);first|apply ω0|apply ω1|apply ω2|refine τ3 rfl ?_|refine τ4 rfl ?_|refine ⟨rfl,?_⟩|apply τa|refine τb rfl ?_|refine ⟨⟨by kernel_rfl,by kernel_rfl⟩,?_⟩|refine ⟨by decide,?_⟩|apply τt|apply τf))
          exact ⟨nx2 + 1, trivial, ele_tell (pm := []) (bx := [((3, nx2), .c [boolA true, int ab, strA nm, boolA mx]), ((2, nx + 2), .c [int 0, int 0]), ((1, nx + 1), .c (recC r)), ((0, nx), .c [int k, int n, boolA false, ruls rs])]) _ _ rfl rfl (List.Sublist.refl _) (List.Sublist.refl _) (BxLe.refl _) trivial ⟨AVle.refl _, AVle.refl _, AVle.refl _, AVle.refl _, AVle.refl _, AVle.of_eq (by rw [← hc2]; rfl), trivial⟩⟩
        · (repeat((conv=>whnf);first|apply ω0|apply ω1|apply ω2|refine τ3 rfl ?_|refine τ4 rfl ?_|refine ⟨rfl,?_⟩|apply τa|refine τb rfl ?_|refine ⟨⟨by kernel_rfl,by kernel_rfl⟩,?_⟩|refine ⟨by decide,?_⟩|apply τt|apply τf))
          exact ⟨nx2 + 1, trivial, ele_tell (pm := []) (bx := [((3, nx2), .c [boolA true, int ab, strA nm, boolA mx]), ((2, nx + 2), .c [int 0, int 0]), ((1, nx + 1), .c (recC r)), ((0, nx), .c [int k, int n, boolA true, ruls rs])]) _ _ rfl rfl (List.Sublist.refl _) (List.Sublist.refl _) (BxLe.refl _) trivial ⟨AVle.refl _, AVle.refl _, AVle.refl _, AVle.refl _, AVle.refl _, AVle.of_eq (by rw [← hc2]; rfl), trivial⟩⟩
    · rintro nx3 -
      generalize hb : (decide (ab = 1) && !x32) = bb at hA
      cases bb with
      | true =>
        rw [if_pos (by rfl)] at hA
        (repeat((conv=>whnf);first|apply ω0|apply ω1|apply ω2|refine τ3 rfl ?_|refine τ4 rfl ?_|refine ⟨rfl,?_⟩|apply τa|refine τb rfl ?_|refine ⟨⟨by kernel_rfl,by kernel_rfl⟩,?_⟩|refine ⟨by decide,?_⟩|apply τt|apply τf))
        exact ret_tells_all rfl ⟨rfl, trivial⟩ (AVle.of_eq (by rw [← hA]; rfl))
      | false =>
        rw [if_neg (by decide)] at hA
        (repeat((conv=>whnf);first|apply ω0|apply ω1|apply ω2|refine τ3 rfl ?_|refine τ4 rfl ?_|refine ⟨rfl,?_⟩|apply τa|refine τb rfl ?_|refine ⟨⟨by kernel_rfl,by kernel_rfl⟩,?_⟩|refine ⟨by decide,?_⟩|apply τt|apply τf))
        intro c hc
        have hc2 : c = decide (nm.size = 0) := hc.trans size0
        clear hc
        cases c
        · have h0 : ¬ nm.size = 0 := of_decide_eq_false hc2.symm
          rw [if_neg h0] at hA
          obtain ⟨ha5, hab2⟩ := hab h0
          have har := abiargs_spec ab.toNat ha5 r hr
          rw [← hab2] at har
          cases mx with
          | true =>
            rw [if_pos rfl] at hA
            (repeat((conv=>whnf);first|apply ω0|apply ω1|apply ω2|refine τ3 rfl ?_|refine τ4 rfl ?_|refine ⟨rfl,?_⟩|apply τa|refine τb rfl ?_|refine ⟨⟨by kernel_rfl,by kernel_rfl⟩,?_⟩|refine ⟨by decide,?_⟩|apply τt|apply τf))
            refine splitO_eq (b := strA nm) rfl ?_
            (repeat((conv=>whnf);first|apply ω0|apply ω1|apply ω2|refine τ3 rfl ?_|refine τ4 rfl ?_|refine ⟨rfl,?_⟩|apply τa|refine τb rfl ?_|refine ⟨⟨by kernel_rfl,by kernel_rfl⟩,?_⟩|refine ⟨by decide,?_⟩|apply τt|apply τf))
            refine aop_tells rfl rfl hbl ⟨AVle.refl _, AVle.refl _, trivial⟩ fun nx4 => ?_
            (repeat((conv=>whnf);first|apply ω0|apply ω1|apply ω2|refine τ3 rfl ?_|refine τ4 rfl ?_|refine ⟨rfl,?_⟩|apply τa|refine τb rfl ?_|refine ⟨⟨by kernel_rfl,by kernel_rfl⟩,?_⟩|refine ⟨by decide,?_⟩|apply τt|apply τf))
            exact ret_tells_all rfl ⟨rfl, trivial⟩ (AVle.of_eq (by rw [← hA]; rfl))
          | false =>
            rw [if_neg (by decide)] at hA
            (repeat((conv=>whnf);first|apply ω0|apply ω1|apply ω2|refine τ3 rfl ?_|refine τ4 rfl ?_|refine ⟨rfl,?_⟩|apply τa|refine τb rfl ?_|refine ⟨⟨by kernel_rfl,by kernel_rfl⟩,?_⟩|refine ⟨by decide,?_⟩|apply τt|apply τf))
            refine aw_mixN 8 _ (fun _ => false) (fun i => match i with | 6 => true | 7 => true | _ => false) [0, 1, 2, 3, 4, 5, 6, 7] (by kernel_rfl) (by kernel_rfl) (HB.refl _) ?_
            (repeat((conv=>whnf);first|apply ω0|apply ω1|apply ω2|refine τ3 rfl ?_|refine τ4 rfl ?_|refine ⟨rfl,?_⟩|apply τa|refine τb rfl ?_|refine ⟨⟨by kernel_rfl,by kernel_rfl⟩,?_⟩|refine ⟨by decide,?_⟩|apply τt|apply τf))
            refine ⟨_, pure_tells rfl rfl rfl har ⟨AVle.refl _, AVle.refl _, trivial⟩ noid_arr, ?_⟩
            (repeat((conv=>whnf);first|apply ω0|apply ω1|apply ω2|refine τ3 rfl ?_|refine τ4 rfl ?_|refine ⟨rfl,?_⟩|apply τa|refine τb rfl ?_|refine ⟨⟨by kernel_rfl,by kernel_rfl⟩,?_⟩|refine ⟨by decide,?_⟩|apply τt|apply τf))
            refine ⟨_, pure_tells rfl rfl rfl hdc ⟨AVle.refl _, AVle.refl _, AVle.refl _, trivial⟩ (NoId.ag (by intro y hy; simp at hy; rcases hy with rfl | rfl <;> exact NoId.v _)), ?_⟩
            (repeat((conv=>whnf);first|apply ω0|apply ω1|apply ω2|refine τ3 rfl ?_|refine τ4 rfl ?_|refine ⟨rfl,?_⟩|apply τa|refine τb rfl ?_|refine ⟨⟨by kernel_rfl,by kernel_rfl⟩,?_⟩|refine ⟨by decide,?_⟩|apply τt|apply τf))
            exact ret_tells_all rfl ⟨rfl, trivial⟩ (AVle.of_eq (by rw [← hA]; rfl))
        · have h0 : nm.size = 0 := of_decide_eq_true hc2.symm
          rw [if_pos h0] at hA
          (repeat((conv=>whnf);first|apply ω0|apply ω1|apply ω2|refine τ3 rfl ?_|refine τ4 rfl ?_|refine ⟨rfl,?_⟩|apply τa|refine τb rfl ?_|refine ⟨⟨by kernel_rfl,by kernel_rfl⟩,?_⟩|refine ⟨by decide,?_⟩|apply τt|apply τf))
          exact ret_tells_all rfl ⟨rfl, trivial⟩ (AVle.of_eq (by rw [← hA]; rfl))
def codeA (a : A2) : Nat := kb (a.1.toNat - 1) + a.2.toNat
theorem right_parts {k n : Int} (h : right9 k n = true) : ∃ k' n' : Nat, k = (k' + 1 : Nat) ∧ n = (n' : Nat) ∧ k' < 8 ∧ n' ≤ km k' := by
  unfold right9 at h
  simp only [Bool.and_eq_true, decide_eq_true_eq] at h
  obtain ⟨⟨⟨h1, h2⟩, h3⟩, h4⟩ := h
  refine ⟨(k - 1).toNat, n.toNat, by omega, by omega, by omega, ?_⟩
  unfold most9 at h4
  unfold km
  split at h4
  · rw [if_pos (by omega)]; omega
  · split at h4
    · rw [if_neg (by omega), if_pos (by omega)]; omega
    · rw [if_neg (by omega), if_neg (by omega)]; omega
theorem code_of (a : A2) (h : right9 a.1 a.2 = true) : Tells Tryz.prog 52 [actP a] (.tup [u32 (codeA a : Nat), int 0]) := by
  obtain ⟨k, n⟩ := a
  obtain ⟨k', n', rfl, rfl, h1, h2⟩ := right_parts h
  have := code_spec9 k' n' h1 h2
  unfold codeA
  dsimp only
  rw [show ((k' + 1 : Nat) : Int).toNat - 1 = k' by omega, show ((n' : Nat) : Int).toNat = n' by omega]
  exact this
theorem rights {p : Pol} (h : rightP p = true) : right9 p.dflt.1 p.dflt.2 = true ∧ ∀ r ∈ p.rules, rightR r = true := by
  unfold rightP at h
  simp only [Bool.and_eq_true, decide_eq_true_eq, Bool.not_eq_true', List.any_eq_false, Bool.not_eq_false'] at h
  refine ⟨h.1, fun r hr => ?_⟩
  have := h.2.2 r hr
  simpa using this
theorem rule_right {r : Rul} (h : rightR r = true) : right9 r.act.1 r.act.2 = true := by
  unfold rightR at h
  simp only [Bool.and_eq_true] at h
  exact h.2.1
theorem blind_right {p : Pol} (h : rightP p = true) (nm : ByteArray) : right9 (blindP p nm).1 (blindP p nm).2 = true := by
  obtain ⟨h1, h2⟩ := rights h
  unfold blindP
  cases hf : p.rules.find? (fun r => kS r.name nm) with
  | none => exact h1
  | some r =>
    dsimp only
    split
    · exact rule_right (h2 r (List.mem_of_find?_eq_some hf))
    · exact h1
theorem dec_right {p : Pol} (h : rightP p = true) (nm : ByteArray) (x : Nat → Nat) : right9 (decP p nm x).1 (decP p nm x).2 = true := by
  obtain ⟨h1, h2⟩ := rights h
  unfold decP
  cases hf : p.rules.find? (fun r => kS r.name nm && letB x r) with
  | none => exact h1
  | some r => exact rule_right (h2 r (List.mem_of_find?_eq_some hf))
theorem action_right {p : Pol} (h : rightP p = true) (l : List TRow) (r : Rec) : right9 (actionP p l r).1 (actionP p l r).2 = true := by
  unfold actionP
  split
  · decide
  · split
    · exact (rights h).1
    · split
      · exact blind_right h _
      · exact dec_right h _ _
def judgeR (p : Pol) (l : List TRow) (r : Rec) : Nat × Int := if rightP p = false then (0, 13) else if (tabR l).2 ≠ 0 then (0, 18) else (codeA (actionP p l r), 0)
set_option maxHeartbeats 2000000 in
theorem judge_law (p : Pol) (l : List TRow) (r : Rec) (hp : polOk p) (hpk : p.ok) (hl : l.length ≤ 1000000) (hn : ∀ q ∈ l, q.name.size ≤ maxLen) (hr : r.ok) : Tells Tryz.prog 18 [polA p, trows l, recA r] (.tup [u32 ((judgeR p l r).1 : Nat), int (judgeR p l r).2]) := by
  have hrp := pright_spec p hpk
  have htb := tabright_spec l hl hn
  have hac := action_law p l r hp hl hr
  have hcd : rightP p = true → _ := fun h => code_of (actionP p l r) (action_right h l r)
  generalize hJ : judgeR p l r = J
  unfold judgeR at hJ
  generalize rightP p = b at hrp hcd hJ
  generalize tabR l = tb at htb hJ
  generalize actionP p l r = A at hac hcd hJ
  obtain ⟨a1, a2⟩ := A
  obtain ⟨⟨k, n⟩, x32, rs⟩ := p
  refine tells_of_aw Tryz.func18 rfl rfl fun nx => ?_
  (repeat((conv=>whnf);first|apply ω0|apply ω1|apply ω2|refine τ3 rfl ?_|refine τ4 rfl ?_|refine ⟨rfl,?_⟩|apply τa|refine τb rfl ?_|refine ⟨⟨by kernel_rfl,by kernel_rfl⟩,?_⟩|refine ⟨by decide,?_⟩|apply τt|apply τf))
  refine splitO_eq (b := polA ⟨(k, n), x32, rs⟩) rfl ?_
  (repeat((conv=>whnf);first|apply ω0|apply ω1|apply ω2|refine τ3 rfl ?_|refine τ4 rfl ?_|refine ⟨rfl,?_⟩|apply τa|refine τb rfl ?_|refine ⟨⟨by kernel_rfl,by kernel_rfl⟩,?_⟩|refine ⟨by decide,?_⟩|apply τt|apply τf))
  refine aop_tells rfl rfl hrp ⟨AVle.refl _, trivial⟩ fun nx2 => ?_
  cases b with
  | false =>
    rw [if_pos rfl] at hJ
    subst hJ
    (repeat((conv=>whnf);first|apply ω0|apply ω1|apply ω2|refine τ3 rfl ?_|refine τ4 rfl ?_|refine ⟨rfl,?_⟩|apply τa|refine τb rfl ?_|refine ⟨⟨by kernel_rfl,by kernel_rfl⟩,?_⟩|refine ⟨by decide,?_⟩|apply τt|apply τf))
    exact ret_tells_all rfl trivial (AVle.refl _)
  | true =>
    rw [if_neg (by decide)] at hJ
    (repeat((conv=>whnf);first|apply ω0|apply ω1|apply ω2|refine τ3 rfl ?_|refine τ4 rfl ?_|refine ⟨rfl,?_⟩|apply τa|refine τb rfl ?_|refine ⟨⟨by kernel_rfl,by kernel_rfl⟩,?_⟩|refine ⟨by decide,?_⟩|apply τt|apply τf))
    refine aop_tells rfl rfl htb ⟨AVle.refl _, trivial⟩ fun nx3 => ?_
    (repeat((conv=>whnf);first|apply ω0|apply ω1|apply ω2|refine τ3 rfl ?_|refine τ4 rfl ?_|refine ⟨rfl,?_⟩|apply τa|refine τb rfl ?_|refine ⟨⟨by kernel_rfl,by kernel_rfl⟩,?_⟩|refine ⟨by decide,?_⟩|apply τt|apply τf))
    intro c hc
    by_cases h0 : tb.2 = 0
    · rw [if_neg (fun q => q h0)] at hJ
      subst hJ
      obtain rfl : c = false := hc.trans (bne_eq_false_iff_eq.2 h0)
      (repeat((conv=>whnf);first|apply ω0|apply ω1|apply ω2|refine τ3 rfl ?_|refine τ4 rfl ?_|refine ⟨rfl,?_⟩|apply τa|refine τb rfl ?_|refine ⟨⟨by kernel_rfl,by kernel_rfl⟩,?_⟩|refine ⟨by decide,?_⟩|apply τt|apply τf))
      refine splitO_eq (b := recA r) rfl ?_
      (repeat((conv=>whnf);first|apply ω0|apply ω1|apply ω2|refine τ3 rfl ?_|refine τ4 rfl ?_|refine ⟨rfl,?_⟩|apply τa|refine τb rfl ?_|refine ⟨⟨by kernel_rfl,by kernel_rfl⟩,?_⟩|refine ⟨by decide,?_⟩|apply τt|apply τf))
      refine aop_tells rfl rfl hac ⟨AVle.refl _, AVle.refl _, AVle.refl _, trivial⟩ fun nx4 => ?_
      (repeat((conv=>whnf);first|apply ω0|apply ω1|apply ω2|refine τ3 rfl ?_|refine τ4 rfl ?_|refine ⟨rfl,?_⟩|apply τa|refine τb rfl ?_|refine ⟨⟨by kernel_rfl,by kernel_rfl⟩,?_⟩|refine ⟨by decide,?_⟩|apply τt|apply τf))
      refine aop_tells rfl rfl (hcd rfl) ⟨AVle.refl _, trivial⟩ fun nx5 => ?_
      (repeat((conv=>whnf);first|apply ω0|apply ω1|apply ω2|refine τ3 rfl ?_|refine τ4 rfl ?_|refine ⟨rfl,?_⟩|apply τa|refine τb rfl ?_|refine ⟨⟨by kernel_rfl,by kernel_rfl⟩,?_⟩|refine ⟨by decide,?_⟩|apply τt|apply τf))
      exact ret_tells_all rfl trivial (AVle.refl _)
    · rw [if_pos h0] at hJ
      subst hJ
      obtain rfl : c = true := hc.trans (bne_iff_ne.2 h0)
      (repeat((conv=>whnf);first|apply ω0|apply ω1|apply ω2|refine τ3 rfl ?_|refine τ4 rfl ?_|refine ⟨rfl,?_⟩|apply τa|refine τb rfl ?_|refine ⟨⟨by kernel_rfl,by kernel_rfl⟩,?_⟩|refine ⟨by decide,?_⟩|apply τt|apply τf))
      exact ret_tells_all rfl trivial (AVle.refl _)
end Go.Proofs.W

namespace Go.Proofs.W
open Go.Vl
set_option maxRecDepth 100000

theorem noid_rul17 (r : Rul) : NoId (.ag [strA r.name, int r.act.1, int r.act.2, cnds r.conds]) := NoId.ag (by
  intro y hy
  simp only [List.mem_cons, List.not_mem_nil, or_false] at hy
  rcases hy with rfl | rfl | rfl | rfl
  · exact NoId.v _
  · exact NoId.v _
  · exact NoId.v _
  · refine NoId.sl fun i hi c hc => ?_
    simp only [cndA, AV.cells, List.mem_cons, List.not_mem_nil, or_false] at hc
    rcases hc with rfl | rfl | rfl | rfl <;> exact NoId.v _)
theorem bytes_cnd_l17 : Tryz.prog.bytesOf 159 = 32 := by kernel_rfl
theorem bytes_rul_l17 : Tryz.prog.bytesOf 85 = 56 := by kernel_rfl
theorem conds_l17 (c : Cnd) : Tells Tryz.prog 97 [cndA c] (cndA c) := by
  refine tells_of_aw Tryz.func97 rfl rfl fun nx => ?_
  (repeat((conv=>whnf);first|apply ω0|apply ω1|apply ω2|refine τ3 rfl ?_|refine τ4 rfl ?_|refine ⟨rfl,?_⟩|apply τa|refine τb rfl ?_|refine ⟨⟨by kernel_rfl,by kernel_rfl⟩,?_⟩|refine ⟨by decide,?_⟩|apply τt|apply τf))
  exact ret_tells_all rfl ⟨rfl, trivial⟩ (AVle.refl _)

set_option maxHeartbeats 1000000 in
theorem rule_l17 (nm : ByteArray) (k n : Int) (cs : List Cnd) (hl : cs.length ≤ 1000000) : Tells Tryz.prog 47 [.ag [strA nm, int k, int n, cnds cs]] (.ag [strA nm, int k, int n, cnds cs]) := by
  refine tells_of_aw Tryz.func47 rfl rfl fun nx => ?_
  (repeat((conv=>whnf);first|apply ω0|apply ω1|apply ω2|refine τ3 rfl ?_|refine τ4 rfl ?_|refine ⟨rfl,?_⟩|apply τa|refine τb rfl ?_|refine ⟨⟨by kernel_rfl,by kernel_rfl⟩,?_⟩|refine ⟨by decide,?_⟩|apply τt|apply τf))
  refine aw_loop (fun s : Nat × Option Nat × Nat => mk 34 [(1, .bp (0, nx) 0), (2, .bp (1, nx + 1) 0), (3, .bp (2, nx + 2) 0), (4, int s.1)] ⟨[((2, nx + 2), .c [strA nm, int k, int n, .os 4 s.1 (fun j => cndA (cs.getD j cnd0)) (nmd s.2.1)]), ((1, nx + 1), .c [strA ⟨#[]⟩, int 0, int 0, .os 0 0 (fun _ => .any) none]), ((0, nx), .c [strA nm, int k, int n, cnds cs])], pmOf (nmd s.2.1) (s.1 * 4), s.2.2, 3⟩) (fun s => s.1 ≤ cs.length ∧ (s.2.1 = none → s.1 = 0)) (fun s => cs.length - s.1) ?_ ?_
  · exact ⟨(0, none, nx + 3), ⟨Nat.zero_le _, fun _ => rfl⟩, ele_tell (pm := []) _ [] rfl rfl (List.Sublist.refl _) (List.Sublist.refl _) ⟨rfl, ⟨AVle.refl _, AVle.refl _, AVle.refl _, AVle.os_nil, trivial⟩, rfl, OwnLe.refl _, rfl, OwnLe.refl _, trivial⟩ trivial ⟨AVle.refl _, AVle.refl _, AVle.refl _, AVle.refl _, trivial⟩⟩
  · rintro ⟨i, oi, nx2⟩ ⟨h3, h4⟩
    dsimp only at h3 h4
    (repeat((conv=>whnf);first|apply ω0|apply ω1|apply ω2|refine τ3 rfl ?_|refine τ4 rfl ?_|refine ⟨rfl,?_⟩|apply τa|refine τb rfl ?_|refine ⟨⟨by kernel_rfl,by kernel_rfl⟩,?_⟩|refine ⟨by decide,?_⟩|apply τt|apply τf))
    intro c h5; cases c
    · have h6 := not_of h5
      dsimp only at h6
      obtain rfl : i = cs.length := by omega
      (repeat((conv=>whnf);first|apply ω0|apply ω1|apply ω2|refine τ3 rfl ?_|refine τ4 rfl ?_|refine ⟨rfl,?_⟩|apply τa|refine τb rfl ?_|refine ⟨⟨by kernel_rfl,by kernel_rfl⟩,?_⟩|refine ⟨by decide,?_⟩|apply τt|apply τf))
      exact ret_tells_all rfl ⟨rfl, trivial⟩ (AVle.ags ⟨AVle.refl _, AVle.refl _, AVle.refl _, AVle.os_sl, trivial⟩)
    · have h6 := yes_of h5
      dsimp only at h6
      have hi : i < cs.length := by omega
      have hcall := conds_l17 (cs.getD i cnd0)
      (repeat((conv=>whnf);first|apply ω0|apply ω1|apply ω2|refine τ3 rfl ?_|refine τ4 rfl ?_|refine ⟨rfl,?_⟩|apply τa|refine τb rfl ?_|refine ⟨⟨by kernel_rfl,by kernel_rfl⟩,?_⟩|refine ⟨by decide,?_⟩|apply τt|apply τf))
      refine aw_mixN 11 [((2, nx + 2), .c [strA nm, int k, int n, .os 4 i (fun j => cndA (cs.getD j cnd0)) (nmd oi)]), ((1, nx + 1), .c [strA ⟨#[]⟩, int 0, int 0, .os 0 0 (fun _ => .any) none]), ((0, nx), .c [strA nm, int k, int n, cnds cs])] (fun i => match i with | 9 => true | _ => false) (fun i => match i with | 7 => true | _ => false) [0, 1, 2, 3, 4, 5, 6, 7, 8, 9, 10] (by kernel_rfl) (by kernel_rfl) (HB.refl _) ?_
      (repeat((conv=>whnf);first|apply ω0|apply ω1|apply ω2|refine τ3 rfl ?_|refine τ4 rfl ?_|refine ⟨rfl,?_⟩|apply τa|refine τb rfl ?_|refine ⟨⟨by kernel_rfl,by kernel_rfl⟩,?_⟩|refine ⟨by decide,?_⟩|apply τt|apply τf))
      refine ⟨⟨by dsimp only; omega, by dsimp only; omega⟩, ?_⟩
      (repeat((conv=>whnf);first|apply ω0|apply ω1|apply ω2|refine τ3 rfl ?_|refine τ4 rfl ?_|refine ⟨rfl,?_⟩|apply τa|refine τb rfl ?_|refine ⟨⟨by kernel_rfl,by kernel_rfl⟩,?_⟩|refine ⟨by decide,?_⟩|apply τt|apply τf))
      refine ⟨_, pure_tells rfl rfl rfl hcall ⟨AVle.refl _, trivial⟩ (noid_cndA _), ?_⟩
      (repeat((conv=>whnf);first|apply ω0|apply ω1|apply ω2|refine τ3 rfl ?_|refine τ4 rfl ?_|refine ⟨rfl,?_⟩|apply τa|refine τb rfl ?_|refine ⟨⟨by kernel_rfl,by kernel_rfl⟩,?_⟩|refine ⟨by decide,?_⟩|apply τt|apply τf))
      rcases oi with _ | id
      · obtain rfl := h4 rfl
        refine ⟨_, eff_append1 (e := 159) (c := 4) (pm := []) (n := 0) (oi := none) (sz := 4) (f := fun j => cndA (cs.getD j cnd0)) (HB.refl _) rfl rfl rfl (.inr ⟨_, rfl⟩) (by kernel_rfl) (by kernel_rfl) (by kernel_rfl) (.inr rfl) (by kernel_rfl) (List.append_nil _).symm (oneRow_one rfl) (by rw [bytes_cnd_l17]; omega) (by omega), fun r h' hr => ?_⟩
        obtain ⟨rfl, rfl⟩ := hr
        (repeat((conv=>whnf);first|apply ω0|apply ω1|apply ω2|refine τ3 rfl ?_|refine τ4 rfl ?_|refine ⟨rfl,?_⟩|apply τa|refine τb rfl ?_|refine ⟨⟨by kernel_rfl,by kernel_rfl⟩,?_⟩|refine ⟨by decide,?_⟩|apply τt|apply τf))
        refine back (0 + 1, some nx2, nx2 + 1) ⟨by dsimp only; omega, (fun h => by cases h)⟩ (by dsimp only; omega) (ele_tell (pm := [((0, nx2), (0 + 1) * 4)]) _ _ rfl rfl (List.Sublist.refl _) (List.Sublist.refl _) ⟨rfl, ⟨AVle.refl _, AVle.refl _, AVle.refl _, (AVle.os_fun (appF_one (fun k h => absurd h (Nat.not_lt_zero k)) ?_)).trans (AVle.os_nm rfl), trivial⟩, rfl, OwnLe.refl _, rfl, OwnLe.refl _, trivial⟩ ⟨rfl, rfl, trivial⟩ ⟨AVle.refl _, AVle.refl _, AVle.refl _, le_int (wrap_succ (by dsimp only; omega)), trivial⟩)
        rfl
      · refine ⟨_, eff_append1 (e := 159) (c := 4) (pm := []) (n := i) (oi := some (0, id)) (sz := 4) (f := fun j => cndA (cs.getD j cnd0)) (HB.refl _) rfl rfl rfl (.inr ⟨_, rfl⟩) (by kernel_rfl) (by kernel_rfl) (by kernel_rfl) (.inr rfl) (by kernel_rfl) (List.append_nil _).symm (oneRow_one rfl) (by rw [bytes_cnd_l17]; omega) (by omega), fun r h' hr => ?_⟩
        obtain ⟨rfl, rfl⟩ := hr
        (repeat((conv=>whnf);first|apply ω0|apply ω1|apply ω2|refine τ3 rfl ?_|refine τ4 rfl ?_|refine ⟨rfl,?_⟩|apply τa|refine τb rfl ?_|refine ⟨⟨by kernel_rfl,by kernel_rfl⟩,?_⟩|refine ⟨by decide,?_⟩|apply τt|apply τf))
        refine back (i + 1, some nx2, nx2 + 1) ⟨by dsimp only; omega, (fun h => by cases h)⟩ (by dsimp only; omega) (ele_tell (pm := [((0, nx2), (i + 1) * 4)]) _ _ rfl rfl (List.Sublist.refl _) (List.Sublist.refl _) ⟨rfl, ⟨AVle.refl _, AVle.refl _, AVle.refl _, (AVle.os_fun (appF_one (fun k hk => rfl) ?_)).trans (AVle.os_nm rfl), trivial⟩, rfl, OwnLe.refl _, rfl, OwnLe.refl _, trivial⟩ ⟨rfl, rfl, trivial⟩ ⟨AVle.refl _, AVle.refl _, AVle.refl _, le_int (wrap_succ (by dsimp only; omega)), trivial⟩)
        rfl

set_option maxHeartbeats 1000000 in
theorem oft_l17 (k n : Int) (rs : List Rul) (hl : rs.length ≤ 1000000) (hc : ∀ r ∈ rs, r.conds.length ≤ 1000000) : Tells Tryz.prog 13 [.ag [int k, int n, boolA true, ruls rs]] (.ag [int k, int n, boolA true, ruls rs]) := by
  refine tells_of_aw Tryz.func13 rfl rfl fun nx => ?_
  (repeat((conv=>whnf);first|apply ω0|apply ω1|apply ω2|refine τ3 rfl ?_|refine τ4 rfl ?_|refine ⟨rfl,?_⟩|apply τa|refine τb rfl ?_|refine ⟨⟨by kernel_rfl,by kernel_rfl⟩,?_⟩|refine ⟨by decide,?_⟩|apply τt|apply τf))
  refine aw_loop (fun s : Nat × Option Nat × Nat => mk 34 [(1, .bp (0, nx) 0), (2, .bp (1, nx + 1) 0), (3, .bp (2, nx + 2) 0), (4, int s.1)] ⟨[((2, nx + 2), .c [int k, int n, boolA true, .os 4 s.1 (fun j => rulA (rs.getD j rul0)) (nmd s.2.1)]), ((1, nx + 1), .c [int 0, int 0, boolA false, .os 0 0 (fun _ => .any) none]), ((0, nx), .c [int k, int n, boolA true, ruls rs])], pmOf (nmd s.2.1) (s.1 * 4), s.2.2, 3⟩) (fun s => s.1 ≤ rs.length ∧ (s.2.1 = none → s.1 = 0)) (fun s => rs.length - s.1) ?_ ?_
  · exact ⟨(0, none, nx + 3), ⟨Nat.zero_le _, fun _ => rfl⟩, ele_tell (pm := []) _ [] rfl rfl (List.Sublist.refl _) (List.Sublist.refl _) ⟨rfl, ⟨AVle.refl _, AVle.refl _, AVle.refl _, AVle.os_nil, trivial⟩, rfl, OwnLe.refl _, rfl, OwnLe.refl _, trivial⟩ trivial ⟨AVle.refl _, AVle.refl _, AVle.refl _, AVle.refl _, trivial⟩⟩
  · rintro ⟨i, oi, nx2⟩ ⟨h3, h4⟩
    dsimp only at h3 h4
    (repeat((conv=>whnf);first|apply ω0|apply ω1|apply ω2|refine τ3 rfl ?_|refine τ4 rfl ?_|refine ⟨rfl,?_⟩|apply τa|refine τb rfl ?_|refine ⟨⟨by kernel_rfl,by kernel_rfl⟩,?_⟩|refine ⟨by decide,?_⟩|apply τt|apply τf))
    intro c h5; cases c
    · have h6 := not_of h5
      dsimp only at h6
      obtain rfl : i = rs.length := by omega
      (repeat((conv=>whnf);first|apply ω0|apply ω1|apply ω2|refine τ3 rfl ?_|refine τ4 rfl ?_|refine ⟨rfl,?_⟩|apply τa|refine τb rfl ?_|refine ⟨⟨by kernel_rfl,by kernel_rfl⟩,?_⟩|refine ⟨by decide,?_⟩|apply τt|apply τf))
      exact ret_tells_all rfl ⟨rfl, trivial⟩ (AVle.ags ⟨AVle.refl _, AVle.refl _, AVle.refl _, AVle.os_sl, trivial⟩)
    · have h6 := yes_of h5
      dsimp only at h6
      have hi : i < rs.length := by omega
      have hcall := rule_l17 (rs.getD i rul0).name (rs.getD i rul0).act.1 (rs.getD i rul0).act.2 (rs.getD i rul0).conds (hc _ (by simp [List.getD, hi]))
      (repeat((conv=>whnf);first|apply ω0|apply ω1|apply ω2|refine τ3 rfl ?_|refine τ4 rfl ?_|refine ⟨rfl,?_⟩|apply τa|refine τb rfl ?_|refine ⟨⟨by kernel_rfl,by kernel_rfl⟩,?_⟩|refine ⟨by decide,?_⟩|apply τt|apply τf))
      refine aw_mixN 11 [((2, nx + 2), .c [int k, int n, boolA true, .os 4 i (fun j => rulA (rs.getD j rul0)) (nmd oi)]), ((1, nx + 1), .c [int 0, int 0, boolA false, .os 0 0 (fun _ => .any) none]), ((0, nx), .c [int k, int n, boolA true, ruls rs])] (fun i => match i with | 9 => true | _ => false) (fun i => match i with | 7 => true | _ => false) [0, 1, 2, 3, 4, 5, 6, 7, 8, 9, 10] (by kernel_rfl) (by kernel_rfl) (HB.refl _) ?_
      (repeat((conv=>whnf);first|apply ω0|apply ω1|apply ω2|refine τ3 rfl ?_|refine τ4 rfl ?_|refine ⟨rfl,?_⟩|apply τa|refine τb rfl ?_|refine ⟨⟨by kernel_rfl,by kernel_rfl⟩,?_⟩|refine ⟨by decide,?_⟩|apply τt|apply τf))
      refine ⟨⟨by dsimp only; omega, by dsimp only; omega⟩, ?_⟩
      (repeat((conv=>whnf);first|apply ω0|apply ω1|apply ω2|refine τ3 rfl ?_|refine τ4 rfl ?_|refine ⟨rfl,?_⟩|apply τa|refine τb rfl ?_|refine ⟨⟨by kernel_rfl,by kernel_rfl⟩,?_⟩|refine ⟨by decide,?_⟩|apply τt|apply τf))
      refine ⟨_, pure_tells rfl rfl rfl hcall ⟨AVle.refl _, trivial⟩ (noid_rul17 (rs.getD i rul0)), ?_⟩
      (repeat((conv=>whnf);first|apply ω0|apply ω1|apply ω2|refine τ3 rfl ?_|refine τ4 rfl ?_|refine ⟨rfl,?_⟩|apply τa|refine τb rfl ?_|refine ⟨⟨by kernel_rfl,by kernel_rfl⟩,?_⟩|refine ⟨by decide,?_⟩|apply τt|apply τf))
      rcases oi with _ | id
      · obtain rfl := h4 rfl
        refine ⟨_, eff_append1 (e := 85) (c := 4) (pm := []) (n := 0) (oi := none) (sz := 4) (f := fun j => rulA (rs.getD j rul0)) (HB.refl _) rfl rfl rfl (.inr ⟨_, rfl⟩) (by kernel_rfl) (by kernel_rfl) (by kernel_rfl) (.inr rfl) (by kernel_rfl) (List.append_nil _).symm (oneRow_one rfl) (by rw [bytes_rul_l17]; omega) (by omega), fun r h' hr => ?_⟩
        obtain ⟨rfl, rfl⟩ := hr
        (repeat((conv=>whnf);first|apply ω0|apply ω1|apply ω2|refine τ3 rfl ?_|refine τ4 rfl ?_|refine ⟨rfl,?_⟩|apply τa|refine τb rfl ?_|refine ⟨⟨by kernel_rfl,by kernel_rfl⟩,?_⟩|refine ⟨by decide,?_⟩|apply τt|apply τf))
        refine back (0 + 1, some nx2, nx2 + 1) ⟨by dsimp only; omega, (fun h => by cases h)⟩ (by dsimp only; omega) (ele_tell (pm := [((0, nx2), (0 + 1) * 4)]) _ _ rfl rfl (List.Sublist.refl _) (List.Sublist.refl _) ⟨rfl, ⟨AVle.refl _, AVle.refl _, AVle.refl _, (AVle.os_fun (appF_one (fun k h => absurd h (Nat.not_lt_zero k)) ?_)).trans (AVle.os_nm rfl), trivial⟩, rfl, OwnLe.refl _, rfl, OwnLe.refl _, trivial⟩ ⟨rfl, rfl, trivial⟩ ⟨AVle.refl _, AVle.refl _, AVle.refl _, le_int (wrap_succ (by dsimp only; omega)), trivial⟩)
        rfl
      · refine ⟨_, eff_append1 (e := 85) (c := 4) (pm := []) (n := i) (oi := some (0, id)) (sz := 4) (f := fun j => rulA (rs.getD j rul0)) (HB.refl _) rfl rfl rfl (.inr ⟨_, rfl⟩) (by kernel_rfl) (by kernel_rfl) (by kernel_rfl) (.inr rfl) (by kernel_rfl) (List.append_nil _).symm (oneRow_one rfl) (by rw [bytes_rul_l17]; omega) (by omega), fun r h' hr => ?_⟩
        obtain ⟨rfl, rfl⟩ := hr
        (repeat((conv=>whnf);first|apply ω0|apply ω1|apply ω2|refine τ3 rfl ?_|refine τ4 rfl ?_|refine ⟨rfl,?_⟩|apply τa|refine τb rfl ?_|refine ⟨⟨by kernel_rfl,by kernel_rfl⟩,?_⟩|refine ⟨by decide,?_⟩|apply τt|apply τf))
        refine back (i + 1, some nx2, nx2 + 1) ⟨by dsimp only; omega, (fun h => by cases h)⟩ (by dsimp only; omega) (ele_tell (pm := [((0, nx2), (i + 1) * 4)]) _ _ rfl rfl (List.Sublist.refl _) (List.Sublist.refl _) ⟨rfl, ⟨AVle.refl _, AVle.refl _, AVle.refl _, (AVle.os_fun (appF_one (fun k hk => rfl) ?_)).trans (AVle.os_nm rfl), trivial⟩, rfl, OwnLe.refl _, rfl, OwnLe.refl _, trivial⟩ ⟨rfl, rfl, trivial⟩ ⟨AVle.refl _, AVle.refl _, AVle.refl _, le_int (wrap_succ (by dsimp only; omega)), trivial⟩)
        rfl

set_option maxHeartbeats 1000000 in
theorem off_l17 (k n : Int) (rs : List Rul) (hl : rs.length ≤ 1000000) (hc : ∀ r ∈ rs, r.conds.length ≤ 1000000) : Tells Tryz.prog 13 [.ag [int k, int n, boolA false, ruls rs]] (.ag [int k, int n, boolA false, ruls rs]) := by
  refine tells_of_aw Tryz.func13 rfl rfl fun nx => ?_
  (repeat((conv=>whnf);first|apply ω0|apply ω1|apply ω2|refine τ3 rfl ?_|refine τ4 rfl ?_|refine ⟨rfl,?_⟩|apply τa|refine τb rfl ?_|refine ⟨⟨by kernel_rfl,by kernel_rfl⟩,?_⟩|refine ⟨by decide,?_⟩|apply τt|apply τf))
  refine aw_loop (fun s : Nat × Option Nat × Nat => mk 34 [(1, .bp (0, nx) 0), (2, .bp (1, nx + 1) 0), (3, .bp (2, nx + 2) 0), (4, int s.1)] ⟨[((2, nx + 2), .c [int k, int n, boolA false, .os 4 s.1 (fun j => rulA (rs.getD j rul0)) (nmd s.2.1)]), ((1, nx + 1), .c [int 0, int 0, boolA false, .os 0 0 (fun _ => .any) none]), ((0, nx), .c [int k, int n, boolA false, ruls rs])], pmOf (nmd s.2.1) (s.1 * 4), s.2.2, 3⟩) (fun s => s.1 ≤ rs.length ∧ (s.2.1 = none → s.1 = 0)) (fun s => rs.length - s.1) ?_ ?_
  · exact ⟨(0, none, nx + 3), ⟨Nat.zero_le _, fun _ => rfl⟩, ele_tell (pm := []) _ [] rfl rfl (List.Sublist.refl _) (List.Sublist.refl _) ⟨rfl, ⟨AVle.refl _, AVle.refl _, AVle.refl _, AVle.os_nil, trivial⟩, rfl, OwnLe.refl _, rfl, OwnLe.refl _, trivial⟩ trivial ⟨AVle.refl _, AVle.refl _, AVle.refl _, AVle.refl _, trivial⟩⟩
  · rintro ⟨i, oi, nx2⟩ ⟨h3, h4⟩
    dsimp only at h3 h4
    (repeat((conv=>whnf);first|apply ω0|apply ω1|apply ω2|refine τ3 rfl ?_|refine τ4 rfl ?_|refine ⟨rfl,?_⟩|apply τa|refine τb rfl ?_|refine ⟨⟨by kernel_rfl,by kernel_rfl⟩,?_⟩|refine ⟨by decide,?_⟩|apply τt|apply τf))
    intro c h5; cases c
    · have h6 := not_of h5
      dsimp only at h6
      obtain rfl : i = rs.length := by omega
      (repeat((conv=>whnf);first|apply ω0|apply ω1|apply ω2|refine τ3 rfl ?_|refine τ4 rfl ?_|refine ⟨rfl,?_⟩|apply τa|refine τb rfl ?_|refine ⟨⟨by kernel_rfl,by kernel_rfl⟩,?_⟩|refine ⟨by decide,?_⟩|apply τt|apply τf))
      exact ret_tells_all rfl ⟨rfl, trivial⟩ (AVle.ags ⟨AVle.refl _, AVle.refl _, AVle.refl _, AVle.os_sl, trivial⟩)
    · have h6 := yes_of h5
      dsimp only at h6
      have hi : i < rs.length := by omega
      have hcall := rule_l17 (rs.getD i rul0).name (rs.getD i rul0).act.1 (rs.getD i rul0).act.2 (rs.getD i rul0).conds (hc _ (by simp [List.getD, hi]))
      (repeat((conv=>whnf);first|apply ω0|apply ω1|apply ω2|refine τ3 rfl ?_|refine τ4 rfl ?_|refine ⟨rfl,?_⟩|apply τa|refine τb rfl ?_|refine ⟨⟨by kernel_rfl,by kernel_rfl⟩,?_⟩|refine ⟨by decide,?_⟩|apply τt|apply τf))
      refine aw_mixN 11 [((2, nx + 2), .c [int k, int n, boolA false, .os 4 i (fun j => rulA (rs.getD j rul0)) (nmd oi)]), ((1, nx + 1), .c [int 0, int 0, boolA false, .os 0 0 (fun _ => .any) none]), ((0, nx), .c [int k, int n, boolA false, ruls rs])] (fun i => match i with | 9 => true | _ => false) (fun i => match i with | 7 => true | _ => false) [0, 1, 2, 3, 4, 5, 6, 7, 8, 9, 10] (by kernel_rfl) (by kernel_rfl) (HB.refl _) ?_
      (repeat((conv=>whnf);first|apply ω0|apply ω1|apply ω2|refine τ3 rfl ?_|refine τ4 rfl ?_|refine ⟨rfl,?_⟩|apply τa|refine τb rfl ?_|refine ⟨⟨by kernel_rfl,by kernel_rfl⟩,?_⟩|refine ⟨by decide,?_⟩|apply τt|apply τf))
      refine ⟨⟨by dsimp only; omega, by dsimp only; omega⟩, ?_⟩
      (repeat((conv=>whnf);first|apply ω0|apply ω1|apply ω2|refine τ3 rfl ?_|refine τ4 rfl ?_|refine ⟨rfl,?_⟩|apply τa|refine τb rfl ?_|refine ⟨⟨by kernel_rfl,by kernel_rfl⟩,?_⟩|refine ⟨by decide,?_⟩|apply τt|apply τf))
      refine ⟨_, pure_tells rfl rfl rfl hcall ⟨AVle.refl _, trivial⟩ (noid_rul17 (rs.getD i rul0)), ?_⟩
      (repeat((conv=>whnf);first|apply ω0|apply ω1|apply ω2|refine τ3 rfl ?_|refine τ4 rfl ?_|refine ⟨rfl,?_⟩|apply τa|refine τb rfl ?_|refine ⟨⟨by kernel_rfl,by kernel_rfl⟩,?_⟩|refine ⟨by decide,?_⟩|apply τt|apply τf))
      rcases oi with _ | id
      · obtain rfl := h4 rfl
        refine ⟨_, eff_append1 (e := 85) (c := 4) (pm := []) (n := 0) (oi := none) (sz := 4) (f := fun j => rulA (rs.getD j rul0)) (HB.refl _) rfl rfl rfl (.inr ⟨_, rfl⟩) (by kernel_rfl) (by kernel_rfl) (by kernel_rfl) (.inr rfl) (by kernel_rfl) (List.append_nil _).symm (oneRow_one rfl) (by rw [bytes_rul_l17]; omega) (by omega), fun r h' hr => ?_⟩
        obtain ⟨rfl, rfl⟩ := hr
        (repeat((conv=>whnf);first|apply ω0|apply ω1|apply ω2|refine τ3 rfl ?_|refine τ4 rfl ?_|refine ⟨rfl,?_⟩|apply τa|refine τb rfl ?_|refine ⟨⟨by kernel_rfl,by kernel_rfl⟩,?_⟩|refine ⟨by decide,?_⟩|apply τt|apply τf))
        refine back (0 + 1, some nx2, nx2 + 1) ⟨by dsimp only; omega, (fun h => by cases h)⟩ (by dsimp only; omega) (ele_tell (pm := [((0, nx2), (0 + 1) * 4)]) _ _ rfl rfl (List.Sublist.refl _) (List.Sublist.refl _) ⟨rfl, ⟨AVle.refl _, AVle.refl _, AVle.refl _, (AVle.os_fun (appF_one (fun k h => absurd h (Nat.not_lt_zero k)) ?_)).trans (AVle.os_nm rfl), trivial⟩, rfl, OwnLe.refl _, rfl, OwnLe.refl _, trivial⟩ ⟨rfl, rfl, trivial⟩ ⟨AVle.refl _, AVle.refl _, AVle.refl _, le_int (wrap_succ (by dsimp only; omega)), trivial⟩)
        rfl
      · refine ⟨_, eff_append1 (e := 85) (c := 4) (pm := []) (n := i) (oi := some (0, id)) (sz := 4) (f := fun j => rulA (rs.getD j rul0)) (HB.refl _) rfl rfl rfl (.inr ⟨_, rfl⟩) (by kernel_rfl) (by kernel_rfl) (by kernel_rfl) (.inr rfl) (by kernel_rfl) (List.append_nil _).symm (oneRow_one rfl) (by rw [bytes_rul_l17]; omega) (by omega), fun r h' hr => ?_⟩
        obtain ⟨rfl, rfl⟩ := hr
        (repeat((conv=>whnf);first|apply ω0|apply ω1|apply ω2|refine τ3 rfl ?_|refine τ4 rfl ?_|refine ⟨rfl,?_⟩|apply τa|refine τb rfl ?_|refine ⟨⟨by kernel_rfl,by kernel_rfl⟩,?_⟩|refine ⟨by decide,?_⟩|apply τt|apply τf))
        refine back (i + 1, some nx2, nx2 + 1) ⟨by dsimp only; omega, (fun h => by cases h)⟩ (by dsimp only; omega) (ele_tell (pm := [((0, nx2), (i + 1) * 4)]) _ _ rfl rfl (List.Sublist.refl _) (List.Sublist.refl _) ⟨rfl, ⟨AVle.refl _, AVle.refl _, AVle.refl _, (AVle.os_fun (appF_one (fun k hk => rfl) ?_)).trans (AVle.os_nm rfl), trivial⟩, rfl, OwnLe.refl _, rfl, OwnLe.refl _, trivial⟩ ⟨rfl, rfl, trivial⟩ ⟨AVle.refl _, AVle.refl _, AVle.refl _, le_int (wrap_succ (by dsimp only; omega)), trivial⟩)
        rfl
theorem pol_l17 (p : Pol) (hl : p.rules.length ≤ 1000000) (hc : ∀ r ∈ p.rules, r.conds.length ≤ 1000000) : Tells Tryz.prog 13 [polA p] (polA p) := by
  obtain ⟨⟨k, n⟩, x, rs⟩ := p
  cases x
  · exact off_l17 k n rs hl hc
  · exact oft_l17 k n rs hl hc
end Go.Proofs.W

namespace Go.Proofs.W
open Go.Vl
set_option maxRecDepth 100000

theorem light_l17 (p : Pol) (hl : p.rules.length ≤ maxLen) : Tells Tryz.prog 9 [polA p] (boolA (lightP p)) := by
  obtain ⟨⟨k, n⟩, x, rs⟩ := p
  dsimp only at hl
  refine tells_of_aw Tryz.func9 rfl rfl fun nx => ?_
  (repeat((conv=>whnf);first|apply ω0|apply ω1|apply ω2|refine τ3 rfl ?_|refine τ4 rfl ?_|refine ⟨rfl,?_⟩|apply τa|refine τb rfl ?_|refine ⟨⟨by kernel_rfl,by kernel_rfl⟩,?_⟩|refine ⟨by decide,?_⟩|apply τt|apply τf))
  intro c g1; cases c
  rotate_left
  · (repeat((conv=>whnf);first|apply ω0|apply ω1|apply ω2|refine τ3 rfl ?_|refine τ4 rfl ?_|refine ⟨rfl,?_⟩|apply τa|refine τb rfl ?_|refine ⟨⟨by kernel_rfl,by kernel_rfl⟩,?_⟩|refine ⟨by decide,?_⟩|apply τt|apply τf))
    have g1 : ((rs.length : Nat) : Int) > 40 := yes_of g1
    exact ret_tells rfl (le_bool (by show false = (decide (rs.length ≤ 40) && _); rw [decide_eq_false (by omega)]; rfl))
  have g1 : ¬ ((rs.length : Nat) : Int) > 40 := not_of g1
  have h40 : rs.length ≤ 40 := by omega
  (repeat((conv=>whnf);first|apply ω0|apply ω1|apply ω2|refine τ3 rfl ?_|refine τ4 rfl ?_|refine ⟨rfl,?_⟩|apply τa|refine τb rfl ?_|refine ⟨⟨by kernel_rfl,by kernel_rfl⟩,?_⟩|refine ⟨by decide,?_⟩|apply τt|apply τf))
  refine aw_loop (fun s : Nat × Nat => mk 33 [(1, .bp (0, nx) 0), (3, int s.1)] ⟨[((0, nx), .c [int k, int n, boolA x, ruls rs])], [], s.2, 1⟩) (fun s => s.1 ≤ rs.length ∧ ∀ j, j < s.1 → lightR (rs.getD j rul0) = true) (fun s => rs.length - s.1) ?_ ?_
  · exact ⟨(0, nx + 1), ⟨Nat.zero_le _, fun j h => absurd h (Nat.not_lt_zero _)⟩, ele_tell (pm := []) _ [] rfl rfl (List.Sublist.refl _) (List.Sublist.refl _) ⟨rfl, OwnLe.refl _, trivial⟩ trivial ⟨AVle.refl _, AVle.refl _, trivial⟩⟩
  · rintro ⟨i, nx2⟩ ⟨h3, h4⟩
    dsimp only at h3 h4
    (repeat((conv=>whnf);first|apply ω0|apply ω1|apply ω2|refine τ3 rfl ?_|refine τ4 rfl ?_|refine ⟨rfl,?_⟩|apply τa|refine τb rfl ?_|refine ⟨⟨by kernel_rfl,by kernel_rfl⟩,?_⟩|refine ⟨by decide,?_⟩|apply τt|apply τf))
    intro c h5; cases c
    · have h6 := not_of h5
      dsimp only at h6
      obtain rfl : i = rs.length := by omega
      (repeat((conv=>whnf);first|apply ω0|apply ω1|apply ω2|refine τ3 rfl ?_|refine τ4 rfl ?_|refine ⟨rfl,?_⟩|apply τa|refine τb rfl ?_|refine ⟨⟨by kernel_rfl,by kernel_rfl⟩,?_⟩|refine ⟨by decide,?_⟩|apply τt|apply τf))
      refine ret_tells rfl (le_bool ?_)
      show true = (decide (rs.length ≤ 40) && rs.all lightR)
      rw [decide_eq_true h40, Bool.true_and, eq_comm, List.all_eq_true]
      intro r hr
      obtain ⟨j, hj, rfl⟩ := List.getElem_of_mem hr
      have := h4 j hj
      simpa [List.getD, hj] using this
    · have h6 := yes_of h5
      dsimp only at h6
      have hi : i < rs.length := by omega
      have hbad : ∀ b : Bool, lightR (rs.getD i rul0) = false → false = lightP ⟨(k, n), x, rs⟩ := fun b hb => by
        show false = (decide (rs.length ≤ 40) && rs.all lightR)
        rw [decide_eq_true h40, Bool.true_and, eq_comm, List.all_eq_false]
        exact ⟨rs.getD i rul0, by simp [List.getD, hi], by rw [hb]; decide⟩
      (repeat((conv=>whnf);first|apply ω0|apply ω1|apply ω2|refine τ3 rfl ?_|refine τ4 rfl ?_|refine ⟨rfl,?_⟩|apply τa|refine τb rfl ?_|refine ⟨⟨by kernel_rfl,by kernel_rfl⟩,?_⟩|refine ⟨by decide,?_⟩|apply τt|apply τf))
      refine ⟨⟨by dsimp only; omega, by dsimp only; omega⟩, ?_⟩
      (repeat((conv=>whnf);first|apply ω0|apply ω1|apply ω2|refine τ3 rfl ?_|refine τ4 rfl ?_|refine ⟨rfl,?_⟩|apply τa|refine τb rfl ?_|refine ⟨⟨by kernel_rfl,by kernel_rfl⟩,?_⟩|refine ⟨by decide,?_⟩|apply τt|apply τf))
      intro c t1; cases c
      · have t1 : ¬ (((rs.getD i rul0).name.size : Nat) : Int) > 60 := not_of t1
        (repeat((conv=>whnf);first|apply ω0|apply ω1|apply ω2|refine τ3 rfl ?_|refine τ4 rfl ?_|refine ⟨rfl,?_⟩|apply τa|refine τb rfl ?_|refine ⟨⟨by kernel_rfl,by kernel_rfl⟩,?_⟩|refine ⟨by decide,?_⟩|apply τt|apply τf))
        refine ⟨⟨by dsimp only; omega, by dsimp only; omega⟩, ?_⟩
        (repeat((conv=>whnf);first|apply ω0|apply ω1|apply ω2|refine τ3 rfl ?_|refine τ4 rfl ?_|refine ⟨rfl,?_⟩|apply τa|refine τb rfl ?_|refine ⟨⟨by kernel_rfl,by kernel_rfl⟩,?_⟩|refine ⟨by decide,?_⟩|apply τt|apply τf))
        intro c t2; cases c
        · have t2 : ¬ (((rs.getD i rul0).conds.length : Nat) : Int) > 12 := not_of t2
          (repeat((conv=>whnf);first|apply ω0|apply ω1|apply ω2|refine τ3 rfl ?_|refine τ4 rfl ?_|refine ⟨rfl,?_⟩|apply τa|refine τb rfl ?_|refine ⟨⟨by kernel_rfl,by kernel_rfl⟩,?_⟩|refine ⟨by decide,?_⟩|apply τt|apply τf))
          refine back (i + 1, nx2) ⟨by dsimp only; omega, fun j hj => ?_⟩ (by dsimp only; omega) (ele_tell (pm := []) _ [] rfl rfl (List.Sublist.refl _) (List.Sublist.refl _) ⟨rfl, OwnLe.refl _, trivial⟩ trivial ⟨AVle.refl _, le_int (wrap_succ (by dsimp only; omega)), trivial⟩)
          dsimp only at hj
          rcases Nat.lt_or_ge j i with h | h
          · exact h4 j h
          · obtain rfl : j = i := by omega
            unfold lightR
            rw [decide_eq_true (by omega), decide_eq_true (by omega)]; rfl
        · have t2 : (((rs.getD i rul0).conds.length : Nat) : Int) > 12 := yes_of t2
          (repeat((conv=>whnf);first|apply ω0|apply ω1|apply ω2|refine τ3 rfl ?_|refine τ4 rfl ?_|refine ⟨rfl,?_⟩|apply τa|refine τb rfl ?_|refine ⟨⟨by kernel_rfl,by kernel_rfl⟩,?_⟩|refine ⟨by decide,?_⟩|apply τt|apply τf))
          exact ret_tells rfl (le_bool (hbad true (by unfold lightR; rw [decide_eq_false (p := (rs.getD i rul0).conds.length ≤ 12) (by omega), Bool.and_false])))
      · have t1 : (((rs.getD i rul0).name.size : Nat) : Int) > 60 := yes_of t1
        (repeat((conv=>whnf);first|apply ω0|apply ω1|apply ω2|refine τ3 rfl ?_|refine τ4 rfl ?_|refine ⟨rfl,?_⟩|apply τa|refine τb rfl ?_|refine ⟨⟨by kernel_rfl,by kernel_rfl⟩,?_⟩|refine ⟨by decide,?_⟩|apply τt|apply τf))
        exact ret_tells rfl (le_bool (hbad true (by unfold lightR; rw [decide_eq_false (p := (rs.getD i rul0).name.size ≤ 60) (by omega), Bool.false_and])))
end Go.Proofs.W

namespace Go.Proofs.W
open Go.Vl
set_option maxRecDepth 100000

theorem ownEq_trow {a b : Own} (h : a = b) : OwnLe a b := h ▸ OwnLe.refl a
theorem gr_trow : growOk Tryz.prog 106 = true := by kernel_rfl
theorem gc_trow : Tryz.prog.cellsOf 106 = 8 := by kernel_rfl
theorem gb_trow : Tryz.prog.bytesOf 106 = 72 := by kernel_rfl
theorem gl_trow (x : TRow) : (trowA x).cells.length = 8 := rfl
theorem g1_trow (x : TRow) : (trowA x).cells.all isOne = true := rfl
/-- slices.Grow of nil: a box with room. -/
theorem grow_trow (n : Nat) (h0 : 0 < n) (hn : n ≤ 100000) (nx : Nat) :
    ECall Tryz.prog 142 [.os 0 0 (fun _ => .any) none, int n] ⟨[], [], nx, 0⟩ (fun r h' => ∃ s cap nx' nn', n ≤ cap ∧ r = .hs (0, s) 0 0 cap ∧ h' = ⟨[((0, s), .c (List.replicate (cap * 8) .any))], [], nx', nn'⟩) := by
  refine ECall.wk (ecall_of_aw Tryz.func142 rfl rfl ?_)
  (repeat((conv=>whnf);first|apply ω0|apply ω1|apply ω2|refine τ3 rfl ?_|refine τ4 rfl ?_|refine ⟨rfl,?_⟩|apply τa|refine τb rfl ?_|refine ⟨⟨by kernel_rfl,by kernel_rfl⟩,?_⟩|refine ⟨by decide,?_⟩|apply τt|apply τf))
  refine aop_cap0 rfl rfl Tryz.underlying49 ?_
  (repeat((conv=>whnf);first|apply ω0|apply ω1|apply ω2|refine τ3 rfl ?_|refine τ4 rfl ?_|refine ⟨rfl,?_⟩|apply τa|refine τb rfl ?_|refine ⟨⟨by kernel_rfl,by kernel_rfl⟩,?_⟩|refine ⟨by decide,?_⟩|apply τt|apply τf))
  intro c hc
  replace hc : c = decide (IntKind.i64.wrap ((n : Int) - 0) > 0) := hc
  rw [wrap_id (by omega) (by omega), decide_eq_true (by omega)] at hc
  subst hc
  (repeat((conv=>whnf);first|apply ω0|apply ω2|refine τ3 rfl ?_|refine τ4 rfl ?_|refine ⟨rfl,?_⟩|apply τa|refine τb rfl ?_|refine ⟨⟨by kernel_rfl,by kernel_rfl⟩,?_⟩|refine ⟨by decide,?_⟩|apply τt|apply τf))
  refine aw_regionY (fun i => match i with | 7 => true | 6 => true | 4 => true | 1 => true | _ => false) 10 ?_
  (repeat((conv=>whnf);first|apply ω0|apply ω1|apply ω2|refine τ3 rfl ?_|refine τ4 rfl ?_|refine ⟨rfl,?_⟩|apply τa|refine τb rfl ?_|refine ⟨⟨by kernel_rfl,by kernel_rfl⟩,?_⟩|refine ⟨by decide,?_⟩|apply τt|apply τf))
  refine aop_cap0 rfl rfl Tryz.underlying49 ?_
  (repeat((conv=>whnf);first|apply ω0|apply ω1|apply ω2|refine τ3 rfl ?_|refine τ4 rfl ?_|refine ⟨rfl,?_⟩|apply τa|refine τb rfl ?_|refine ⟨⟨by kernel_rfl,by kernel_rfl⟩,?_⟩|refine ⟨by decide,?_⟩|apply τt|apply τf))
  refine aop_cut0 rfl rfl rfl Tryz.underlying49 Tryz.underlying106 ?_
  (repeat((conv=>whnf);first|apply ω0|apply ω1|apply ω2|refine τ3 rfl ?_|refine τ4 rfl ?_|refine ⟨rfl,?_⟩|apply τa|refine τb rfl ?_|refine ⟨⟨by kernel_rfl,by kernel_rfl⟩,?_⟩|refine ⟨by decide,?_⟩|apply τt|apply τf))
  have hw : IntKind.i64.wrap ((n : Int) - 0) = n := by rw [wrap_id (by omega) (by omega)]; omega
  refine aop_appendZB0 (m := n) (kq := .i64) (kn := .i64) (e := 106) rfl rfl (congrArg (fun z => AV.v (.int .i64 z)) hw) (by omega) Tryz.underlying3 Tryz.underlying49 gr_trow (by rw [gb_trow]; omega) (by omega) fun cap hcap => ?_
  (repeat((conv=>whnf);first|apply ω0|apply ω1|apply ω2|refine τ3 rfl ?_|refine τ4 rfl ?_|refine ⟨rfl,?_⟩|apply τa|refine τb rfl ?_|refine ⟨⟨by kernel_rfl,by kernel_rfl⟩,?_⟩|refine ⟨by decide,?_⟩|apply τt|apply τf))
  refine aop_cutB (l := 0) (k' := .i64) rfl rfl rfl Tryz.underlying49 Tryz.underlying106 (Nat.zero_le _) (by omega) ?_
  (repeat((conv=>whnf);first|apply ω0|apply ω1|apply ω2|refine τ3 rfl ?_|refine τ4 rfl ?_|refine ⟨rfl,?_⟩|apply τa|refine τb rfl ?_|refine ⟨⟨by kernel_rfl,by kernel_rfl⟩,?_⟩|refine ⟨by decide,?_⟩|apply τt|apply τf))
  exact ret_is rfl ⟨_, _, AVle.refl _, HLe.refl _, nx, cap, _, _, hcap, rfl, by rw [gc_trow]; rfl⟩
theorem grow0_trow : Tells Tryz.prog 142 [.os 0 0 (fun _ => .any) none, int (0 : Nat)] (.os 0 0 (fun _ => .any) none) := by
  refine tells_of_aw Tryz.func142 rfl rfl fun nx => ?_
  (repeat((conv=>whnf);first|apply ω0|apply ω1|apply ω2|refine τ3 rfl ?_|refine τ4 rfl ?_|refine ⟨rfl,?_⟩|apply τa|refine τb rfl ?_|refine ⟨⟨by kernel_rfl,by kernel_rfl⟩,?_⟩|refine ⟨by decide,?_⟩|apply τt|apply τf))
  refine aop_cap0 rfl rfl Tryz.underlying49 ?_
  (repeat((conv=>whnf);first|apply ω0|apply ω1|apply ω2|refine τ3 rfl ?_|refine τ4 rfl ?_|refine ⟨rfl,?_⟩|apply τa|refine τb rfl ?_|refine ⟨⟨by kernel_rfl,by kernel_rfl⟩,?_⟩|refine ⟨by decide,?_⟩|apply τt|apply τf))
  exact ret_tells rfl (AVle.refl _)
/-- Rows, one behind the other. -/
def rows2_trow (L : List (List TRow)) (oi : Option Vl.Id) : AV := .os 1 L.length (fun k => slOf 8 trowA trow0 (L.getD k [])) oi
theorem flat_trow (l : List TRow) : rowCells l.length (fun k => trowA (l.getD k trow0)) = l.flatMap fun x => (trowA x).cells := by
  have key : ∀ m, m ≤ l.length → rowCells m (fun k => trowA (l.getD k trow0)) = (l.take m).flatMap fun x => (trowA x).cells := by
    intro m
    induction m with
    | zero => intro _; rfl
    | succ m ih =>
      intro hm
      have hm' : m < l.length := by omega
      have e : rowCells (m + 1) (fun k => trowA (l.getD k trow0)) = rowCells m (fun k => trowA (l.getD k trow0)) ++ (trowA (l.getD m trow0)).cells := by unfold rowCells; rw [List.range_succ, List.flatMap_append]; simp
      rw [e, ih (by omega), List.take_add_one, List.flatMap_append]
      simp [List.getD, hm']
  rw [key _ (Nat.le_refl _), List.take_of_length_le (Nat.le_refl _)]
theorem flen_trow (l : List TRow) : (l.flatMap fun x => (trowA x).cells).length = l.length * 8 := by
  induction l with
  | nil => rfl
  | cons x l ih => rw [List.flatMap_cons, List.length_append, ih, gl_trow, List.length_cons]; omega
theorem fget_trow (l : List TRow) (k j : Nat) (hk : k < l.length) (hj : j < 8) : (l.flatMap fun x => (trowA x).cells)[k * 8 + j]? = (trowA (l.getD k trow0)).cells[j]? := by
  rw [← flat_trow]
  exact (rowCells_get (sz := 8) (fun i hi => gl_trow _)).2 k j hk hj
set_option maxHeartbeats 1000000 in
theorem concat_trow (L : List (List TRow)) (hL : L.length ≤ 1000) (hn : L.flatten.length ≤ 100000) (oi : Option Vl.Id) : Tells Tryz.prog 91 [rows2_trow L none] (slOf 8 trowA trow0 L.flatten) := by
  have hpre : ∀ i, i < L.length → (L.take (i + 1)).flatten.length = (L.take i).flatten.length + (L.getD i []).length := fun i hi => by
    rw [take_getD [] hi, List.flatten_append, List.length_append]; simp
  have hle : ∀ i, (L.take i).flatten.length ≤ L.flatten.length := fun i => by
    conv => rhs; rw [← List.take_append_drop i L, List.flatten_append, List.length_append]
    omega
  refine tells_of_aw Tryz.func91 rfl rfl fun nx => ?_
  (repeat((conv=>whnf);first|apply ω0|apply ω1|apply ω2|refine τ3 rfl ?_|refine τ4 rfl ?_|refine ⟨rfl,?_⟩|apply τa|refine τb rfl ?_|refine ⟨⟨by kernel_rfl,by kernel_rfl⟩,?_⟩|refine ⟨by decide,?_⟩|apply τt|apply τf))
  refine aw_midB (fun y : Nat => mk 36 [(0, rows2_trow L none), (3, int (L.flatten.length : Nat))] ⟨[], [], y, 0⟩) (fun _ => True) ?_ ?_
  · refine aw_loop (fun y : Nat × Nat => mk 36 [(0, rows2_trow L none), (3, int ((L.take y.1).flatten.length : Nat)), (9, rows2_trow L none), (10, int L.length), (11, int y.1)] ⟨[], [], y.2, 0⟩) (fun y => y.1 ≤ L.length) (fun y => L.length - y.1) ?_ ?_
    · exact ⟨(0, nx), Nat.zero_le _, ele_keep rfl rfl (List.Sublist.refl _) (List.Sublist.refl _) ⟨AVle.refl _, AVle.refl _, AVle.refl _, AVle.refl _, AVle.refl _, trivial⟩⟩
    · rintro ⟨i, nx1⟩ h1
      dsimp only at h1
      (repeat((conv=>whnf);first|apply ω0|apply ω1|apply ω2|refine τ3 rfl ?_|refine τ4 rfl ?_|refine ⟨rfl,?_⟩|apply τa|refine τb rfl ?_|refine ⟨⟨by kernel_rfl,by kernel_rfl⟩,?_⟩|refine ⟨by decide,?_⟩|apply τt|apply τf))
      intro c g; cases c
      · have g := not_of g
        try dsimp only at g
        obtain rfl : i = L.length := by omega
        (repeat((conv=>whnf);first|apply ω0|apply ω1|apply ω2|refine τ3 rfl ?_|refine τ4 rfl ?_|refine ⟨rfl,?_⟩|apply τa|refine τb rfl ?_|refine ⟨⟨by kernel_rfl,by kernel_rfl⟩,?_⟩|refine ⟨by decide,?_⟩|apply τt|apply τf))
        refine ⟨nx1, trivial, ele_keep rfl rfl (List.Sublist.refl _) (List.Sublist.refl _) ⟨AVle.refl _, ?_, trivial⟩⟩
        exact AVle.of_eq (congrArg (fun z : List (List TRow) => int (z.flatten.length : Nat)) List.take_length)
      · have g := yes_of g
        try dsimp only at g
        have hi : i < L.length := by omega
        have e1 := hpre i hi
        have e2 := hle (i + 1)
        (repeat((conv=>whnf);first|apply ω0|apply ω1|apply ω2|refine τ3 rfl ?_|refine τ4 rfl ?_|refine ⟨rfl,?_⟩|apply τa|refine τb rfl ?_|refine ⟨⟨by kernel_rfl,by kernel_rfl⟩,?_⟩|refine ⟨by decide,?_⟩|apply τt|apply τf))
        refine ⟨⟨by first | omega | (dsimp only; omega), by first | omega | (dsimp only; omega)⟩, ?_⟩
        have hw : IntKind.i64.wrap ((((L.take i).flatten.length : Nat) : Int) + ((L.getD i []).length : Int)) = (((L.take (i + 1)).flatten.length : Nat) : Int) := by rw [wrap_id (by omega) (by omega)]; omega
        (repeat((conv=>whnf);first|apply ω0|apply ω1|apply ω2|refine τ3 rfl ?_|refine τ4 rfl ?_|refine ⟨rfl,?_⟩|apply τa|refine τb rfl ?_|refine ⟨⟨by kernel_rfl,by kernel_rfl⟩,?_⟩|refine ⟨by decide,?_⟩|apply τt|apply τf))
        intro c hc
        replace hc : c = decide (IntKind.i64.wrap ((((L.take i).flatten.length : Nat) : Int) + ((L.getD i []).length : Int)) < 0) := hc
        rw [hw, decide_eq_false (by omega)] at hc
        subst hc
        (repeat((conv=>whnf);first|apply ω0|apply ω1|apply ω2|refine τ3 rfl ?_|refine τ4 rfl ?_|refine ⟨rfl,?_⟩|apply τa|refine τb rfl ?_|refine ⟨⟨by kernel_rfl,by kernel_rfl⟩,?_⟩|refine ⟨by decide,?_⟩|apply τt|apply τf))
        exact back (i + 1, nx1) hi (by dsimp only; omega) (ele_keep rfl rfl (List.Sublist.refl _) (List.Sublist.refl _) ⟨AVle.refl _, le_int hw, AVle.refl _, AVle.refl _, le_int (wrap_succ (by first | omega | (dsimp only; omega))), trivial⟩)
  · intro nx1 _
    rcases Nat.eq_zero_or_pos L.flatten.length with h0 | h0
    · have hemp : ∀ i, i < L.length → (L.getD i []).length = 0 := fun i hi => by
        have := hpre i hi; have := hle (i + 1); omega
      have hnil : L.flatten = [] := List.eq_nil_of_length_eq_zero h0
      rw [hnil]
      (repeat((conv=>whnf);first|apply ω0|apply ω1|apply ω2|refine τ3 rfl ?_|refine τ4 rfl ?_|refine ⟨rfl,?_⟩|apply τa|refine τb rfl ?_|refine ⟨⟨by kernel_rfl,by kernel_rfl⟩,?_⟩|refine ⟨by decide,?_⟩|apply τt|apply τf))
      refine aop_tells rfl rfl grow0_trow ⟨AVle.refl _, AVle.refl _, trivial⟩ fun nx2 => ?_
      (repeat((conv=>whnf);first|apply ω0|apply ω1|apply ω2|refine τ3 rfl ?_|refine τ4 rfl ?_|refine ⟨rfl,?_⟩|apply τa|refine τb rfl ?_|refine ⟨⟨by kernel_rfl,by kernel_rfl⟩,?_⟩|refine ⟨by decide,?_⟩|apply τt|apply τf))
      refine aw_loop (fun y : Nat × Nat => mk 36 [(6, .os 0 0 (fun _ => .any) none), (25, rows2_trow L none), (26, int L.length), (27, int y.1)] ⟨[], [], y.2, 0⟩) (fun y => y.1 ≤ L.length) (fun y => L.length - y.1) ?_ ?_
      · exact ⟨(0, nx2), Nat.zero_le _, ele_keep rfl rfl (List.Sublist.refl _) (List.Sublist.refl _) ⟨AVle.refl _, AVle.refl _, AVle.refl _, AVle.refl _, trivial⟩⟩
      · rintro ⟨i, nx3⟩ h1
        dsimp only at h1
        (repeat((conv=>whnf);first|apply ω0|apply ω1|apply ω2|refine τ3 rfl ?_|refine τ4 rfl ?_|refine ⟨rfl,?_⟩|apply τa|refine τb rfl ?_|refine ⟨⟨by kernel_rfl,by kernel_rfl⟩,?_⟩|refine ⟨by decide,?_⟩|apply τt|apply τf))
        intro c g; cases c
        · (repeat((conv=>whnf);first|apply ω0|apply ω1|apply ω2|refine τ3 rfl ?_|refine τ4 rfl ?_|refine ⟨rfl,?_⟩|apply τa|refine τb rfl ?_|refine ⟨⟨by kernel_rfl,by kernel_rfl⟩,?_⟩|refine ⟨by decide,?_⟩|apply τt|apply τf))
          exact ret_tells rfl AVle.os_sl0
        · have g := yes_of g
          try dsimp only at g
          have hi : i < L.length := by omega
          have e1 := hemp i hi
          have e2 : L.getD i [] = [] := List.eq_nil_of_length_eq_zero e1
          (repeat((conv=>whnf);first|apply ω0|apply ω1|apply ω2|refine τ3 rfl ?_|refine τ4 rfl ?_|refine ⟨rfl,?_⟩|apply τa|refine τb rfl ?_|refine ⟨⟨by kernel_rfl,by kernel_rfl⟩,?_⟩|refine ⟨by decide,?_⟩|apply τt|apply τf))
          refine ⟨⟨by first | omega | (dsimp only; omega), by first | omega | (dsimp only; omega)⟩, ?_⟩
          (repeat((conv=>whnf);first|apply ω0|apply ω1|apply ω2|refine τ3 rfl ?_|refine τ4 rfl ?_|refine ⟨rfl,?_⟩|apply τa|refine τb rfl ?_|refine ⟨⟨by kernel_rfl,by kernel_rfl⟩,?_⟩|refine ⟨by decide,?_⟩|apply τt|apply τf))
          refine appK_intro (fun _ => ?_) (fun h => absurd e1 h)
          (repeat((conv=>whnf);first|apply ω0|apply ω1|apply ω2|refine τ3 rfl ?_|refine τ4 rfl ?_|refine ⟨rfl,?_⟩|apply τa|refine τb rfl ?_|refine ⟨⟨by kernel_rfl,by kernel_rfl⟩,?_⟩|refine ⟨by decide,?_⟩|apply τt|apply τf))
          exact back (i + 1, nx3) hi (by dsimp only; omega) (ele_keep rfl rfl (List.Sublist.refl _) (List.Sublist.refl _) ⟨AVle.refl _, AVle.refl _, AVle.refl _, le_int (wrap_succ (by first | omega | (dsimp only; omega))), trivial⟩)
    · (repeat((conv=>whnf);first|apply ω0|apply ω1|apply ω2|refine τ3 rfl ?_|refine τ4 rfl ?_|refine ⟨rfl,?_⟩|apply τa|refine τb rfl ?_|refine ⟨⟨by kernel_rfl,by kernel_rfl⟩,?_⟩|refine ⟨by decide,?_⟩|apply τt|apply τf))
      refine aop_callF (xs := [.os 0 0 (fun _ => .any) none, int (L.flatten.length : Nat)]) [] [] 1 rfl rfl rfl rfl ⟨AVle.refl _, AVle.refl _, trivial⟩ (grow_trow L.flatten.length h0 hn nx1) (BxLe.refl _) (PmEq.refl _) rfl fun r h' hq => ?_
      obtain ⟨s, cap, nx2, nn2, hcap, rfl, rfl⟩ := hq
      (repeat((conv=>whnf);first|apply ω0|apply ω1|apply ω2|refine τ3 rfl ?_|refine τ4 rfl ?_|refine ⟨rfl,?_⟩|apply τa|refine τb rfl ?_|refine ⟨⟨by kernel_rfl,by kernel_rfl⟩,?_⟩|refine ⟨by decide,?_⟩|apply τt|apply τf))
      refine aw_loop (fun y : Nat × List AV × Nat => mk 36 [(6, .hs (0, s) 0 ((L.take y.1).flatten.length) cap), (25, rows2_trow L none), (26, int L.length), (27, int y.1)] ⟨[((0, s), .c y.2.1)], [], y.2.2, 1⟩) (fun y => y.1 ≤ L.length ∧ y.2.1.length = cap * 8 ∧ y.2.1.take ((L.take y.1).flatten.length * 8) = (L.take y.1).flatten.flatMap fun x => (trowA x).cells) (fun y => L.length - y.1) ?_ ?_
      · exact ⟨(0, List.replicate (cap * 8) .any, nx2), ⟨Nat.zero_le _, by simp, by simp⟩, ele_tell _ _ rfl rfl (List.Sublist.refl _) .slnil (BxLe.refl _) trivial ⟨AVle.refl _, AVle.refl _, AVle.refl _, AVle.refl _, trivial⟩⟩
      · rintro ⟨i, cs, nx3⟩ ⟨h1, h2, h3⟩
        dsimp only at h1 h2 h3
        (repeat((conv=>whnf);first|apply ω0|apply ω1|apply ω2|refine τ3 rfl ?_|refine τ4 rfl ?_|refine ⟨rfl,?_⟩|apply τa|refine τb rfl ?_|refine ⟨⟨by kernel_rfl,by kernel_rfl⟩,?_⟩|refine ⟨by decide,?_⟩|apply τt|apply τf))
        intro c g; cases c
        · have g := not_of g
          try dsimp only at g
          obtain rfl : i = L.length := by omega
          rw [List.take_length] at h3
          have hcl : L.flatten.length * 8 ≤ cap * 8 := Nat.mul_le_mul_right _ hcap
          (repeat((conv=>whnf);first|apply ω0|apply ω2|refine τ3 rfl ?_|refine τ4 rfl ?_|refine ⟨rfl,?_⟩|apply τa|refine τb rfl ?_|refine ⟨⟨by kernel_rfl,by kernel_rfl⟩,?_⟩|refine ⟨by decide,?_⟩|apply τt|apply τf))
          refine AW.le (ele_freeze (L := [(6, slOf 8 trowA trow0 L.flatten)]) (bx := []) (pm := []) (nn := 1) [((0, s), .c cs)] rfl rfl (List.Sublist.refl _) .slnil ⟨?_, trivial⟩) ?_
          · refine (Frz.of_le (AVle.of_eq (b := .hs (0, s) 0 L.flatten.length cap) ?_)).trans (Frz.hs (cs := cs) (.head _) hcap (.inr (by omega)) (fun k hk => gl_trow _) (fun k hk j c hj => ?_) (by omega))
            · show AV.hs (0, s) 0 ((L.take L.length).flatten.length) cap = _
              rw [List.take_length]
            · have hjl : j < 8 := by have := (List.getElem?_eq_some_iff.1 hj).1; rw [gl_trow] at this; exact this
              refine ⟨c, ?_, AVle.refl _⟩
              have hkk : k * 8 + j < L.flatten.length * 8 := by
                have : (k + 1) * 8 ≤ L.flatten.length * 8 := Nat.mul_le_mul_right _ hk
                omega
              have h4 := fget_trow L.flatten k j hk hjl
              rw [← h3, List.getElem?_take, if_pos hkk, hj] at h4
              rw [Nat.zero_add]; exact h4
          · (repeat((conv=>whnf);first|apply ω0|apply ω1|apply ω2|refine τ3 rfl ?_|refine τ4 rfl ?_|refine ⟨rfl,?_⟩|apply τa|refine τb rfl ?_|refine ⟨⟨by kernel_rfl,by kernel_rfl⟩,?_⟩|refine ⟨by decide,?_⟩|apply τt|apply τf))
            exact ret_tells rfl (AVle.refl _)
        · have g := yes_of g
          try dsimp only at g
          have hi : i < L.length := by omega
          have e1 := hpre i hi
          have e2 := hle (i + 1)
          have hfl : (L.take (i + 1)).flatten = (L.take i).flatten ++ L.getD i [] := by rw [take_getD [] hi, List.flatten_append]; simp
          have hcl : ((L.take i).flatten.length + (L.getD i []).length) * 8 ≤ cap * 8 := Nat.mul_le_mul_right _ (by omega)
          (repeat((conv=>whnf);first|apply ω0|apply ω1|apply ω2|refine τ3 rfl ?_|refine τ4 rfl ?_|refine ⟨rfl,?_⟩|apply τa|refine τb rfl ?_|refine ⟨⟨by kernel_rfl,by kernel_rfl⟩,?_⟩|refine ⟨by decide,?_⟩|apply τt|apply τf))
          refine ⟨⟨by first | omega | (dsimp only; omega), by first | omega | (dsimp only; omega)⟩, ?_⟩
          (repeat((conv=>whnf);first|apply ω0|apply ω2|refine τ3 rfl ?_|refine τ4 rfl ?_|refine ⟨rfl,?_⟩|apply τa|refine τb rfl ?_|refine ⟨⟨by kernel_rfl,by kernel_rfl⟩,?_⟩|refine ⟨by decide,?_⟩|apply τt|apply τf))
          refine aw_regionY (fun i => match i with | 1 => true | _ => false) 4 ?_
          (repeat((conv=>whnf);first|apply ω0|apply ω1|apply ω2|refine τ3 rfl ?_|refine τ4 rfl ?_|refine ⟨rfl,?_⟩|apply τa|refine τb rfl ?_|refine ⟨⟨by kernel_rfl,by kernel_rfl⟩,?_⟩|refine ⟨by decide,?_⟩|apply τt|apply τf))
          refine aop_appendB (m := (L.getD i []).length) (f' := fun k => trowA ((L.getD i []).getD k trow0)) (szx := 8) (n := (L.take i).flatten.length) (cap := cap) (cs := cs) (i := (0, s)) rfl rfl (.inl rfl) Tryz.underlying49 gr_trow (.inr gc_trow.symm) (by rfl) (by omega) (by rw [gc_trow]; omega) (fun k hk => g1_trow _) (fun _ => by rw [gb_trow]; omega) (fun _ => by omega) (fun hm => ?_) (fun hm hfit => ?_) (fun hm hnf => absurd (by omega) hnf)
          · have e3 : L.getD i [] = [] := List.eq_nil_of_length_eq_zero hm
            rw [e3, List.append_nil] at hfl
            (repeat((conv=>whnf);first|apply ω0|apply ω1|apply ω2|refine τ3 rfl ?_|refine τ4 rfl ?_|refine ⟨rfl,?_⟩|apply τa|refine τb rfl ?_|refine ⟨⟨by kernel_rfl,by kernel_rfl⟩,?_⟩|refine ⟨by decide,?_⟩|apply τt|apply τf))
            exact back (i + 1, cs, nx3) ⟨hi, h2, by dsimp only; rw [hfl]; exact h3⟩ (by dsimp only; omega) (ele_tell _ _ rfl rfl (List.Sublist.refl _) .slnil (BxLe.refl _) trivial ⟨AVle.of_eq (congrArg (fun z => AV.hs (0, s) 0 z cap) (by rw [hfl] : (L.take i).flatten.length = (L.take (i + 1)).flatten.length)), AVle.refl _, AVle.refl _, le_int (wrap_succ (by first | omega | (dsimp only; omega))), trivial⟩)
          · (repeat((conv=>whnf);first|apply ω0|apply ω1|apply ω2|refine τ3 rfl ?_|refine τ4 rfl ?_|refine ⟨rfl,?_⟩|apply τa|refine τb rfl ?_|refine ⟨⟨by kernel_rfl,by kernel_rfl⟩,?_⟩|refine ⟨by decide,?_⟩|apply τt|apply τf))
            refine back (i + 1, splice cs ((L.take i).flatten.length * 8) ((L.getD i []).flatMap fun x => (trowA x).cells), nx3) ⟨hi, ?_, ?_⟩ (by dsimp only; omega) (ele_tell _ _ rfl rfl (List.Sublist.refl _) .slnil ⟨rfl, ownEq_trow (congrArg Own.c ?_), trivial⟩ trivial ⟨AVle.of_eq (congrArg (fun z => AV.hs (0, s) 0 z cap) e1.symm), AVle.refl _, AVle.refl _, le_int (wrap_succ (by first | omega | (dsimp only; omega))), trivial⟩)
            · have hf := flen_trow (L.getD i [])
              simp only [splice_def, List.length_append, List.length_take, List.length_drop, hf]
              omega
            · have hf := flen_trow (L.getD i [])
              dsimp only
              rw [hfl, List.flatMap_append, splice_def, List.length_append, ← List.append_assoc, h3]
              have hpl : (List.flatMap (fun x => (trowA x).cells) (L.take i).flatten ++ List.flatMap (fun x => (trowA x).cells) (L.getD i [])).length = ((L.take i).flatten.length + (L.getD i []).length) * 8 := by
                rw [List.length_append, hf, flen_trow]; omega
              rw [← hpl, List.take_left]
            · rw [gc_trow, flat_trow]
end Go.Proofs.W


namespace Go.Proofs.W
open Go.Vl
set_option maxRecDepth 100000
def earlyL : List TRow := [
  ⟨⟨#[97, 99, 99, 101, 112, 116]⟩, 43, 43, -1, 202, 202, 1, 5⟩,
  ⟨⟨#[97, 99, 99, 101, 112, 116, 52]⟩, 288, 288, 364, 242, 242, 1, 18⟩,
  ⟨⟨#[98, 105, 110, 100]⟩, 49, 49, 361, 200, 200, 1, 2⟩,
  ⟨⟨#[98, 114, 107]⟩, 12, 12, 45, 214, 214, 0, 0⟩,
  ⟨⟨#[99, 108, 111, 110, 101]⟩, 56, 56, 120, 220, 220, 0, 0⟩,
  ⟨⟨#[99, 108, 111, 115, 101]⟩, 3, 3, 6, 57, 57, 0, 0⟩,
  ⟨⟨#[99, 111, 110, 110, 101, 99, 116]⟩, 42, 42, 362, 203, 203, 1, 3⟩,
  ⟨⟨#[100, 117, 112]⟩, 32, 32, 41, 23, 23, 0, 0⟩,
  ⟨⟨#[100, 117, 112, 50]⟩, 33, 33, 63, -1, -1, 0, 0⟩,
  ⟨⟨#[101, 112, 111, 108, 108, 95, 99, 114, 101, 97, 116, 101, 49]⟩, 291, 291, 329, 20, 20, 0, 0⟩,
  ⟨⟨#[101, 112, 111, 108, 108, 95, 99, 116, 108]⟩, 233, 233, 255, 21, 21, 0, 0⟩,
  ⟨⟨#[101, 112, 111, 108, 108, 95, 119, 97, 105, 116]⟩, 232, 232, 256, -1, -1, 0, 0⟩,
  ⟨⟨#[101, 120, 101, 99, 118, 101]⟩, 59, 520, 11, 221, 221, 0, 0⟩,
  ⟨⟨#[101, 120, 105, 116]⟩, 60, 60, 1, 93, 93, 0, 0⟩,
  ⟨⟨#[101, 120, 105, 116, 95, 103, 114, 111, 117, 112]⟩, 231, 231, 252, 94, 94, 0, 0⟩,
  ⟨⟨#[102, 99, 104, 100, 105, 114]⟩, 81, 81, 133, 50, 50, 0, 0⟩,
  ⟨⟨#[102, 99, 110, 116, 108]⟩, 72, 72, 55, 25, 25, 0, 0⟩,
  ⟨⟨#[102, 111, 114, 107]⟩, 57, 57, 2, -1, -1, 0, 0⟩,
  ⟨⟨#[102, 115, 116, 97, 116]⟩, 5, 5, 108, 80, 80, 0, 0⟩,
  ⟨⟨#[102, 117, 116, 101, 120]⟩, 202, 202, 240, 98, 98, 0, 0⟩,
  ⟨⟨#[103, 101, 116, 99, 119, 100]⟩, 79, 79, 183, 17, 17, 0, 0⟩,
  ⟨⟨#[103, 101, 116, 112, 101, 101, 114, 110, 97, 109, 101]⟩, 52, 52, 368, 205, 205, 1, 7⟩,
  ⟨⟨#[103, 101, 116, 112, 105, 100]⟩, 39, 39, 20, 172, 172, 0, 0⟩,
  ⟨⟨#[103, 101, 116, 114, 97, 110, 100, 111, 109]⟩, 318, 318, 355, 278, 278, 0, 0⟩,
  ⟨⟨#[103, 101, 116, 115, 111, 99, 107, 110, 97, 109, 101]⟩, 51, 51, 367, 204, 204, 1, 6⟩,
  ⟨⟨#[103, 101, 116, 115, 111, 99, 107, 111, 112, 116]⟩, 55, 542, 365, 209, 209, 1, 15⟩,
  ⟨⟨#[103, 101, 116, 117, 105, 100]⟩, 102, 102, 24, 174, 174, 0, 0⟩,
  ⟨⟨#[105, 111, 99, 116, 108]⟩, 16, 514, 54, 29, 29, 0, 0⟩,
  ⟨⟨#[107, 105, 108, 108]⟩, 62, 62, 37, 129, 129, 0, 0⟩,
  ⟨⟨#[108, 105, 115, 116, 101, 110]⟩, 50, 50, 363, 201, 201, 1, 4⟩]
theorem build_early : abuildCells Tryz.prog 49 30 [(0, trowA ⟨⟨#[97, 99, 99, 101, 112, 116]⟩, 43, 43, -1, 202, 202, 1, 5⟩), (1, trowA ⟨⟨#[97, 99, 99, 101, 112, 116, 52]⟩, 288, 288, 364, 242, 242, 1, 18⟩), (2, trowA ⟨⟨#[98, 105, 110, 100]⟩, 49, 49, 361, 200, 200, 1, 2⟩), (3, trowA ⟨⟨#[98, 114, 107]⟩, 12, 12, 45, 214, 214, 0, 0⟩), (4, trowA ⟨⟨#[99, 108, 111, 110, 101]⟩, 56, 56, 120, 220, 220, 0, 0⟩), (5, trowA ⟨⟨#[99, 108, 111, 115, 101]⟩, 3, 3, 6, 57, 57, 0, 0⟩), (6, trowA ⟨⟨#[99, 111, 110, 110, 101, 99, 116]⟩, 42, 42, 362, 203, 203, 1, 3⟩), (7, trowA ⟨⟨#[100, 117, 112]⟩, 32, 32, 41, 23, 23, 0, 0⟩), (8, trowA ⟨⟨#[100, 117, 112, 50]⟩, 33, 33, 63, -1, -1, 0, 0⟩), (9, trowA ⟨⟨#[101, 112, 111, 108, 108, 95, 99, 114, 101, 97, 116, 101, 49]⟩, 291, 291, 329, 20, 20, 0, 0⟩), (10, trowA ⟨⟨#[101, 112, 111, 108, 108, 95, 99, 116, 108]⟩, 233, 233, 255, 21, 21, 0, 0⟩), (11, trowA ⟨⟨#[101, 112, 111, 108, 108, 95, 119, 97, 105, 116]⟩, 232, 232, 256, -1, -1, 0, 0⟩), (12, trowA ⟨⟨#[101, 120, 101, 99, 118, 101]⟩, 59, 520, 11, 221, 221, 0, 0⟩), (13, trowA ⟨⟨#[101, 120, 105, 116]⟩, 60, 60, 1, 93, 93, 0, 0⟩), (14, trowA ⟨⟨#[101, 120, 105, 116, 95, 103, 114, 111, 117, 112]⟩, 231, 231, 252, 94, 94, 0, 0⟩), (15, trowA ⟨⟨#[102, 99, 104, 100, 105, 114]⟩, 81, 81, 133, 50, 50, 0, 0⟩), (16, trowA ⟨⟨#[102, 99, 110, 116, 108]⟩, 72, 72, 55, 25, 25, 0, 0⟩), (17, trowA ⟨⟨#[102, 111, 114, 107]⟩, 57, 57, 2, -1, -1, 0, 0⟩), (18, trowA ⟨⟨#[102, 115, 116, 97, 116]⟩, 5, 5, 108, 80, 80, 0, 0⟩), (19, trowA ⟨⟨#[102, 117, 116, 101, 120]⟩, 202, 202, 240, 98, 98, 0, 0⟩), (20, trowA ⟨⟨#[103, 101, 116, 99, 119, 100]⟩, 79, 79, 183, 17, 17, 0, 0⟩), (21, trowA ⟨⟨#[103, 101, 116, 112, 101, 101, 114, 110, 97, 109, 101]⟩, 52, 52, 368, 205, 205, 1, 7⟩), (22, trowA ⟨⟨#[103, 101, 116, 112, 105, 100]⟩, 39, 39, 20, 172, 172, 0, 0⟩), (23, trowA ⟨⟨#[103, 101, 116, 114, 97, 110, 100, 111, 109]⟩, 318, 318, 355, 278, 278, 0, 0⟩), (24, trowA ⟨⟨#[103, 101, 116, 115, 111, 99, 107, 110, 97, 109, 101]⟩, 51, 51, 367, 204, 204, 1, 6⟩), (25, trowA ⟨⟨#[103, 101, 116, 115, 111, 99, 107, 111, 112, 116]⟩, 55, 542, 365, 209, 209, 1, 15⟩), (26, trowA ⟨⟨#[103, 101, 116, 117, 105, 100]⟩, 102, 102, 24, 174, 174, 0, 0⟩), (27, trowA ⟨⟨#[105, 111, 99, 116, 108]⟩, 16, 514, 54, 29, 29, 0, 0⟩), (28, trowA ⟨⟨#[107, 105, 108, 108]⟩, 62, 62, 37, 129, 129, 0, 0⟩), (29, trowA ⟨⟨#[108, 105, 115, 116, 101, 110]⟩, 50, 50, 363, 201, 201, 1, 4⟩)] = some (106, [strA ⟨#[97, 99, 99, 101, 112, 116]⟩, int (43), int (43), int (-1), int (202), int (202), int 1, int 5, strA ⟨#[97, 99, 99, 101, 112, 116, 52]⟩, int (288), int (288), int (364), int (242), int (242), int 1, int 18, strA ⟨#[98, 105, 110, 100]⟩, int (49), int (49), int (361), int (200), int (200), int 1, int 2, strA ⟨#[98, 114, 107]⟩, int (12), int (12), int (45), int (214), int (214), int 0, int 0, strA ⟨#[99, 108, 111, 110, 101]⟩, int (56), int (56), int (120), int (220), int (220), int 0, int 0, strA ⟨#[99, 108, 111, 115, 101]⟩, int (3), int (3), int (6), int (57), int (57), int 0, int 0, strA ⟨#[99, 111, 110, 110, 101, 99, 116]⟩, int (42), int (42), int (362), int (203), int (203), int 1, int 3, strA ⟨#[100, 117, 112]⟩, int (32), int (32), int (41), int (23), int (23), int 0, int 0, strA ⟨#[100, 117, 112, 50]⟩, int (33), int (33), int (63), int (-1), int (-1), int 0, int 0, strA ⟨#[101, 112, 111, 108, 108, 95, 99, 114, 101, 97, 116, 101, 49]⟩, int (291), int (291), int (329), int (20), int (20), int 0, int 0, strA ⟨#[101, 112, 111, 108, 108, 95, 99, 116, 108]⟩, int (233), int (233), int (255), int (21), int (21), int 0, int 0, strA ⟨#[101, 112, 111, 108, 108, 95, 119, 97, 105, 116]⟩, int (232), int (232), int (256), int (-1), int (-1), int 0, int 0, strA ⟨#[101, 120, 101, 99, 118, 101]⟩, int (59), int (520), int (11), int (221), int (221), int 0, int 0, strA ⟨#[101, 120, 105, 116]⟩, int (60), int (60), int (1), int (93), int (93), int 0, int 0, strA ⟨#[101, 120, 105, 116, 95, 103, 114, 111, 117, 112]⟩, int (231), int (231), int (252), int (94), int (94), int 0, int 0, strA ⟨#[102, 99, 104, 100, 105, 114]⟩, int (81), int (81), int (133), int (50), int (50), int 0, int 0, strA ⟨#[102, 99, 110, 116, 108]⟩, int (72), int (72), int (55), int (25), int (25), int 0, int 0, strA ⟨#[102, 111, 114, 107]⟩, int (57), int (57), int (2), int (-1), int (-1), int 0, int 0, strA ⟨#[102, 115, 116, 97, 116]⟩, int (5), int (5), int (108), int (80), int (80), int 0, int 0, strA ⟨#[102, 117, 116, 101, 120]⟩, int (202), int (202), int (240), int (98), int (98), int 0, int 0, strA ⟨#[103, 101, 116, 99, 119, 100]⟩, int (79), int (79), int (183), int (17), int (17), int 0, int 0, strA ⟨#[103, 101, 116, 112, 101, 101, 114, 110, 97, 109, 101]⟩, int (52), int (52), int (368), int (205), int (205), int 1, int 7, strA ⟨#[103, 101, 116, 112, 105, 100]⟩, int (39), int (39), int (20), int (172), int (172), int 0, int 0, strA ⟨#[103, 101, 116, 114, 97, 110, 100, 111, 109]⟩, int (318), int (318), int (355), int (278), int (278), int 0, int 0, strA ⟨#[103, 101, 116, 115, 111, 99, 107, 110, 97, 109, 101]⟩, int (51), int (51), int (367), int (204), int (204), int 1, int 6, strA ⟨#[103, 101, 116, 115, 111, 99, 107, 111, 112, 116]⟩, int (55), int (542), int (365), int (209), int (209), int 1, int 15, strA ⟨#[103, 101, 116, 117, 105, 100]⟩, int (102), int (102), int (24), int (174), int (174), int 0, int 0, strA ⟨#[105, 111, 99, 116, 108]⟩, int (16), int (514), int (54), int (29), int (29), int 0, int 0, strA ⟨#[107, 105, 108, 108]⟩, int (62), int (62), int (37), int (129), int (129), int 0, int 0, strA ⟨#[108, 105, 115, 116, 101, 110]⟩, int (50), int (50), int (363), int (201), int (201), int 1, int 4]) := by kernel_rfl
set_option maxHeartbeats 4000000 in
theorem early_spec : Tells Tryz.prog 92 [] (trows earlyL) := by
  refine tells_of_aw Tryz.func92 rfl rfl fun nx => ?_
  ((repeat((conv=>whnf);first|apply ω0|apply ω2|refine τ3 rfl ?_|refine τ4 rfl ?_|refine ⟨rfl,?_⟩|apply τa|refine τb rfl ?_|refine ⟨⟨by kernel_rfl,by kernel_rfl⟩,?_⟩|refine ⟨by decide,?_⟩|apply τt|apply τf)); refine aw_region ?_; (repeat((conv=>whnf);first|apply ω0|apply ω2|refine τ3 rfl ?_|refine τ4 rfl ?_|refine ⟨rfl,?_⟩|apply τa|refine τb rfl ?_|refine ⟨⟨by kernel_rfl,by kernel_rfl⟩,?_⟩|refine ⟨by decide,?_⟩|apply τt|apply τf)))
  refine aw_regionY (fun n => match n with | 0 => true | _ => false) 61 ?_
  (repeat((conv=>whnf);first|apply ω0|apply ω1|apply ω2|refine τ3 rfl ?_|refine τ4 rfl ?_|refine ⟨rfl,?_⟩|apply τa|refine τb rfl ?_|refine ⟨⟨by kernel_rfl,by kernel_rfl⟩,?_⟩|refine ⟨by decide,?_⟩|apply τt|apply τf))
  refine aop_build rfl build_early ?_
  (repeat((conv=>whnf);first|apply ω0|apply ω1|apply ω2|refine τ3 rfl ?_|refine τ4 rfl ?_|refine ⟨rfl,?_⟩|apply τa|refine τb rfl ?_|refine ⟨⟨by kernel_rfl,by kernel_rfl⟩,?_⟩|refine ⟨by decide,?_⟩|apply τt|apply τf))
  refine ret_tells rfl (AVle.os_sl.trans (AVle.sl_fun fun k hk => ?_))
  match k, hk with
  | 0, _ => rfl
  | 1, _ => rfl
  | 2, _ => rfl
  | 3, _ => rfl
  | 4, _ => rfl
  | 5, _ => rfl
  | 6, _ => rfl
  | 7, _ => rfl
  | 8, _ => rfl
  | 9, _ => rfl
  | 10, _ => rfl
  | 11, _ => rfl
  | 12, _ => rfl
  | 13, _ => rfl
  | 14, _ => rfl
  | 15, _ => rfl
  | 16, _ => rfl
  | 17, _ => rfl
  | 18, _ => rfl
  | 19, _ => rfl
  | 20, _ => rfl
  | 21, _ => rfl
  | 22, _ => rfl
  | 23, _ => rfl
  | 24, _ => rfl
  | 25, _ => rfl
  | 26, _ => rfl
  | 27, _ => rfl
  | 28, _ => rfl
  | 29, _ => rfl
  | k + 30, hk => exact absurd hk (by omega)
def lateL : List TRow := [
  ⟨⟨#[108, 115, 101, 101, 107]⟩, 8, 8, 19, 62, 62, 0, 0⟩,
  ⟨⟨#[109, 107, 100, 105, 114]⟩, 83, 83, 39, -1, -1, 0, 0⟩,
  ⟨⟨#[109, 109, 97, 112]⟩, 9, 9, -1, 222, 222, 0, 0⟩,
  ⟨⟨#[109, 109, 97, 112, 50]⟩, -1, -1, 192, -1, -1, 0, 0⟩,
  ⟨⟨#[109, 112, 114, 111, 116, 101, 99, 116]⟩, 10, 10, 125, 226, 226, 0, 0⟩,
  ⟨⟨#[109, 115, 103, 99, 116, 108]⟩, 71, 71, 402, 187, 187, 2, 14⟩,
  ⟨⟨#[109, 115, 103, 103, 101, 116]⟩, 68, 68, 399, 186, 186, 2, 13⟩,
  ⟨⟨#[109, 115, 103, 114, 99, 118]⟩, 70, 70, 401, 188, 188, 2, 12⟩,
  ⟨⟨#[109, 115, 103, 115, 110, 100]⟩, 69, 69, 400, 189, 189, 2, 11⟩,
  ⟨⟨#[109, 117, 110, 109, 97, 112]⟩, 11, 11, 91, 215, 215, 0, 0⟩,
  ⟨⟨#[110, 97, 110, 111, 115, 108, 101, 101, 112]⟩, 35, 35, 162, 101, 101, 0, 0⟩,
  ⟨⟨#[111, 112, 101, 110]⟩, 2, 2, 5, -1, -1, 0, 0⟩,
  ⟨⟨#[111, 112, 101, 110, 97, 116]⟩, 257, 257, 295, 56, 56, 0, 0⟩,
  ⟨⟨#[112, 105, 112, 101]⟩, 22, 22, 42, -1, -1, 0, 0⟩,
  ⟨⟨#[112, 105, 112, 101, 50]⟩, 293, 293, 331, 59, 59, 0, 0⟩,
  ⟨⟨#[112, 111, 108, 108]⟩, 7, 7, 168, -1, -1, 0, 0⟩,
  ⟨⟨#[112, 114, 101, 97, 100, 54, 52]⟩, 17, 17, 180, 67, 67, 0, 0⟩,
  ⟨⟨#[112, 114, 108, 105, 109, 105, 116, 54, 52]⟩, 302, 302, 340, 261, 261, 0, 0⟩,
  ⟨⟨#[112, 116, 114, 97, 99, 101]⟩, 101, 521, 26, 117, 117, 0, 0⟩,
  ⟨⟨#[112, 119, 114, 105, 116, 101, 54, 52]⟩, 18, 18, 181, 68, 68, 0, 0⟩,
  ⟨⟨#[114, 101, 97, 100]⟩, 0, 0, 3, 63, 63, 0, 0⟩,
  ⟨⟨#[114, 101, 97, 100, 118]⟩, 19, 515, 145, 65, 65, 0, 0⟩,
  ⟨⟨#[114, 101, 99, 118]⟩, -1, -1, -1, -1, -1, 1, 10⟩,
  ⟨⟨#[114, 101, 99, 118, 102, 114, 111, 109]⟩, 45, 517, 371, 207, 207, 1, 12⟩,
  ⟨⟨#[114, 101, 99, 118, 109, 115, 103]⟩, 47, 519, 372, 212, 212, 1, 17⟩,
  ⟨⟨#[114, 101, 110, 97, 109, 101]⟩, 82, 82, 38, -1, -1, 0, 0⟩,
  ⟨⟨#[114, 105, 115, 99, 118, 95, 102, 108, 117, 115, 104, 95, 105, 99, 97, 99, 104, 101]⟩, -1, -1, -1, -1, 259, 0, 0⟩,
  ⟨⟨#[114, 116, 95, 115, 105, 103, 97, 99, 116, 105, 111, 110]⟩, 13, 512, 174, 134, 134, 0, 0⟩,
  ⟨⟨#[114, 116, 95, 115, 105, 103, 114, 101, 116, 117, 114, 110]⟩, 15, 513, 173, 139, 139, 0, 0⟩,
  ⟨⟨#[115, 101, 99, 99, 111, 109, 112]⟩, 317, 317, 354, 277, 277, 0, 0⟩,
  ⟨⟨#[115, 101, 108, 101, 99, 116]⟩, 23, 23, 82, -1, -1, 0, 0⟩,
  ⟨⟨#[115, 101, 109, 99, 116, 108]⟩, 66, 66, 394, 191, 191, 2, 3⟩,
  ⟨⟨#[115, 101, 109, 103, 101, 116]⟩, 64, 64, 393, 190, 190, 2, 2⟩,
  ⟨⟨#[115, 101, 109, 111, 112]⟩, 65, 65, -1, 193, 193, 2, 1⟩,
  ⟨⟨#[115, 101, 110, 100]⟩, -1, -1, -1, -1, -1, 1, 9⟩,
  ⟨⟨#[115, 101, 110, 100, 109, 115, 103]⟩, 46, 518, 370, 211, 211, 1, 16⟩,
  ⟨⟨#[115, 101, 110, 100, 116, 111]⟩, 44, 44, 369, 206, 206, 1, 11⟩,
  ⟨⟨#[115, 101, 116, 115, 111, 99, 107, 111, 112, 116]⟩, 54, 541, 366, 208, 208, 1, 14⟩,
  ⟨⟨#[115, 104, 109, 97, 116]⟩, 30, 30, 397, 196, 196, 2, 21⟩,
  ⟨⟨#[115, 104, 109, 99, 116, 108]⟩, 31, 31, 396, 195, 195, 2, 24⟩,
  ⟨⟨#[115, 104, 109, 100, 116]⟩, 67, 67, 398, 197, 197, 2, 22⟩,
  ⟨⟨#[115, 104, 109, 103, 101, 116]⟩, 29, 29, 395, 194, 194, 2, 23⟩,
  ⟨⟨#[115, 104, 117, 116, 100, 111, 119, 110]⟩, 48, 48, 373, 210, 210, 1, 13⟩,
  ⟨⟨#[115, 111, 99, 107, 101, 116]⟩, 41, 41, 359, 198, 198, 1, 1⟩,
  ⟨⟨#[115, 111, 99, 107, 101, 116, 112, 97, 105, 114]⟩, 53, 53, 360, 199, 199, 1, 8⟩,
  ⟨⟨#[115, 116, 97, 116]⟩, 4, 4, 106, -1, -1, 0, 0⟩,
  ⟨⟨#[116, 105, 109, 101]⟩, 201, 201, 13, -1, -1, 0, 0⟩,
  ⟨⟨#[117, 110, 97, 109, 101]⟩, 63, 63, 122, 160, 160, 0, 0⟩,
  ⟨⟨#[117, 110, 108, 105, 110, 107]⟩, 87, 87, 10, -1, -1, 0, 0⟩,
  ⟨⟨#[118, 102, 111, 114, 107]⟩, 58, 58, 190, -1, -1, 0, 0⟩,
  ⟨⟨#[119, 97, 105, 116, 112, 105, 100]⟩, -1, -1, 7, -1, -1, 0, 0⟩,
  ⟨⟨#[119, 114, 105, 116, 101]⟩, 1, 1, 4, 64, 64, 0, 0⟩,
  ⟨⟨#[119, 114, 105, 116, 101, 118]⟩, 20, 516, 146, 66, 66, 0, 0⟩]
theorem build_late : abuildCells Tryz.prog 49 53 [(0, trowA ⟨⟨#[108, 115, 101, 101, 107]⟩, 8, 8, 19, 62, 62, 0, 0⟩), (1, trowA ⟨⟨#[109, 107, 100, 105, 114]⟩, 83, 83, 39, -1, -1, 0, 0⟩), (2, trowA ⟨⟨#[109, 109, 97, 112]⟩, 9, 9, -1, 222, 222, 0, 0⟩), (3, trowA ⟨⟨#[109, 109, 97, 112, 50]⟩, -1, -1, 192, -1, -1, 0, 0⟩), (4, trowA ⟨⟨#[109, 112, 114, 111, 116, 101, 99, 116]⟩, 10, 10, 125, 226, 226, 0, 0⟩), (5, trowA ⟨⟨#[109, 115, 103, 99, 116, 108]⟩, 71, 71, 402, 187, 187, 2, 14⟩), (6, trowA ⟨⟨#[109, 115, 103, 103, 101, 116]⟩, 68, 68, 399, 186, 186, 2, 13⟩), (7, trowA ⟨⟨#[109, 115, 103, 114, 99, 118]⟩, 70, 70, 401, 188, 188, 2, 12⟩), (8, trowA ⟨⟨#[109, 115, 103, 115, 110, 100]⟩, 69, 69, 400, 189, 189, 2, 11⟩), (9, trowA ⟨⟨#[109, 117, 110, 109, 97, 112]⟩, 11, 11, 91, 215, 215, 0, 0⟩), (10, trowA ⟨⟨#[110, 97, 110, 111, 115, 108, 101, 101, 112]⟩, 35, 35, 162, 101, 101, 0, 0⟩), (11, trowA ⟨⟨#[111, 112, 101, 110]⟩, 2, 2, 5, -1, -1, 0, 0⟩), (12, trowA ⟨⟨#[111, 112, 101, 110, 97, 116]⟩, 257, 257, 295, 56, 56, 0, 0⟩), (13, trowA ⟨⟨#[112, 105, 112, 101]⟩, 22, 22, 42, -1, -1, 0, 0⟩), (14, trowA ⟨⟨#[112, 105, 112, 101, 50]⟩, 293, 293, 331, 59, 59, 0, 0⟩), (15, trowA ⟨⟨#[112, 111, 108, 108]⟩, 7, 7, 168, -1, -1, 0, 0⟩), (16, trowA ⟨⟨#[112, 114, 101, 97, 100, 54, 52]⟩, 17, 17, 180, 67, 67, 0, 0⟩), (17, trowA ⟨⟨#[112, 114, 108, 105, 109, 105, 116, 54, 52]⟩, 302, 302, 340, 261, 261, 0, 0⟩), (18, trowA ⟨⟨#[112, 116, 114, 97, 99, 101]⟩, 101, 521, 26, 117, 117, 0, 0⟩), (19, trowA ⟨⟨#[112, 119, 114, 105, 116, 101, 54, 52]⟩, 18, 18, 181, 68, 68, 0, 0⟩), (20, trowA ⟨⟨#[114, 101, 97, 100]⟩, 0, 0, 3, 63, 63, 0, 0⟩), (21, trowA ⟨⟨#[114, 101, 97, 100, 118]⟩, 19, 515, 145, 65, 65, 0, 0⟩), (22, trowA ⟨⟨#[114, 101, 99, 118]⟩, -1, -1, -1, -1, -1, 1, 10⟩), (23, trowA ⟨⟨#[114, 101, 99, 118, 102, 114, 111, 109]⟩, 45, 517, 371, 207, 207, 1, 12⟩), (24, trowA ⟨⟨#[114, 101, 99, 118, 109, 115, 103]⟩, 47, 519, 372, 212, 212, 1, 17⟩), (25, trowA ⟨⟨#[114, 101, 110, 97, 109, 101]⟩, 82, 82, 38, -1, -1, 0, 0⟩), (26, trowA ⟨⟨#[114, 105, 115, 99, 118, 95, 102, 108, 117, 115, 104, 95, 105, 99, 97, 99, 104, 101]⟩, -1, -1, -1, -1, 259, 0, 0⟩), (27, trowA ⟨⟨#[114, 116, 95, 115, 105, 103, 97, 99, 116, 105, 111, 110]⟩, 13, 512, 174, 134, 134, 0, 0⟩), (28, trowA ⟨⟨#[114, 116, 95, 115, 105, 103, 114, 101, 116, 117, 114, 110]⟩, 15, 513, 173, 139, 139, 0, 0⟩), (29, trowA ⟨⟨#[115, 101, 99, 99, 111, 109, 112]⟩, 317, 317, 354, 277, 277, 0, 0⟩), (30, trowA ⟨⟨#[115, 101, 108, 101, 99, 116]⟩, 23, 23, 82, -1, -1, 0, 0⟩), (31, trowA ⟨⟨#[115, 101, 109, 99, 116, 108]⟩, 66, 66, 394, 191, 191, 2, 3⟩), (32, trowA ⟨⟨#[115, 101, 109, 103, 101, 116]⟩, 64, 64, 393, 190, 190, 2, 2⟩), (33, trowA ⟨⟨#[115, 101, 109, 111, 112]⟩, 65, 65, -1, 193, 193, 2, 1⟩), (34, trowA ⟨⟨#[115, 101, 110, 100]⟩, -1, -1, -1, -1, -1, 1, 9⟩), (35, trowA ⟨⟨#[115, 101, 110, 100, 109, 115, 103]⟩, 46, 518, 370, 211, 211, 1, 16⟩), (36, trowA ⟨⟨#[115, 101, 110, 100, 116, 111]⟩, 44, 44, 369, 206, 206, 1, 11⟩), (37, trowA ⟨⟨#[115, 101, 116, 115, 111, 99, 107, 111, 112, 116]⟩, 54, 541, 366, 208, 208, 1, 14⟩), (38, trowA ⟨⟨#[115, 104, 109, 97, 116]⟩, 30, 30, 397, 196, 196, 2, 21⟩), (39, trowA ⟨⟨#[115, 104, 109, 99, 116, 108]⟩, 31, 31, 396, 195, 195, 2, 24⟩), (40, trowA ⟨⟨#[115, 104, 109, 100, 116]⟩, 67, 67, 398, 197, 197, 2, 22⟩), (41, trowA ⟨⟨#[115, 104, 109, 103, 101, 116]⟩, 29, 29, 395, 194, 194, 2, 23⟩), (42, trowA ⟨⟨#[115, 104, 117, 116, 100, 111, 119, 110]⟩, 48, 48, 373, 210, 210, 1, 13⟩), (43, trowA ⟨⟨#[115, 111, 99, 107, 101, 116]⟩, 41, 41, 359, 198, 198, 1, 1⟩), (44, trowA ⟨⟨#[115, 111, 99, 107, 101, 116, 112, 97, 105, 114]⟩, 53, 53, 360, 199, 199, 1, 8⟩), (45, trowA ⟨⟨#[115, 116, 97, 116]⟩, 4, 4, 106, -1, -1, 0, 0⟩), (46, trowA ⟨⟨#[116, 105, 109, 101]⟩, 201, 201, 13, -1, -1, 0, 0⟩), (47, trowA ⟨⟨#[117, 110, 97, 109, 101]⟩, 63, 63, 122, 160, 160, 0, 0⟩), (48, trowA ⟨⟨#[117, 110, 108, 105, 110, 107]⟩, 87, 87, 10, -1, -1, 0, 0⟩), (49, trowA ⟨⟨#[118, 102, 111, 114, 107]⟩, 58, 58, 190, -1, -1, 0, 0⟩), (50, trowA ⟨⟨#[119, 97, 105, 116, 112, 105, 100]⟩, -1, -1, 7, -1, -1, 0, 0⟩), (51, trowA ⟨⟨#[119, 114, 105, 116, 101]⟩, 1, 1, 4, 64, 64, 0, 0⟩), (52, trowA ⟨⟨#[119, 114, 105, 116, 101, 118]⟩, 20, 516, 146, 66, 66, 0, 0⟩)] = some (106, [strA ⟨#[108, 115, 101, 101, 107]⟩, int (8), int (8), int (19), int (62), int (62), int 0, int 0, strA ⟨#[109, 107, 100, 105, 114]⟩, int (83), int (83), int (39), int (-1), int (-1), int 0, int 0, strA ⟨#[109, 109, 97, 112]⟩, int (9), int (9), int (-1), int (222), int (222), int 0, int 0, strA ⟨#[109, 109, 97, 112, 50]⟩, int (-1), int (-1), int (192), int (-1), int (-1), int 0, int 0, strA ⟨#[109, 112, 114, 111, 116, 101, 99, 116]⟩, int (10), int (10), int (125), int (226), int (226), int 0, int 0, strA ⟨#[109, 115, 103, 99, 116, 108]⟩, int (71), int (71), int (402), int (187), int (187), int 2, int 14, strA ⟨#[109, 115, 103, 103, 101, 116]⟩, int (68), int (68), int (399), int (186), int (186), int 2, int 13, strA ⟨#[109, 115, 103, 114, 99, 118]⟩, int (70), int (70), int (401), int (188), int (188), int 2, int 12, strA ⟨#[109, 115, 103, 115, 110, 100]⟩, int (69), int (69), int (400), int (189), int (189), int 2, int 11, strA ⟨#[109, 117, 110, 109, 97, 112]⟩, int (11), int (11), int (91), int (215), int (215), int 0, int 0, strA ⟨#[110, 97, 110, 111, 115, 108, 101, 101, 112]⟩, int (35), int (35), int (162), int (101), int (101), int 0, int 0, strA ⟨#[111, 112, 101, 110]⟩, int (2), int (2), int (5), int (-1), int (-1), int 0, int 0, strA ⟨#[111, 112, 101, 110, 97, 116]⟩, int (257), int (257), int (295), int (56), int (56), int 0, int 0, strA ⟨#[112, 105, 112, 101]⟩, int (22), int (22), int (42), int (-1), int (-1), int 0, int 0, strA ⟨#[112, 105, 112, 101, 50]⟩, int (293), int (293), int (331), int (59), int (59), int 0, int 0, strA ⟨#[112, 111, 108, 108]⟩, int (7), int (7), int (168), int (-1), int (-1), int 0, int 0, strA ⟨#[112, 114, 101, 97, 100, 54, 52]⟩, int (17), int (17), int (180), int (67), int (67), int 0, int 0, strA ⟨#[112, 114, 108, 105, 109, 105, 116, 54, 52]⟩, int (302), int (302), int (340), int (261), int (261), int 0, int 0, strA ⟨#[112, 116, 114, 97, 99, 101]⟩, int (101), int (521), int (26), int (117), int (117), int 0, int 0, strA ⟨#[112, 119, 114, 105, 116, 101, 54, 52]⟩, int (18), int (18), int (181), int (68), int (68), int 0, int 0, strA ⟨#[114, 101, 97, 100]⟩, int (0), int (0), int (3), int (63), int (63), int 0, int 0, strA ⟨#[114, 101, 97, 100, 118]⟩, int (19), int (515), int (145), int (65), int (65), int 0, int 0, strA ⟨#[114, 101, 99, 118]⟩, int (-1), int (-1), int (-1), int (-1), int (-1), int 1, int 10, strA ⟨#[114, 101, 99, 118, 102, 114, 111, 109]⟩, int (45), int (517), int (371), int (207), int (207), int 1, int 12, strA ⟨#[114, 101, 99, 118, 109, 115, 103]⟩, int (47), int (519), int (372), int (212), int (212), int 1, int 17, strA ⟨#[114, 101, 110, 97, 109, 101]⟩, int (82), int (82), int (38), int (-1), int (-1), int 0, int 0, strA ⟨#[114, 105, 115, 99, 118, 95, 102, 108, 117, 115, 104, 95, 105, 99, 97, 99, 104, 101]⟩, int (-1), int (-1), int (-1), int (-1), int (259), int 0, int 0, strA ⟨#[114, 116, 95, 115, 105, 103, 97, 99, 116, 105, 111, 110]⟩, int (13), int (512), int (174), int (134), int (134), int 0, int 0, strA ⟨#[114, 116, 95, 115, 105, 103, 114, 101, 116, 117, 114, 110]⟩, int (15), int (513), int (173), int (139), int (139), int 0, int 0, strA ⟨#[115, 101, 99, 99, 111, 109, 112]⟩, int (317), int (317), int (354), int (277), int (277), int 0, int 0, strA ⟨#[115, 101, 108, 101, 99, 116]⟩, int (23), int (23), int (82), int (-1), int (-1), int 0, int 0, strA ⟨#[115, 101, 109, 99, 116, 108]⟩, int (66), int (66), int (394), int (191), int (191), int 2, int 3, strA ⟨#[115, 101, 109, 103, 101, 116]⟩, int (64), int (64), int (393), int (190), int (190), int 2, int 2, strA ⟨#[115, 101, 109, 111, 112]⟩, int (65), int (65), int (-1), int (193), int (193), int 2, int 1, strA ⟨#[115, 101, 110, 100]⟩, int (-1), int (-1), int (-1), int (-1), int (-1), int 1, int 9, strA ⟨#[115, 101, 110, 100, 109, 115, 103]⟩, int (46), int (518), int (370), int (211), int (211), int 1, int 16, strA ⟨#[115, 101, 110, 100, 116, 111]⟩, int (44), int (44), int (369), int (206), int (206), int 1, int 11, strA ⟨#[115, 101, 116, 115, 111, 99, 107, 111, 112, 116]⟩, int (54), int (541), int (366), int (208), int (208), int 1, int 14, strA ⟨#[115, 104, 109, 97, 116]⟩, int (30), int (30), int (397), int (196), int (196), int 2, int 21, strA ⟨#[115, 104, 109, 99, 116, 108]⟩, int (31), int (31), int (396), int (195), int (195), int 2, int 24, strA ⟨#[115, 104, 109, 100, 116]⟩, int (67), int (67), int (398), int (197), int (197), int 2, int 22, strA ⟨#[115, 104, 109, 103, 101, 116]⟩, int (29), int (29), int (395), int (194), int (194), int 2, int 23, strA ⟨#[115, 104, 117, 116, 100, 111, 119, 110]⟩, int (48), int (48), int (373), int (210), int (210), int 1, int 13, strA ⟨#[115, 111, 99, 107, 101, 116]⟩, int (41), int (41), int (359), int (198), int (198), int 1, int 1, strA ⟨#[115, 111, 99, 107, 101, 116, 112, 97, 105, 114]⟩, int (53), int (53), int (360), int (199), int (199), int 1, int 8, strA ⟨#[115, 116, 97, 116]⟩, int (4), int (4), int (106), int (-1), int (-1), int 0, int 0, strA ⟨#[116, 105, 109, 101]⟩, int (201), int (201), int (13), int (-1), int (-1), int 0, int 0, strA ⟨#[117, 110, 97, 109, 101]⟩, int (63), int (63), int (122), int (160), int (160), int 0, int 0, strA ⟨#[117, 110, 108, 105, 110, 107]⟩, int (87), int (87), int (10), int (-1), int (-1), int 0, int 0, strA ⟨#[118, 102, 111, 114, 107]⟩, int (58), int (58), int (190), int (-1), int (-1), int 0, int 0, strA ⟨#[119, 97, 105, 116, 112, 105, 100]⟩, int (-1), int (-1), int (7), int (-1), int (-1), int 0, int 0, strA ⟨#[119, 114, 105, 116, 101]⟩, int (1), int (1), int (4), int (64), int (64), int 0, int 0, strA ⟨#[119, 114, 105, 116, 101, 118]⟩, int (20), int (516), int (146), int (66), int (66), int 0, int 0]) := by kernel_rfl
set_option maxHeartbeats 4000000 in
theorem late_spec : Tells Tryz.prog 93 [] (trows lateL) := by
  refine tells_of_aw Tryz.func93 rfl rfl fun nx => ?_
  ((repeat((conv=>whnf);first|apply ω0|apply ω2|refine τ3 rfl ?_|refine τ4 rfl ?_|refine ⟨rfl,?_⟩|apply τa|refine τb rfl ?_|refine ⟨⟨by kernel_rfl,by kernel_rfl⟩,?_⟩|refine ⟨by decide,?_⟩|apply τt|apply τf)); refine aw_region ?_; (repeat((conv=>whnf);first|apply ω0|apply ω2|refine τ3 rfl ?_|refine τ4 rfl ?_|refine ⟨rfl,?_⟩|apply τa|refine τb rfl ?_|refine ⟨⟨by kernel_rfl,by kernel_rfl⟩,?_⟩|refine ⟨by decide,?_⟩|apply τt|apply τf)))
  refine aw_regionY (fun n => match n with | 0 => true | _ => false) 107 ?_
  (repeat((conv=>whnf);first|apply ω0|apply ω1|apply ω2|refine τ3 rfl ?_|refine τ4 rfl ?_|refine ⟨rfl,?_⟩|apply τa|refine τb rfl ?_|refine ⟨⟨by kernel_rfl,by kernel_rfl⟩,?_⟩|refine ⟨by decide,?_⟩|apply τt|apply τf))
  refine aop_build rfl build_late ?_
  (repeat((conv=>whnf);first|apply ω0|apply ω1|apply ω2|refine τ3 rfl ?_|refine τ4 rfl ?_|refine ⟨rfl,?_⟩|apply τa|refine τb rfl ?_|refine ⟨⟨by kernel_rfl,by kernel_rfl⟩,?_⟩|refine ⟨by decide,?_⟩|apply τt|apply τf))
  refine ret_tells rfl (AVle.os_sl.trans (AVle.sl_fun fun k hk => ?_))
  match k, hk with
  | 0, _ => rfl
  | 1, _ => rfl
  | 2, _ => rfl
  | 3, _ => rfl
  | 4, _ => rfl
  | 5, _ => rfl
  | 6, _ => rfl
  | 7, _ => rfl
  | 8, _ => rfl
  | 9, _ => rfl
  | 10, _ => rfl
  | 11, _ => rfl
  | 12, _ => rfl
  | 13, _ => rfl
  | 14, _ => rfl
  | 15, _ => rfl
  | 16, _ => rfl
  | 17, _ => rfl
  | 18, _ => rfl
  | 19, _ => rfl
  | 20, _ => rfl
  | 21, _ => rfl
  | 22, _ => rfl
  | 23, _ => rfl
  | 24, _ => rfl
  | 25, _ => rfl
  | 26, _ => rfl
  | 27, _ => rfl
  | 28, _ => rfl
  | 29, _ => rfl
  | 30, _ => rfl
  | 31, _ => rfl
  | 32, _ => rfl
  | 33, _ => rfl
  | 34, _ => rfl
  | 35, _ => rfl
  | 36, _ => rfl
  | 37, _ => rfl
  | 38, _ => rfl
  | 39, _ => rfl
  | 40, _ => rfl
  | 41, _ => rfl
  | 42, _ => rfl
  | 43, _ => rfl
  | 44, _ => rfl
  | 45, _ => rfl
  | 46, _ => rfl
  | 47, _ => rfl
  | 48, _ => rfl
  | 49, _ => rfl
  | 50, _ => rfl
  | 51, _ => rfl
  | 52, _ => rfl
  | k + 53, hk => exact absurd hk (by omega)
end Go.Proofs.W

namespace Go.Proofs.W
open Go.Vl
set_option maxRecDepth 100000

def builtL : List TRow := earlyL ++ lateL
theorem noid_trows (l : List TRow) : NoId (trows l) := NoId.sl fun i _ c hc => by
  have hc : c ∈ trowC (l.getD i trow0) := hc
  unfold trowC at hc
  simp only [List.mem_cons, List.not_mem_nil, or_false] at hc
  rcases hc with rfl | rfl | rfl | rfl | rfl | rfl | rfl | rfl <;> exact NoId.v _
theorem builtin_spec : Tells Tryz.prog 43 [] (trows builtL) := by
  have hc := concat_trow [earlyL, lateL] (by decide) (by decide) none
  have e : [earlyL, lateL].flatten = builtL := by unfold builtL; simp
  rw [e] at hc
  have he := early_spec
  have hl := late_spec
  generalize earlyL = A at he hc
  generalize lateL = B at hl hc
  generalize builtL = C at hc
  refine tells_of_aw Tryz.func43 rfl rfl fun nx => ?_
  (repeat((conv=>whnf);first|apply ω0|apply ω1|apply ω2|refine τ3 rfl ?_|refine τ4 rfl ?_|refine ⟨rfl,?_⟩|apply τa|refine τb rfl ?_|refine ⟨⟨by kernel_rfl,by kernel_rfl⟩,?_⟩|refine ⟨by decide,?_⟩|apply τt|apply τf))
  refine aop_tells rfl rfl he trivial fun nx2 => ?_
  (repeat((conv=>whnf);first|apply ω0|apply ω1|apply ω2|refine τ3 rfl ?_|refine τ4 rfl ?_|refine ⟨rfl,?_⟩|apply τa|refine τb rfl ?_|refine ⟨⟨by kernel_rfl,by kernel_rfl⟩,?_⟩|refine ⟨by decide,?_⟩|apply τt|apply τf))
  refine aop_tells rfl rfl hl trivial fun nx3 => ?_
  (repeat((conv=>whnf);first|apply ω0|apply ω1|apply ω2|refine τ3 rfl ?_|refine τ4 rfl ?_|refine ⟨rfl,?_⟩|apply τa|refine τb rfl ?_|refine ⟨⟨by kernel_rfl,by kernel_rfl⟩,?_⟩|refine ⟨by decide,?_⟩|apply τt|apply τf))
  refine aop_tells rfl rfl hc ⟨AVle.os_fun fun k hk => ?_, trivial⟩ fun nx4 => ?_
  · match k, hk with
    | 0, _ => rfl
    | 1, _ => rfl
  (repeat((conv=>whnf);first|apply ω0|apply ω1|apply ω2|refine τ3 rfl ?_|refine τ4 rfl ?_|refine ⟨rfl,?_⟩|apply τa|refine τb rfl ?_|refine ⟨⟨by kernel_rfl,by kernel_rfl⟩,?_⟩|refine ⟨by decide,?_⟩|apply τt|apply τf))
  exact ret_tells rfl (AVle.refl _)
end Go.Proofs.W

namespace Go.Proofs.W
open Go.Vl
set_option maxRecDepth 100000

theorem built_len : builtL.length ≤ 1000000 := Nat.le_of_ble_eq_true (by kernel_rfl)
theorem built_names : ∀ r ∈ builtL, r.name.size ≤ maxLen := fun r hr => by
  have : (builtL.all fun r => decide (r.name.size ≤ maxLen)) = true := by kernel_rfl
  exact of_decide_eq_true (List.all_eq_true.1 this r hr)
end Go.Proofs.W

namespace Go.Proofs.W
open Go.Vl
set_option maxRecDepth 100000

end Go.Proofs.W

namespace Go.Proofs.W
open Go.Vl
set_option maxRecDepth 100000

end Go.Proofs.W

namespace Go.Proofs.W
open Go.Vl
set_option maxRecDepth 100000

set_option maxHeartbeats 2000000 in
theorem refholds_spec (c : Cnd) (a : Nat) (hr : rightC c = true) (ho : c.ok) (ha : a < 18446744073709551616) : Tells Tryz.prog 49 [cndA c, u64 a] (boolA (holdsC c a)) := by
  obtain ⟨_, _, h1, h7, _⟩ := rightC_iff.1 hr
  obtain ⟨arg, op, mask, value⟩ := c
  dsimp only at h1 h7
  have ho1 : mask < 18446744073709551616 := ho.1
  unfold holdsC
  dsimp only
  rcases (by omega : op = 1 ∨ op = 2 ∨ op = 3 ∨ op = 4 ∨ op = 5 ∨ op = 6 ∨ op = 7) with rfl | rfl | rfl | rfl | rfl | rfl | rfl
  all_goals
    refine tells_of_aw Tryz.func49 rfl rfl fun nx => ?_
    (repeat((conv=>whnf);first|apply ω0|apply ω1|apply ω2|refine τ3 rfl ?_|refine τ4 rfl ?_|refine ⟨rfl,?_⟩|apply τa|refine τb rfl ?_|refine ⟨⟨by kernel_rfl,by kernel_rfl⟩,?_⟩|refine ⟨by decide,?_⟩|apply τt|apply τf))
    intro c h; cases c
  all_goals
    try rw [u64_and ha ho1] at h
    (repeat((conv=>whnf);first|apply ω0|apply ω1|apply ω2|refine τ3 rfl ?_|refine τ4 rfl ?_|refine ⟨rfl,?_⟩|apply τa|refine τb rfl ?_|refine ⟨⟨by kernel_rfl,by kernel_rfl⟩,?_⟩|refine ⟨by decide,?_⟩|apply τt|apply τf))
    refine ret_tells rfl (le_bool ?_)
    (try simp only [fct_b0, fct_b1, fct_d0, fct_d1, fct_n0, fct_n1] at *)
    first | omega | (simp; omega)
def seenA (a : Int) (x : Nat) : Nat := if a = 2 then x % 4294967296 else x
def hR (a : Int) (x : Nat → Nat) (c : Cnd) : Bool := holdsC c (seenA a (x c.arg.toNat))
def decR (p : Pol) (nm : ByteArray) (a : Int) (x : Nat → Nat) : A2 := match p.rules.find? (fun r => kS r.name nm && r.conds.all (hR a x)) with
  | some r => r.act
  | none => p.dflt
end Go.Proofs.W

namespace Go.Proofs.W
open Go.Vl
set_option maxRecDepth 100000

def polR (k n : Int) (x32 : Bool) (rs : List Rul) : List AV := [int k, int n, boolA x32, ruls rs]
def arrL (x : Nat → Nat) : List AV := [u64 (x 0), u64 (x 1), u64 (x 2), u64 (x 3), u64 (x 4), u64 (x 5)]
theorem all_takeC {p : Cnd → Bool} {L : List Cnd} {i : Nat} (h : i < L.length) : (L.take (i + 1)).all p = ((L.take i).all p && p (L.getD i cnd0)) := by
  rw [take_getD cnd0 h, List.all_append]; simp
theorem seen_lt {a : Int} {x : Nat} (h : x < 18446744073709551616) : seenA a x < 18446744073709551616 := by unfold seenA; split <;> omega
theorem all_false {p : Cnd → Bool} {L : List Cnd} {i : Nat} (h : (L.take i).all p = false) : L.all p = false := by
  rw [List.all_eq_false] at h ⊢
  obtain ⟨c, hc, h⟩ := h
  exact ⟨c, List.mem_of_mem_take hc, h⟩
set_option maxHeartbeats 16000000 in
theorem refdecide_spec (p : Pol) (nm : ByteArray) (a : Int) (x : Nat → Nat) (hx : ∀ i, x i < 18446744073709551616) (hp : polOk p) (hrt : ∀ r ∈ p.rules, ∀ c ∈ r.conds, rightC c = true) : Tells Tryz.prog 15 [polA p, strA nm, int a, arrA x] (actP (decR p nm a x)) := by
  obtain ⟨⟨k, n⟩, x32, rs⟩ := p
  obtain ⟨hl, hc⟩ := hp
  dsimp only at hl hc hrt
  refine tells_of_aw Tryz.func15 rfl rfl fun nx => ?_
  (repeat((conv=>whnf);first|apply ω0|apply ω1|apply ω2|refine τ3 rfl ?_|refine τ4 rfl ?_|refine ⟨rfl,?_⟩|apply τa|refine τb rfl ?_|refine ⟨⟨by kernel_rfl,by kernel_rfl⟩,?_⟩|refine ⟨by decide,?_⟩|apply τt|apply τf))
  refine aw_loop (fun y : Nat × Nat => mk 60 [(1, strA nm), (2, int a), (4, .bp (0, nx) 0), (7, .bp (1, nx + 1) 0), (8, .bp (2, nx + 2) 0), (9, int y.1)] ⟨[((2, nx + 2), .c [int 0, int 0]), ((1, nx + 1), .c (arrL x)), ((0, nx), .c (polR k n x32 rs))], [], y.2, 3⟩) (fun y => y.1 ≤ rs.length ∧ ∀ j, j < y.1 → (kS (rs.getD j rul0).name nm && (rs.getD j rul0).conds.all (hR a x)) = false) (fun y => rs.length - y.1) ?_ ?_
  · exact ⟨(0, nx + 3), ⟨Nat.zero_le _, fun j h => absurd h (Nat.not_lt_zero _)⟩, ele_tell (pm := []) (bx := [((2, nx + 2), .c [int 0, int 0]), ((1, nx + 1), .c (arrL x)), ((0, nx), .c (polR k n x32 rs))]) _ _ rfl rfl (List.Sublist.refl _) (List.Sublist.refl _) (BxLe.refl _) trivial ⟨AVle.refl _, AVle.refl _, AVle.refl _, AVle.refl _, AVle.refl _, AVle.refl _, trivial⟩⟩
  · rintro ⟨i, nx1⟩ ⟨h1, h2⟩
    dsimp only at h1 h2
    (repeat((conv=>whnf);first|apply ω0|apply ω1|apply ω2|refine τ3 rfl ?_|refine τ4 rfl ?_|refine ⟨rfl,?_⟩|apply τa|refine τb rfl ?_|refine ⟨⟨by kernel_rfl,by kernel_rfl⟩,?_⟩|refine ⟨by decide,?_⟩|apply τt|apply τf))
    intro c g1; cases c
    · have g1 := not_of g1
      try dsimp only at g1
      have hi : i = rs.length := by omega
      subst hi
      have hd : decR ⟨(k, n), x32, rs⟩ nm a x = (k, n) := by
        unfold decR
        rw [List.find?_eq_none.2 fun r hr => ?_]
        obtain ⟨j, hj, rfl⟩ := List.mem_iff_getElem.1 hr
        have := h2 j hj
        rw [show rs.getD j rul0 = rs[j] by simp [List.getD, hj]] at this
        rw [this]; decide
      (repeat((conv=>whnf);first|apply ω0|apply ω1|apply ω2|refine τ3 rfl ?_|refine τ4 rfl ?_|refine ⟨rfl,?_⟩|apply τa|refine τb rfl ?_|refine ⟨⟨by kernel_rfl,by kernel_rfl⟩,?_⟩|refine ⟨by decide,?_⟩|apply τt|apply τf))
      exact ret_tells_all rfl ⟨rfl, trivial⟩ (AVle.of_eq (by rw [hd]; rfl))
    · have g1 := yes_of g1
      try dsimp only at g1
      have hi : i < rs.length := by omega
      have hmem : rs.getD i rul0 ∈ rs := by simp [List.getD, hi]
      have hcr := hc _ hmem
      have hrr := hrt _ hmem
      generalize hr : rs.getD i rul0 = r at hcr hrr
      (repeat((conv=>whnf);first|apply ω0|apply ω1|apply ω2|refine τ3 rfl ?_|refine τ4 rfl ?_|refine ⟨rfl,?_⟩|apply τa|refine τb rfl ?_|refine ⟨⟨by kernel_rfl,by kernel_rfl⟩,?_⟩|refine ⟨by decide,?_⟩|apply τt|apply τf))
      refine ⟨⟨by first | omega | (dsimp only; omega), by first | omega | (dsimp only; omega)⟩, splitO_eq (b := .rp [strA r.name, int r.act.1, int r.act.2, cnds r.conds]) (by rw [← hr]; rfl) ?_⟩
      (repeat((conv=>whnf);first|apply ω0|apply ω1|apply ω2|refine τ3 rfl ?_|refine τ4 rfl ?_|refine ⟨rfl,?_⟩|apply τa|refine τb rfl ?_|refine ⟨⟨by kernel_rfl,by kernel_rfl⟩,?_⟩|refine ⟨by decide,?_⟩|apply τt|apply τf))
      intro c hc0
      have hc2 : c = kS r.name nm := hc0
      clear hc0
      (repeat((conv=>whnf);first|apply ω0|apply ω1|apply ω2|refine τ3 rfl ?_|refine τ4 rfl ?_|refine ⟨rfl,?_⟩|apply τa|refine τb rfl ?_|refine ⟨⟨by kernel_rfl,by kernel_rfl⟩,?_⟩|refine ⟨by decide,?_⟩|apply τt|apply τf))
      refine aw_loop (fun y : Nat × Bool × Nat => mk 60 [(1, strA nm), (2, int a), (4, .bp (0, nx) 0), (7, .bp (1, nx + 1) 0), (8, .bp (2, nx + 2) 0), (9, int i), (10, .bp (3, nx1) 0), (11, boolA y.2.1), (12, int y.1)] ⟨[((3, nx1), .c [strA r.name, int r.act.1, int r.act.2, cnds r.conds]), ((2, nx + 2), .c [int 0, int 0]), ((1, nx + 1), .c (arrL x)), ((0, nx), .c (polR k n x32 rs))], [], y.2.2, 4⟩) (fun y => y.1 ≤ r.conds.length ∧ y.2.1 = (c && (r.conds.take y.1).all (hR a x))) (fun y => r.conds.length - y.1) ?_ ?_
      · exact ⟨(0, c, nx1 + 1), ⟨Nat.zero_le _, by simp⟩, ele_tell (pm := []) (bx := [((3, nx1), .c [strA r.name, int r.act.1, int r.act.2, cnds r.conds]), ((2, nx + 2), .c [int 0, int 0]), ((1, nx + 1), .c (arrL x)), ((0, nx), .c (polR k n x32 rs))]) _ _ rfl rfl (List.Sublist.refl _) (List.Sublist.refl _) (BxLe.refl _) trivial ⟨AVle.refl _, AVle.refl _, AVle.refl _, AVle.refl _, AVle.refl _, AVle.refl _, AVle.refl _, AVle.refl _, AVle.refl _, trivial⟩⟩
      · rintro ⟨j, v, nx2⟩ ⟨k1, k2⟩
        dsimp only at k1 k2
        cases v with
        | false =>
          have hno : (kS r.name nm && r.conds.all (hR a x)) = false := by
            rw [← hc2]
            cases c with
            | false => rfl
            | true => rw [Bool.true_and] at k2 ⊢; exact all_false k2.symm
          (repeat((conv=>whnf);first|apply ω0|apply ω1|apply ω2|refine τ3 rfl ?_|refine τ4 rfl ?_|refine ⟨rfl,?_⟩|apply τa|refine τb rfl ?_|refine ⟨⟨by kernel_rfl,by kernel_rfl⟩,?_⟩|refine ⟨by decide,?_⟩|apply τt|apply τf))
          intro c g2; cases c
          · (repeat((conv=>whnf);first|apply ω0|apply ω1|apply ω2|refine τ3 rfl ?_|refine τ4 rfl ?_|refine ⟨rfl,?_⟩|apply τa|refine τb rfl ?_|refine ⟨⟨by kernel_rfl,by kernel_rfl⟩,?_⟩|refine ⟨by decide,?_⟩|apply τt|apply τf))
            exact back (i + 1, nx2) ⟨hi, fun j hj => by dsimp only at hj; rcases Nat.lt_or_ge j i with q | q; exact h2 j q; rw [show j = i by omega, hr]; exact hno⟩ (by dsimp only; omega) (ele_tell (pm := []) (bx := [((2, nx + 2), .c [int 0, int 0]), ((1, nx + 1), .c (arrL x)), ((0, nx), .c (polR k n x32 rs))]) _ _ rfl rfl (.cons _ (List.Sublist.refl _)) (List.Sublist.refl _) (BxLe.refl _) trivial ⟨AVle.refl _, AVle.refl _, AVle.refl _, AVle.refl _, AVle.refl _, le_int (wrap_succ (by first | omega | (dsimp only; omega))), trivial⟩)
          · (repeat((conv=>whnf);first|apply ω0|apply ω1|apply ω2|refine τ3 rfl ?_|refine τ4 rfl ?_|refine ⟨rfl,?_⟩|apply τa|refine τb rfl ?_|refine ⟨⟨by kernel_rfl,by kernel_rfl⟩,?_⟩|refine ⟨by decide,?_⟩|apply τt|apply τf))
            exact back (i + 1, nx2) ⟨hi, fun j hj => by dsimp only at hj; rcases Nat.lt_or_ge j i with q | q; exact h2 j q; rw [show j = i by omega, hr]; exact hno⟩ (by dsimp only; omega) (ele_tell (pm := []) (bx := [((2, nx + 2), .c [int 0, int 0]), ((1, nx + 1), .c (arrL x)), ((0, nx), .c (polR k n x32 rs))]) _ _ rfl rfl (.cons _ (List.Sublist.refl _)) (List.Sublist.refl _) (BxLe.refl _) trivial ⟨AVle.refl _, AVle.refl _, AVle.refl _, AVle.refl _, AVle.refl _, le_int (wrap_succ (by first | omega | (dsimp only; omega))), trivial⟩)
        | true =>
          (repeat((conv=>whnf);first|apply ω0|apply ω1|apply ω2|refine τ3 rfl ?_|refine τ4 rfl ?_|refine ⟨rfl,?_⟩|apply τa|refine τb rfl ?_|refine ⟨⟨by kernel_rfl,by kernel_rfl⟩,?_⟩|refine ⟨by decide,?_⟩|apply τt|apply τf))
          intro c g2; cases c
          · have g2 := not_of g2
            try dsimp only at g2
            have hj : j = r.conds.length := by omega
            have hd : decR ⟨(k, n), x32, rs⟩ nm a x = r.act := by
              rw [hj, List.take_length, hc2] at k2
              unfold decR
              rw [find_first hi h2 (by rw [hr]; exact k2.symm), hr]
            (repeat((conv=>whnf);first|apply ω0|apply ω1|apply ω2|refine τ3 rfl ?_|refine τ4 rfl ?_|refine ⟨rfl,?_⟩|apply τa|refine τb rfl ?_|refine ⟨⟨by kernel_rfl,by kernel_rfl⟩,?_⟩|refine ⟨by decide,?_⟩|apply τt|apply τf))
            exact ret_tells_all rfl ⟨rfl, trivial⟩ (AVle.of_eq (by rw [hd]; rfl))
          · have g2 := yes_of g2
            try dsimp only at g2
            have hj : j < r.conds.length := by omega
            have hmc : r.conds.getD j cnd0 ∈ r.conds := by simp [List.getD, hj]
            have hok := hcr.2 _ hmc
            have hri := hrr _ hmc
            have hnext := all_takeC (p := hR a x) hj
            generalize hcd : r.conds.getD j cnd0 = cd at hok hri hnext
            obtain ⟨q1, q2, _⟩ := rightC_iff.1 hri
            have hh := refholds_spec cd (seenA a (x cd.arg.toNat)) hri hok (seen_lt (hx _))
            have ha8 := ref08arg_spec a (x cd.arg.toNat) (hx _)
            have hvn : (c && (r.conds.take (j + 1)).all (hR a x)) = hR a x cd := by rw [hnext, ← Bool.and_assoc, ← k2]; rfl
            unfold hR at hvn
            generalize holdsC cd (seenA a (x cd.arg.toNat)) = hv at hh hvn
            obtain ⟨arg, op, mask, value⟩ := cd
            dsimp only at q1 q2 hh ha8
            (repeat((conv=>whnf);first|apply ω0|apply ω1|apply ω2|refine τ3 rfl ?_|refine τ4 rfl ?_|refine ⟨rfl,?_⟩|apply τa|refine τb rfl ?_|refine ⟨⟨by kernel_rfl,by kernel_rfl⟩,?_⟩|refine ⟨by decide,?_⟩|apply τt|apply τf))
            obtain rfl | rfl | rfl | rfl | rfl | rfl : arg = 0 ∨ arg = 1 ∨ arg = 2 ∨ arg = 3 ∨ arg = 4 ∨ arg = 5 := by omega
            · refine aw_mixN 16 _ (fun _ => false) (fun i => match i with | 14 => true | 15 => true | _ => false) [0, 1, 2, 3, 4, 5, 6, 7, 8, 9, 10, 11, 12, 13, 14, 15] (by kernel_rfl) (by kernel_rfl) (HB.refl _) ?_
              (repeat((conv=>whnf);first|apply ω0|apply ω1|apply ω2|refine τ3 rfl ?_|refine τ4 rfl ?_|refine ⟨rfl,?_⟩|apply τa|refine τb rfl ?_|refine ⟨⟨by kernel_rfl,by kernel_rfl⟩,?_⟩|refine ⟨by decide,?_⟩|apply τt|apply τf))
              refine ⟨⟨by first | omega | (dsimp only; omega), by first | omega | (dsimp only; omega)⟩, splitV_to (b := .rp [int 0, int op, u64 (mask : Nat), u64 (value : Nat)]) (congrArg (fun c : Cnd => AV.rp (cndA c).cells) hcd) ?_⟩
              (repeat((conv=>whnf);first|apply ω0|apply ω1|apply ω2|refine τ3 rfl ?_|refine τ4 rfl ?_|refine ⟨rfl,?_⟩|apply τa|refine τb rfl ?_|refine ⟨⟨by kernel_rfl,by kernel_rfl⟩,?_⟩|refine ⟨by decide,?_⟩|apply τt|apply τf))
              refine ⟨⟨by first | omega | (dsimp only; omega), by first | omega | (dsimp only; omega)⟩, splitV_to (b := .rp [int 0, int op, u64 (mask : Nat), u64 (value : Nat)]) (congrArg (fun c : Cnd => AV.rp (cndA c).cells) hcd) ?_⟩
              (repeat((conv=>whnf);first|apply ω0|apply ω1|apply ω2|refine τ3 rfl ?_|refine τ4 rfl ?_|refine ⟨rfl,?_⟩|apply τa|refine τb rfl ?_|refine ⟨⟨by kernel_rfl,by kernel_rfl⟩,?_⟩|refine ⟨by decide,?_⟩|apply τt|apply τf))
              refine ⟨_, pure_tells rfl rfl rfl ha8 ⟨AVle.refl _, AVle.refl _, trivial⟩ (NoId.v _), ?_⟩
              (repeat((conv=>whnf);first|apply ω0|apply ω1|apply ω2|refine τ3 rfl ?_|refine τ4 rfl ?_|refine ⟨rfl,?_⟩|apply τa|refine τb rfl ?_|refine ⟨⟨by kernel_rfl,by kernel_rfl⟩,?_⟩|refine ⟨by decide,?_⟩|apply τt|apply τf))
              refine ⟨_, pure_tells rfl rfl rfl hh ⟨AVle.refl _, AVle.refl _, trivial⟩ (NoId.v _), ?_⟩
              (repeat((conv=>whnf);first|apply ω0|apply ω1|apply ω2|refine τ3 rfl ?_|refine τ4 rfl ?_|refine ⟨rfl,?_⟩|apply τa|refine τb rfl ?_|refine ⟨⟨by kernel_rfl,by kernel_rfl⟩,?_⟩|refine ⟨by decide,?_⟩|apply τt|apply τf))
              exact back (j + 1, hv, nx2) ⟨hj, hvn.symm⟩ (by dsimp only; omega) (ele_tell (pm := []) (bx := [((3, nx1), .c [strA r.name, int r.act.1, int r.act.2, cnds r.conds]), ((2, nx + 2), .c [int 0, int 0]), ((1, nx + 1), .c (arrL x)), ((0, nx), .c (polR k n x32 rs))]) _ _ rfl rfl (List.Sublist.refl _) (List.Sublist.refl _) (BxLe.refl _) trivial ⟨AVle.refl _, AVle.refl _, AVle.refl _, AVle.refl _, AVle.refl _, AVle.refl _, AVle.refl _, AVle.refl _, le_int (wrap_succ (by first | omega | (dsimp only; omega))), trivial⟩)
            · refine aw_mixN 16 _ (fun _ => false) (fun i => match i with | 14 => true | 15 => true | _ => false) [0, 1, 2, 3, 4, 5, 6, 7, 8, 9, 10, 11, 12, 13, 14, 15] (by kernel_rfl) (by kernel_rfl) (HB.refl _) ?_
              (repeat((conv=>whnf);first|apply ω0|apply ω1|apply ω2|refine τ3 rfl ?_|refine τ4 rfl ?_|refine ⟨rfl,?_⟩|apply τa|refine τb rfl ?_|refine ⟨⟨by kernel_rfl,by kernel_rfl⟩,?_⟩|refine ⟨by decide,?_⟩|apply τt|apply τf))
              refine ⟨⟨by first | omega | (dsimp only; omega), by first | omega | (dsimp only; omega)⟩, splitV_to (b := .rp [int 1, int op, u64 (mask : Nat), u64 (value : Nat)]) (congrArg (fun c : Cnd => AV.rp (cndA c).cells) hcd) ?_⟩
              (repeat((conv=>whnf);first|apply ω0|apply ω1|apply ω2|refine τ3 rfl ?_|refine τ4 rfl ?_|refine ⟨rfl,?_⟩|apply τa|refine τb rfl ?_|refine ⟨⟨by kernel_rfl,by kernel_rfl⟩,?_⟩|refine ⟨by decide,?_⟩|apply τt|apply τf))
              refine ⟨⟨by first | omega | (dsimp only; omega), by first | omega | (dsimp only; omega)⟩, splitV_to (b := .rp [int 1, int op, u64 (mask : Nat), u64 (value : Nat)]) (congrArg (fun c : Cnd => AV.rp (cndA c).cells) hcd) ?_⟩
              (repeat((conv=>whnf);first|apply ω0|apply ω1|apply ω2|refine τ3 rfl ?_|refine τ4 rfl ?_|refine ⟨rfl,?_⟩|apply τa|refine τb rfl ?_|refine ⟨⟨by kernel_rfl,by kernel_rfl⟩,?_⟩|refine ⟨by decide,?_⟩|apply τt|apply τf))
              refine ⟨_, pure_tells rfl rfl rfl ha8 ⟨AVle.refl _, AVle.refl _, trivial⟩ (NoId.v _), ?_⟩
              (repeat((conv=>whnf);first|apply ω0|apply ω1|apply ω2|refine τ3 rfl ?_|refine τ4 rfl ?_|refine ⟨rfl,?_⟩|apply τa|refine τb rfl ?_|refine ⟨⟨by kernel_rfl,by kernel_rfl⟩,?_⟩|refine ⟨by decide,?_⟩|apply τt|apply τf))
              refine ⟨_, pure_tells rfl rfl rfl hh ⟨AVle.refl _, AVle.refl _, trivial⟩ (NoId.v _), ?_⟩
              (repeat((conv=>whnf);first|apply ω0|apply ω1|apply ω2|refine τ3 rfl ?_|refine τ4 rfl ?_|refine ⟨rfl,?_⟩|apply τa|refine τb rfl ?_|refine ⟨⟨by kernel_rfl,by kernel_rfl⟩,?_⟩|refine ⟨by decide,?_⟩|apply τt|apply τf))
              exact back (j + 1, hv, nx2) ⟨hj, hvn.symm⟩ (by dsimp only; omega) (ele_tell (pm := []) (bx := [((3, nx1), .c [strA r.name, int r.act.1, int r.act.2, cnds r.conds]), ((2, nx + 2), .c [int 0, int 0]), ((1, nx + 1), .c (arrL x)), ((0, nx), .c (polR k n x32 rs))]) _ _ rfl rfl (List.Sublist.refl _) (List.Sublist.refl _) (BxLe.refl _) trivial ⟨AVle.refl _, AVle.refl _, AVle.refl _, AVle.refl _, AVle.refl _, AVle.refl _, AVle.refl _, AVle.refl _, le_int (wrap_succ (by first | omega | (dsimp only; omega))), trivial⟩)
            · refine aw_mixN 16 _ (fun _ => false) (fun i => match i with | 14 => true | 15 => true | _ => false) [0, 1, 2, 3, 4, 5, 6, 7, 8, 9, 10, 11, 12, 13, 14, 15] (by kernel_rfl) (by kernel_rfl) (HB.refl _) ?_
              (repeat((conv=>whnf);first|apply ω0|apply ω1|apply ω2|refine τ3 rfl ?_|refine τ4 rfl ?_|refine ⟨rfl,?_⟩|apply τa|refine τb rfl ?_|refine ⟨⟨by kernel_rfl,by kernel_rfl⟩,?_⟩|refine ⟨by decide,?_⟩|apply τt|apply τf))
              refine ⟨⟨by first | omega | (dsimp only; omega), by first | omega | (dsimp only; omega)⟩, splitV_to (b := .rp [int 2, int op, u64 (mask : Nat), u64 (value : Nat)]) (congrArg (fun c : Cnd => AV.rp (cndA c).cells) hcd) ?_⟩
              (repeat((conv=>whnf);first|apply ω0|apply ω1|apply ω2|refine τ3 rfl ?_|refine τ4 rfl ?_|refine ⟨rfl,?_⟩|apply τa|refine τb rfl ?_|refine ⟨⟨by kernel_rfl,by kernel_rfl⟩,?_⟩|refine ⟨by decide,?_⟩|apply τt|apply τf))
              refine ⟨⟨by first | omega | (dsimp only; omega), by first | omega | (dsimp only; omega)⟩, splitV_to (b := .rp [int 2, int op, u64 (mask : Nat), u64 (value : Nat)]) (congrArg (fun c : Cnd => AV.rp (cndA c).cells) hcd) ?_⟩
              (repeat((conv=>whnf);first|apply ω0|apply ω1|apply ω2|refine τ3 rfl ?_|refine τ4 rfl ?_|refine ⟨rfl,?_⟩|apply τa|refine τb rfl ?_|refine ⟨⟨by kernel_rfl,by kernel_rfl⟩,?_⟩|refine ⟨by decide,?_⟩|apply τt|apply τf))
              refine ⟨_, pure_tells rfl rfl rfl ha8 ⟨AVle.refl _, AVle.refl _, trivial⟩ (NoId.v _), ?_⟩
              (repeat((conv=>whnf);first|apply ω0|apply ω1|apply ω2|refine τ3 rfl ?_|refine τ4 rfl ?_|refine ⟨rfl,?_⟩|apply τa|refine τb rfl ?_|refine ⟨⟨by kernel_rfl,by kernel_rfl⟩,?_⟩|refine ⟨by decide,?_⟩|apply τt|apply τf))
              refine ⟨_, pure_tells rfl rfl rfl hh ⟨AVle.refl _, AVle.refl _, trivial⟩ (NoId.v _), ?_⟩
              (repeat((conv=>whnf);first|apply ω0|apply ω1|apply ω2|refine τ3 rfl ?_|refine τ4 rfl ?_|refine ⟨rfl,?_⟩|apply τa|refine τb rfl ?_|refine ⟨⟨by kernel_rfl,by kernel_rfl⟩,?_⟩|refine ⟨by decide,?_⟩|apply τt|apply τf))
              exact back (j + 1, hv, nx2) ⟨hj, hvn.symm⟩ (by dsimp only; omega) (ele_tell (pm := []) (bx := [((3, nx1), .c [strA r.name, int r.act.1, int r.act.2, cnds r.conds]), ((2, nx + 2), .c [int 0, int 0]), ((1, nx + 1), .c (arrL x)), ((0, nx), .c (polR k n x32 rs))]) _ _ rfl rfl (List.Sublist.refl _) (List.Sublist.refl _) (BxLe.refl _) trivial ⟨AVle.refl _, AVle.refl _, AVle.refl _, AVle.refl _, AVle.refl _, AVle.refl _, AVle.refl _, AVle.refl _, le_int (wrap_succ (by first | omega | (dsimp only; omega))), trivial⟩)
            · refine aw_mixN 16 _ (fun _ => false) (fun i => match i with | 14 => true | 15 => true | _ => false) [0, 1, 2, 3, 4, 5, 6, 7, 8, 9, 10, 11, 12, 13, 14, 15] (by kernel_rfl) (by kernel_rfl) (HB.refl _) ?_
              (repeat((conv=>whnf);first|apply ω0|apply ω1|apply ω2|refine τ3 rfl ?_|refine τ4 rfl ?_|refine ⟨rfl,?_⟩|apply τa|refine τb rfl ?_|refine ⟨⟨by kernel_rfl,by kernel_rfl⟩,?_⟩|refine ⟨by decide,?_⟩|apply τt|apply τf))
              refine ⟨⟨by first | omega | (dsimp only; omega), by first | omega | (dsimp only; omega)⟩, splitV_to (b := .rp [int 3, int op, u64 (mask : Nat), u64 (value : Nat)]) (congrArg (fun c : Cnd => AV.rp (cndA c).cells) hcd) ?_⟩
              (repeat((conv=>whnf);first|apply ω0|apply ω1|apply ω2|refine τ3 rfl ?_|refine τ4 rfl ?_|refine ⟨rfl,?_⟩|apply τa|refine τb rfl ?_|refine ⟨⟨by kernel_rfl,by kernel_rfl⟩,?_⟩|refine ⟨by decide,?_⟩|apply τt|apply τf))
              refine ⟨⟨by first | omega | (dsimp only; omega), by first | omega | (dsimp only; omega)⟩, splitV_to (b := .rp [int 3, int op, u64 (mask : Nat), u64 (value : Nat)]) (congrArg (fun c : Cnd => AV.rp (cndA c).cells) hcd) ?_⟩
              (repeat((conv=>whnf);first|apply ω0|apply ω1|apply ω2|refine τ3 rfl ?_|refine τ4 rfl ?_|refine ⟨rfl,?_⟩|apply τa|refine τb rfl ?_|refine ⟨⟨by kernel_rfl,by kernel_rfl⟩,?_⟩|refine ⟨by decide,?_⟩|apply τt|apply τf))
              refine ⟨_, pure_tells rfl rfl rfl ha8 ⟨AVle.refl _, AVle.refl _, trivial⟩ (NoId.v _), ?_⟩
              (repeat((conv=>whnf);first|apply ω0|apply ω1|apply ω2|refine τ3 rfl ?_|refine τ4 rfl ?_|refine ⟨rfl,?_⟩|apply τa|refine τb rfl ?_|refine ⟨⟨by kernel_rfl,by kernel_rfl⟩,?_⟩|refine ⟨by decide,?_⟩|apply τt|apply τf))
              refine ⟨_, pure_tells rfl rfl rfl hh ⟨AVle.refl _, AVle.refl _, trivial⟩ (NoId.v _), ?_⟩
              (repeat((conv=>whnf);first|apply ω0|apply ω1|apply ω2|refine τ3 rfl ?_|refine τ4 rfl ?_|refine ⟨rfl,?_⟩|apply τa|refine τb rfl ?_|refine ⟨⟨by kernel_rfl,by kernel_rfl⟩,?_⟩|refine ⟨by decide,?_⟩|apply τt|apply τf))
              exact back (j + 1, hv, nx2) ⟨hj, hvn.symm⟩ (by dsimp only; omega) (ele_tell (pm := []) (bx := [((3, nx1), .c [strA r.name, int r.act.1, int r.act.2, cnds r.conds]), ((2, nx + 2), .c [int 0, int 0]), ((1, nx + 1), .c (arrL x)), ((0, nx), .c (polR k n x32 rs))]) _ _ rfl rfl (List.Sublist.refl _) (List.Sublist.refl _) (BxLe.refl _) trivial ⟨AVle.refl _, AVle.refl _, AVle.refl _, AVle.refl _, AVle.refl _, AVle.refl _, AVle.refl _, AVle.refl _, le_int (wrap_succ (by first | omega | (dsimp only; omega))), trivial⟩)
            · refine aw_mixN 16 _ (fun _ => false) (fun i => match i with | 14 => true | 15 => true | _ => false) [0, 1, 2, 3, 4, 5, 6, 7, 8, 9, 10, 11, 12, 13, 14, 15] (by kernel_rfl) (by kernel_rfl) (HB.refl _) ?_
              (repeat((conv=>whnf);first|apply ω0|apply ω1|apply ω2|refine τ3 rfl ?_|refine τ4 rfl ?_|refine ⟨rfl,?_⟩|apply τa|refine τb rfl ?_|refine ⟨⟨by kernel_rfl,by kernel_rfl⟩,?_⟩|refine ⟨by decide,?_⟩|apply τt|apply τf))
              refine ⟨⟨by first | omega | (dsimp only; omega), by first | omega | (dsimp only; omega)⟩, splitV_to (b := .rp [int 4, int op, u64 (mask : Nat), u64 (value : Nat)]) (congrArg (fun c : Cnd => AV.rp (cndA c).cells) hcd) ?_⟩
              (repeat((conv=>whnf);first|apply ω0|apply ω1|apply ω2|refine τ3 rfl ?_|refine τ4 rfl ?_|refine ⟨rfl,?_⟩|apply τa|refine τb rfl ?_|refine ⟨⟨by kernel_rfl,by kernel_rfl⟩,?_⟩|refine ⟨by decide,?_⟩|apply τt|apply τf))
              refine ⟨⟨by first | omega | (dsimp only; omega), by first | omega | (dsimp only; omega)⟩, splitV_to (b := .rp [int 4, int op, u64 (mask : Nat), u64 (value : Nat)]) (congrArg (fun c : Cnd => AV.rp (cndA c).cells) hcd) ?_⟩
              (repeat((conv=>whnf);first|apply ω0|apply ω1|apply ω2|refine τ3 rfl ?_|refine τ4 rfl ?_|refine ⟨rfl,?_⟩|apply τa|refine τb rfl ?_|refine ⟨⟨by kernel_rfl,by kernel_rfl⟩,?_⟩|refine ⟨by decide,?_⟩|apply τt|apply τf))
              refine ⟨_, pure_tells rfl rfl rfl ha8 ⟨AVle.refl _, AVle.refl _, trivial⟩ (NoId.v _), ?_⟩
              (repeat((conv=>whnf);first|apply ω0|apply ω1|apply ω2|refine τ3 rfl ?_|refine τ4 rfl ?_|refine ⟨rfl,?_⟩|apply τa|refine τb rfl ?_|refine ⟨⟨by kernel_rfl,by kernel_rfl⟩,?_⟩|refine ⟨by decide,?_⟩|apply τt|apply τf))
              refine ⟨_, pure_tells rfl rfl rfl hh ⟨AVle.refl _, AVle.refl _, trivial⟩ (NoId.v _), ?_⟩
              (repeat((conv=>whnf);first|apply ω0|apply ω1|apply ω2|refine τ3 rfl ?_|refine τ4 rfl ?_|refine ⟨rfl,?_⟩|apply τa|refine τb rfl ?_|refine ⟨⟨by kernel_rfl,by kernel_rfl⟩,?_⟩|refine ⟨by decide,?_⟩|apply τt|apply τf))
              exact back (j + 1, hv, nx2) ⟨hj, hvn.symm⟩ (by dsimp only; omega) (ele_tell (pm := []) (bx := [((3, nx1), .c [strA r.name, int r.act.1, int r.act.2, cnds r.conds]), ((2, nx + 2), .c [int 0, int 0]), ((1, nx + 1), .c (arrL x)), ((0, nx), .c (polR k n x32 rs))]) _ _ rfl rfl (List.Sublist.refl _) (List.Sublist.refl _) (BxLe.refl _) trivial ⟨AVle.refl _, AVle.refl _, AVle.refl _, AVle.refl _, AVle.refl _, AVle.refl _, AVle.refl _, AVle.refl _, le_int (wrap_succ (by first | omega | (dsimp only; omega))), trivial⟩)
            · refine aw_mixN 16 _ (fun _ => false) (fun i => match i with | 14 => true | 15 => true | _ => false) [0, 1, 2, 3, 4, 5, 6, 7, 8, 9, 10, 11, 12, 13, 14, 15] (by kernel_rfl) (by kernel_rfl) (HB.refl _) ?_
              (repeat((conv=>whnf);first|apply ω0|apply ω1|apply ω2|refine τ3 rfl ?_|refine τ4 rfl ?_|refine ⟨rfl,?_⟩|apply τa|refine τb rfl ?_|refine ⟨⟨by kernel_rfl,by kernel_rfl⟩,?_⟩|refine ⟨by decide,?_⟩|apply τt|apply τf))
              refine ⟨⟨by first | omega | (dsimp only; omega), by first | omega | (dsimp only; omega)⟩, splitV_to (b := .rp [int 5, int op, u64 (mask : Nat), u64 (value : Nat)]) (congrArg (fun c : Cnd => AV.rp (cndA c).cells) hcd) ?_⟩
              (repeat((conv=>whnf);first|apply ω0|apply ω1|apply ω2|refine τ3 rfl ?_|refine τ4 rfl ?_|refine ⟨rfl,?_⟩|apply τa|refine τb rfl ?_|refine ⟨⟨by kernel_rfl,by kernel_rfl⟩,?_⟩|refine ⟨by decide,?_⟩|apply τt|apply τf))
              refine ⟨⟨by first | omega | (dsimp only; omega), by first | omega | (dsimp only; omega)⟩, splitV_to (b := .rp [int 5, int op, u64 (mask : Nat), u64 (value : Nat)]) (congrArg (fun c : Cnd => AV.rp (cndA c).cells) hcd) ?_⟩
              (repeat((conv=>whnf);first|apply ω0|apply ω1|apply ω2|refine τ3 rfl ?_|refine τ4 rfl ?_|refine ⟨rfl,?_⟩|apply τa|refine τb rfl ?_|refine ⟨⟨by kernel_rfl,by kernel_rfl⟩,?_⟩|refine ⟨by decide,?_⟩|apply τt|apply τf))
              refine ⟨_, pure_tells rfl rfl rfl ha8 ⟨AVle.refl _, AVle.refl _, trivial⟩ (NoId.v _), ?_⟩
              (repeat((conv=>whnf);first|apply ω0|apply ω1|apply ω2|refine τ3 rfl ?_|refine τ4 rfl ?_|refine ⟨rfl,?_⟩|apply τa|refine τb rfl ?_|refine ⟨⟨by kernel_rfl,by kernel_rfl⟩,?_⟩|refine ⟨by decide,?_⟩|apply τt|apply τf))
              refine ⟨_, pure_tells rfl rfl rfl hh ⟨AVle.refl _, AVle.refl _, trivial⟩ (NoId.v _), ?_⟩
              (repeat((conv=>whnf);first|apply ω0|apply ω1|apply ω2|refine τ3 rfl ?_|refine τ4 rfl ?_|refine ⟨rfl,?_⟩|apply τa|refine τb rfl ?_|refine ⟨⟨by kernel_rfl,by kernel_rfl⟩,?_⟩|refine ⟨by decide,?_⟩|apply τt|apply τf))
              exact back (j + 1, hv, nx2) ⟨hj, hvn.symm⟩ (by dsimp only; omega) (ele_tell (pm := []) (bx := [((3, nx1), .c [strA r.name, int r.act.1, int r.act.2, cnds r.conds]), ((2, nx + 2), .c [int 0, int 0]), ((1, nx + 1), .c (arrL x)), ((0, nx), .c (polR k n x32 rs))]) _ _ rfl rfl (List.Sublist.refl _) (List.Sublist.refl _) (BxLe.refl _) trivial ⟨AVle.refl _, AVle.refl _, AVle.refl _, AVle.refl _, AVle.refl _, AVle.refl _, AVle.refl _, AVle.refl _, le_int (wrap_succ (by first | omega | (dsimp only; omega))), trivial⟩)
end Go.Proofs.W

namespace Go.Proofs.W
open Go.Vl
set_option maxRecDepth 100000

set_option maxHeartbeats 4000000 in
theorem refblind_spec (p : Pol) (nm : ByteArray) (hl : p.rules.length ≤ 1000000) : Tells Tryz.prog 16 [polA p, strA nm] (actP (blindP p nm)) := by
  obtain ⟨⟨k, n⟩, x32, rs⟩ := p
  dsimp only at hl
  refine tells_of_aw Tryz.func16 rfl rfl fun nx => ?_
  (repeat((conv=>whnf);first|apply ω0|apply ω1|apply ω2|refine τ3 rfl ?_|refine τ4 rfl ?_|refine ⟨rfl,?_⟩|apply τa|refine τb rfl ?_|refine ⟨⟨by kernel_rfl,by kernel_rfl⟩,?_⟩|refine ⟨by decide,?_⟩|apply τt|apply τf))
  refine aw_loop (fun y : Nat × Nat => mk 49 [(1, strA nm), (2, .bp (0, nx) 0), (4, .bp (1, nx + 1) 0), (5, int y.1)] ⟨[((1, nx + 1), .c [int 0, int 0]), ((0, nx), .c (polR k n x32 rs))], [], y.2, 2⟩) (fun y => y.1 ≤ rs.length ∧ ∀ j, j < y.1 → kS (rs.getD j rul0).name nm = false) (fun y => rs.length - y.1) ?_ ?_
  · exact ⟨(0, nx + 2), ⟨Nat.zero_le _, fun j h => absurd h (Nat.not_lt_zero _)⟩, ele_tell (pm := []) (bx := [((1, nx + 1), .c [int 0, int 0]), ((0, nx), .c (polR k n x32 rs))]) _ _ rfl rfl (List.Sublist.refl _) (List.Sublist.refl _) (BxLe.refl _) trivial ⟨AVle.refl _, AVle.refl _, AVle.refl _, AVle.refl _, trivial⟩⟩
  · rintro ⟨i, nx1⟩ ⟨h1, h2⟩
    dsimp only at h1 h2
    (repeat((conv=>whnf);first|apply ω0|apply ω1|apply ω2|refine τ3 rfl ?_|refine τ4 rfl ?_|refine ⟨rfl,?_⟩|apply τa|refine τb rfl ?_|refine ⟨⟨by kernel_rfl,by kernel_rfl⟩,?_⟩|refine ⟨by decide,?_⟩|apply τt|apply τf))
    intro c g1; cases c
    · have g1 := not_of g1
      try dsimp only at g1
      have hi : i = rs.length := by omega
      subst hi
      have hd : blindP ⟨(k, n), x32, rs⟩ nm = (k, n) := by
        unfold blindP
        rw [List.find?_eq_none.2 fun r hr => ?_]
        obtain ⟨j, hj, rfl⟩ := List.mem_iff_getElem.1 hr
        have := h2 j hj
        rw [show rs.getD j rul0 = rs[j] by simp [List.getD, hj]] at this
        rw [this]; decide
      (repeat((conv=>whnf);first|apply ω0|apply ω1|apply ω2|refine τ3 rfl ?_|refine τ4 rfl ?_|refine ⟨rfl,?_⟩|apply τa|refine τb rfl ?_|refine ⟨⟨by kernel_rfl,by kernel_rfl⟩,?_⟩|refine ⟨by decide,?_⟩|apply τt|apply τf))
      exact ret_tells_all rfl ⟨rfl, trivial⟩ (AVle.of_eq (by rw [hd]; rfl))
    · have g1 := yes_of g1
      try dsimp only at g1
      have hi : i < rs.length := by omega
      generalize hr : rs.getD i rul0 = r
      have hcell : AV.rp (rulA (rs.getD i rul0)).cells = .rp [strA r.name, int r.act.1, int r.act.2, cnds r.conds] := by rw [hr]; rfl
      (repeat((conv=>whnf);first|apply ω0|apply ω1|apply ω2|refine τ3 rfl ?_|refine τ4 rfl ?_|refine ⟨rfl,?_⟩|apply τa|refine τb rfl ?_|refine ⟨⟨by kernel_rfl,by kernel_rfl⟩,?_⟩|refine ⟨by decide,?_⟩|apply τt|apply τf))
      refine ⟨⟨by first | omega | (dsimp only; omega), by first | omega | (dsimp only; omega)⟩, splitO_eq (b := .rp [strA r.name, int r.act.1, int r.act.2, cnds r.conds]) hcell ?_⟩
      (repeat((conv=>whnf);first|apply ω0|apply ω1|apply ω2|refine τ3 rfl ?_|refine τ4 rfl ?_|refine ⟨rfl,?_⟩|apply τa|refine τb rfl ?_|refine ⟨⟨by kernel_rfl,by kernel_rfl⟩,?_⟩|refine ⟨by decide,?_⟩|apply τt|apply τf))
      intro c hc
      have hc2 : c = kS r.name nm := hc
      cases c
      · (repeat((conv=>whnf);first|apply ω0|apply ω1|apply ω2|refine τ3 rfl ?_|refine τ4 rfl ?_|refine ⟨rfl,?_⟩|apply τa|refine τb rfl ?_|refine ⟨⟨by kernel_rfl,by kernel_rfl⟩,?_⟩|refine ⟨by decide,?_⟩|apply τt|apply τf))
        refine ⟨⟨by first | omega | (dsimp only; omega), by first | omega | (dsimp only; omega)⟩, splitO_eq (b := .rp [strA r.name, int r.act.1, int r.act.2, cnds r.conds]) hcell ?_⟩
        (repeat((conv=>whnf);first|apply ω0|apply ω1|apply ω2|refine τ3 rfl ?_|refine τ4 rfl ?_|refine ⟨rfl,?_⟩|apply τa|refine τb rfl ?_|refine ⟨⟨by kernel_rfl,by kernel_rfl⟩,?_⟩|refine ⟨by decide,?_⟩|apply τt|apply τf))
        intro c hc3
        obtain rfl : c = false := hc3.trans hc2.symm
        (repeat((conv=>whnf);first|apply ω0|apply ω1|apply ω2|refine τ3 rfl ?_|refine τ4 rfl ?_|refine ⟨rfl,?_⟩|apply τa|refine τb rfl ?_|refine ⟨⟨by kernel_rfl,by kernel_rfl⟩,?_⟩|refine ⟨by decide,?_⟩|apply τt|apply τf))
        exact back (i + 1, nx1) ⟨hi, fun j hj => by dsimp only at hj; rcases Nat.lt_or_ge j i with q | q; exact h2 j q; rw [show j = i by omega, hr]; exact hc2.symm⟩ (by dsimp only; omega) (ele_tell (pm := []) (bx := [((1, nx + 1), .c [int 0, int 0]), ((0, nx), .c (polR k n x32 rs))]) _ _ rfl rfl (List.Sublist.refl _) (List.Sublist.refl _) (BxLe.refl _) trivial ⟨AVle.refl _, AVle.refl _, AVle.refl _, le_int (wrap_succ (by first | omega | (dsimp only; omega))), trivial⟩)
      · have hfnd : rs.find? (fun r => kS r.name nm) = some r := by
          have := find_first (q := fun r => kS r.name nm) hi h2 (by rw [hr]; exact hc2.symm)
          rw [hr] at this
          exact this
        (repeat((conv=>whnf);first|apply ω0|apply ω1|apply ω2|refine τ3 rfl ?_|refine τ4 rfl ?_|refine ⟨rfl,?_⟩|apply τa|refine τb rfl ?_|refine ⟨⟨by kernel_rfl,by kernel_rfl⟩,?_⟩|refine ⟨by decide,?_⟩|apply τt|apply τf))
        refine ⟨⟨by first | omega | (dsimp only; omega), by first | omega | (dsimp only; omega)⟩, splitO_eq (b := .rp [strA r.name, int r.act.1, int r.act.2, cnds r.conds]) hcell ?_⟩
        (repeat((conv=>whnf);first|apply ω0|apply ω1|apply ω2|refine τ3 rfl ?_|refine τ4 rfl ?_|refine ⟨rfl,?_⟩|apply τa|refine τb rfl ?_|refine ⟨⟨by kernel_rfl,by kernel_rfl⟩,?_⟩|refine ⟨by decide,?_⟩|apply τt|apply τf))
        intro c hc3
        have hc4 : c = decide (r.conds.length = 0) := hc3.trans (by rw [Bool.eq_iff_iff]; simp)
        cases c
        · have hd : blindP ⟨(k, n), x32, rs⟩ nm = (k, n) := by unfold blindP; rw [hfnd]; exact if_neg (of_decide_eq_false hc4.symm)
          (repeat((conv=>whnf);first|apply ω0|apply ω1|apply ω2|refine τ3 rfl ?_|refine τ4 rfl ?_|refine ⟨rfl,?_⟩|apply τa|refine τb rfl ?_|refine ⟨⟨by kernel_rfl,by kernel_rfl⟩,?_⟩|refine ⟨by decide,?_⟩|apply τt|apply τf))
          refine ⟨⟨by first | omega | (dsimp only; omega), by first | omega | (dsimp only; omega)⟩, splitO_eq (b := .rp [strA r.name, int r.act.1, int r.act.2, cnds r.conds]) hcell ?_⟩
          (repeat((conv=>whnf);first|apply ω0|apply ω1|apply ω2|refine τ3 rfl ?_|refine τ4 rfl ?_|refine ⟨rfl,?_⟩|apply τa|refine τb rfl ?_|refine ⟨⟨by kernel_rfl,by kernel_rfl⟩,?_⟩|refine ⟨by decide,?_⟩|apply τt|apply τf))
          intro c hc5
          obtain rfl : c = true := hc5.trans hc2.symm
          (repeat((conv=>whnf);first|apply ω0|apply ω1|apply ω2|refine τ3 rfl ?_|refine τ4 rfl ?_|refine ⟨rfl,?_⟩|apply τa|refine τb rfl ?_|refine ⟨⟨by kernel_rfl,by kernel_rfl⟩,?_⟩|refine ⟨by decide,?_⟩|apply τt|apply τf))
          exact ret_tells_all rfl ⟨rfl, trivial⟩ (AVle.of_eq (by rw [hd]; rfl))
        · have hd : blindP ⟨(k, n), x32, rs⟩ nm = r.act := by unfold blindP; rw [hfnd]; exact if_pos (of_decide_eq_true hc4.symm)
          (repeat((conv=>whnf);first|apply ω0|apply ω1|apply ω2|refine τ3 rfl ?_|refine τ4 rfl ?_|refine ⟨rfl,?_⟩|apply τa|refine τb rfl ?_|refine ⟨⟨by kernel_rfl,by kernel_rfl⟩,?_⟩|refine ⟨by decide,?_⟩|apply τt|apply τf))
          refine ⟨⟨by first | omega | (dsimp only; omega), by first | omega | (dsimp only; omega)⟩, splitO_eq (b := .rp [strA r.name, int r.act.1, int r.act.2, cnds r.conds]) hcell ?_⟩
          (repeat((conv=>whnf);first|apply ω0|apply ω1|apply ω2|refine τ3 rfl ?_|refine τ4 rfl ?_|refine ⟨rfl,?_⟩|apply τa|refine τb rfl ?_|refine ⟨⟨by kernel_rfl,by kernel_rfl⟩,?_⟩|refine ⟨by decide,?_⟩|apply τt|apply τf))
          exact ret_tells_all rfl ⟨rfl, trivial⟩ (AVle.of_eq (by rw [hd]; rfl))
end Go.Proofs.W

namespace Go.Proofs.W
open Go.Vl
set_option maxRecDepth 100000

theorem conds_right {p : Pol} (h : rightP p = true) : ∀ r ∈ p.rules, ∀ c ∈ r.conds, rightC c = true := fun r hr c hc => by
  have := (rights h).2 r hr
  unfold rightR at this
  simp only [Bool.and_eq_true, Bool.not_eq_true', List.any_eq_false] at this
  have := this.2.2.2 c hc
  simpa using this
end Go.Proofs.W

namespace Go.Proofs.W
open Go.Vl
set_option maxRecDepth 100000

theorem find_cong {α : Type} {p q : α → Bool} : ∀ {l : List α}, (∀ x ∈ l, p x = q x) → l.find? p = l.find? q
  | [], _ => rfl
  | x :: l, h => by
    rw [List.find?_cons, List.find?_cons, h x (.head _), find_cong fun y hy => h y (.tail _ hy)]
theorem hB_hR {x y : Nat → Nat} {a : Int} {c : Cnd} (hc : rightC c = true) (hxy : ∀ i, x i = seenA a (y i)) : hB x c = hR a y c := by
  obtain ⟨h1, h2, _⟩ := rightC_iff.1 hc
  unfold hB hR
  rw [hc, Bool.true_and]
  obtain ⟨arg, op, mask, value⟩ := c
  dsimp only at h1 h2 ⊢
  obtain rfl | rfl | rfl | rfl | rfl | rfl : arg = 0 ∨ arg = 1 ∨ arg = 2 ∨ arg = 3 ∨ arg = 4 ∨ arg = 5 := by omega
  · rw [← hxy]; rfl
  · rw [← hxy]; rfl
  · rw [← hxy]; rfl
  · rw [← hxy]; rfl
  · rw [← hxy]; rfl
  · rw [← hxy]; rfl
theorem dec_eq {p : Pol} (h : ∀ r ∈ p.rules, ∀ c ∈ r.conds, rightC c = true) (nm : ByteArray) {x y : Nat → Nat} {a : Int} (hxy : ∀ i, x i = seenA a (y i)) : decP p nm x = decR p nm a y := by
  have e : p.rules.find? (fun r => kS r.name nm && letB x r) = p.rules.find? (fun r => kS r.name nm && r.conds.all (hR a y)) := find_cong fun r hr => by
    show (kS r.name nm && r.conds.all (hB x)) = (kS r.name nm && r.conds.all (hR a y))
    refine congrArg (kS r.name nm && ·) ?_
    rw [Bool.eq_iff_iff, List.all_eq_true, List.all_eq_true]
    exact ⟨fun k c hc => by rw [← hB_hR (h r hr c hc) hxy]; exact k c hc, fun k c hc => by rw [hB_hR (h r hr c hc) hxy]; exact k c hc⟩
  unfold decP decR
  rw [e]
  cases p.rules.find? (fun r => kS r.name nm && r.conds.all (hR a y)) <;> rfl
end Go.Proofs.W

namespace Go.Proofs.W
open Go.Vl
set_option maxRecDepth 100000

def recW (num arch : Nat) : Rec := ⟨num, arch, 0, 0, 0, 0, 0, 0, 0⟩
theorem pAw_ok : polOk pAw := by
  refine ⟨by decide, fun r hr => ?_⟩
  rw [List.mem_singleton.1 hr]
  exact ⟨by decide, fun c hc => by cases hc⟩
theorem pAw_ok2 : pAw.ok := by
  refine ⟨by decide, fun r hr => ?_⟩
  rw [List.mem_singleton.1 hr]
  exact ⟨by decide, by decide, fun c hc => by cases hc⟩
theorem awj1 : judgeR pAw builtL (recW 0 3221225534) = (2147418112, 0) := by kernel_rfl
theorem awj2 : judgeR pAw builtL (recW 63 3221225715) = (2147418112, 0) := by kernel_rfl
theorem awj3 : judgeR pAw builtL (recW 64 3221225715) = (2147483648, 0) := by kernel_rfl
end Go.Proofs.W

namespace Go.Proofs.W
open Go.Vl
set_option maxRecDepth 100000

theorem recW_ok {num arch : Nat} (h1 : num < 4294967296) (h2 : arch < 4294967296) : (recW num arch).ok := by unfold recW Rec.ok; exact ⟨h1, h2, Nat.zero_lt_succ _, Nat.zero_lt_succ _, Nat.zero_lt_succ _, Nat.zero_lt_succ _, Nat.zero_lt_succ _, Nat.zero_lt_succ _, Nat.zero_lt_succ _⟩
theorem aw_judge (num arch : Nat) (h1 : num < 4294967296) (h2 : arch < 4294967296) (v : Nat) (hv : judgeR pAw builtL (recW num arch) = (v, 0)) : Tells Tryz.prog 18 [polA pAw, trows builtL, recA (recW num arch)] (.tup [u32 (v : Nat), int 0]) := by
  have h := judge_law pAw builtL (recW num arch) pAw_ok pAw_ok2 built_len built_names (recW_ok h1 h2)
  rw [hv] at h
  exact h
theorem noid_uj (v : Nat) : NoId (.tup [u32 (v : Nat), int 0]) := NoId.tup (by
  intro y hy
  simp only [List.mem_cons, List.not_mem_nil, or_false] at hy
  rcases hy with rfl | rfl <;> exact NoId.v _)
set_option maxHeartbeats 8000000 in
theorem awake17_spec : Tells Tryz.prog 11 [] (boolA true) := by
  have hb := builtin_spec
  have h1 := aw_judge 0 3221225534 (by decide) (by decide) _ awj1
  have h2 := aw_judge 63 3221225715 (by decide) (by decide) _ awj2
  have h3 := aw_judge 64 3221225715 (by decide) (by decide) _ awj3
  generalize builtL = B at hb h1 h2 h3
  refine tells_of_aw Tryz.func11 rfl rfl fun nx => ?_
  (repeat((conv=>whnf);first|apply ω0|apply ω1|apply ω2|refine τ3 rfl ?_|refine τ4 rfl ?_|refine ⟨rfl,?_⟩|apply τa|refine τb rfl ?_|refine ⟨⟨by kernel_rfl,by kernel_rfl⟩,?_⟩|refine ⟨by decide,?_⟩|apply τt|apply τf))
  refine aop_tells rfl rfl parse_spec ⟨AVle.refl _, trivial⟩ fun nx2 => ?_
  (repeat((conv=>whnf);first|apply ω0|apply ω1|apply ω2|refine τ3 rfl ?_|refine τ4 rfl ?_|refine ⟨rfl,?_⟩|apply τa|refine τb rfl ?_|refine ⟨⟨by kernel_rfl,by kernel_rfl⟩,?_⟩|refine ⟨by decide,?_⟩|apply τt|apply τf))
  refine aw_mixN 8 _ (fun _ => false) (fun i => match i with | 1 => true | 3 => true | _ => false) [0, 1, 2, 3, 4, 5, 6, 7] (by kernel_rfl) (by kernel_rfl) (HB.refl _) ?_
  (repeat((conv=>whnf);first|apply ω0|apply ω1|apply ω2|refine τ3 rfl ?_|refine τ4 rfl ?_|refine ⟨rfl,?_⟩|apply τa|refine τb rfl ?_|refine ⟨⟨by kernel_rfl,by kernel_rfl⟩,?_⟩|refine ⟨by decide,?_⟩|apply τt|apply τf))
  refine ⟨_, pure_tells rfl rfl rfl hb trivial (noid_trows _), ?_⟩
  (repeat((conv=>whnf);first|apply ω0|apply ω1|apply ω2|refine τ3 rfl ?_|refine τ4 rfl ?_|refine ⟨rfl,?_⟩|apply τa|refine τb rfl ?_|refine ⟨⟨by kernel_rfl,by kernel_rfl⟩,?_⟩|refine ⟨by decide,?_⟩|apply τt|apply τf))
  refine ⟨_, pure_tells rfl rfl rfl h1 ⟨AVle.refl _, AVle.refl _, AVle.refl _, trivial⟩ (noid_uj _), ?_⟩
  (repeat((conv=>whnf);first|apply ω0|apply ω1|apply ω2|refine τ3 rfl ?_|refine τ4 rfl ?_|refine ⟨rfl,?_⟩|apply τa|refine τb rfl ?_|refine ⟨⟨by kernel_rfl,by kernel_rfl⟩,?_⟩|refine ⟨by decide,?_⟩|apply τt|apply τf))
  refine aw_mixN 8 _ (fun _ => false) (fun i => match i with | 1 => true | 3 => true | _ => false) [0, 1, 2, 3, 4, 5, 6, 7] (by kernel_rfl) (by kernel_rfl) (HB.refl _) ?_
  (repeat((conv=>whnf);first|apply ω0|apply ω1|apply ω2|refine τ3 rfl ?_|refine τ4 rfl ?_|refine ⟨rfl,?_⟩|apply τa|refine τb rfl ?_|refine ⟨⟨by kernel_rfl,by kernel_rfl⟩,?_⟩|refine ⟨by decide,?_⟩|apply τt|apply τf))
  refine ⟨_, pure_tells rfl rfl rfl hb trivial (noid_trows _), ?_⟩
  (repeat((conv=>whnf);first|apply ω0|apply ω1|apply ω2|refine τ3 rfl ?_|refine τ4 rfl ?_|refine ⟨rfl,?_⟩|apply τa|refine τb rfl ?_|refine ⟨⟨by kernel_rfl,by kernel_rfl⟩,?_⟩|refine ⟨by decide,?_⟩|apply τt|apply τf))
  refine ⟨_, pure_tells rfl rfl rfl h2 ⟨AVle.refl _, AVle.refl _, AVle.refl _, trivial⟩ (noid_uj _), ?_⟩
  (repeat((conv=>whnf);first|apply ω0|apply ω1|apply ω2|refine τ3 rfl ?_|refine τ4 rfl ?_|refine ⟨rfl,?_⟩|apply τa|refine τb rfl ?_|refine ⟨⟨by kernel_rfl,by kernel_rfl⟩,?_⟩|refine ⟨by decide,?_⟩|apply τt|apply τf))
  refine aw_mixN 8 _ (fun _ => false) (fun i => match i with | 1 => true | 3 => true | _ => false) [0, 1, 2, 3, 4, 5, 6, 7] (by kernel_rfl) (by kernel_rfl) (HB.refl _) ?_
  (repeat((conv=>whnf);first|apply ω0|apply ω1|apply ω2|refine τ3 rfl ?_|refine τ4 rfl ?_|refine ⟨rfl,?_⟩|apply τa|refine τb rfl ?_|refine ⟨⟨by kernel_rfl,by kernel_rfl⟩,?_⟩|refine ⟨by decide,?_⟩|apply τt|apply τf))
  refine ⟨_, pure_tells rfl rfl rfl hb trivial (noid_trows _), ?_⟩
  (repeat((conv=>whnf);first|apply ω0|apply ω1|apply ω2|refine τ3 rfl ?_|refine τ4 rfl ?_|refine ⟨rfl,?_⟩|apply τa|refine τb rfl ?_|refine ⟨⟨by kernel_rfl,by kernel_rfl⟩,?_⟩|refine ⟨by decide,?_⟩|apply τt|apply τf))
  refine ⟨_, pure_tells rfl rfl rfl h3 ⟨AVle.refl _, AVle.refl _, AVle.refl _, trivial⟩ (noid_uj _), ?_⟩
  (repeat((conv=>whnf);first|apply ω0|apply ω1|apply ω2|refine τ3 rfl ?_|refine τ4 rfl ?_|refine ⟨rfl,?_⟩|apply τa|refine τb rfl ?_|refine ⟨⟨by kernel_rfl,by kernel_rfl⟩,?_⟩|refine ⟨by decide,?_⟩|apply τt|apply τf))
  exact ret_tells rfl (AVle.refl _)
end Go.Proofs.W

namespace Go.Proofs.W
open Go.Vl
set_option maxRecDepth 100000

theorem light17_ok {p : Pol} (h : lightP p = true) : p.rules.length ≤ 40 ∧ ∀ r ∈ p.rules, r.conds.length ≤ 12 := by
  unfold lightP at h
  simp only [Bool.and_eq_true, decide_eq_true_eq, List.all_eq_true] at h
  refine ⟨h.1, fun r hr => ?_⟩
  have := h.2 r hr
  unfold lightR at this
  simp only [Bool.and_eq_true, decide_eq_true_eq] at this
  exact this.2
theorem polOk_of {p : Pol} (hp : p.ok) (h : lightP p = true) : polOk p := by
  obtain ⟨h1, h2⟩ := light17_ok h
  exact ⟨by omega, fun r hr => ⟨by have := h2 r hr; omega, (hp.2 r hr).2.2⟩⟩
theorem z_act31 : zcells Tryz.prog 31 = some [int 0, int 0] := by kernel_rfl
theorem z_act23 : zcells Tryz.prog 23 = some [int 0, int 0] := by kernel_rfl
theorem noid_act (a b : Int) : NoId (act a b) := NoId.ag (by intro y hy; simp at hy; rcases hy with rfl | rfl <;> exact NoId.v _)
theorem noid_cnds17 (l : List Cnd) : NoId (cnds l) := NoId.sl fun i _ c hc => by
  have hc : c ∈ (cndA (l.getD i cnd0)).cells := hc
  unfold cndA AV.cells at hc
  simp only [List.mem_cons, List.not_mem_nil, or_false] at hc
  rcases hc with rfl | rfl | rfl | rfl <;> exact NoId.v _
theorem noid_ruls17 (L : List Rul) : NoId (ruls L) := NoId.sl fun i _ c hc => by
  have hc : c ∈ (rulA (L.getD i rul0)).cells := hc
  unfold rulA AV.cells at hc
  simp only [List.mem_cons, List.not_mem_nil, or_false] at hc
  rcases hc with rfl | rfl | rfl | rfl
  · exact NoId.v _
  · exact NoId.v _
  · exact NoId.v _
  · exact noid_cnds17 _
theorem noid_pol17 (p : Pol) : NoId (polA p) := NoId.ag (by
  intro y hy
  simp only [List.mem_cons, List.not_mem_nil, or_false] at hy
  rcases hy with rfl | rfl | rfl | rfl
  · exact NoId.v _
  · exact NoId.v _
  · exact NoId.v _
  · exact noid_ruls17 _)
set_option maxHeartbeats 16000000 in
theorem modeldecides_law (p : Pol) (nm : ByteArray) (x : Nat → Nat) (hp : p.ok) (hn : nm.size ≤ maxLen) (hx : ∀ i, x i < 18446744073709551616) : Tells Tryz.prog 3 [polA p, strA nm, arrA x] (boolA true) := by
  have hlt := light_l17 p hp.1
  have hr14 := right14_spec p
  have hawk := awake17_spec
  cases hlp : lightP p with
  | false =>
    rw [hlp] at hlt
    obtain ⟨⟨k, n⟩, x32, rs⟩ := p
    refine tells_of_aw Tryz.func3 rfl rfl fun nx => ?_
    (repeat((conv=>whnf);first|apply ω0|apply ω1|apply ω2|refine τ3 rfl ?_|refine τ4 rfl ?_|refine ⟨rfl,?_⟩|apply τa|refine τb rfl ?_|refine ⟨⟨by kernel_rfl,by kernel_rfl⟩,?_⟩|refine ⟨by decide,?_⟩|apply τt|apply τf))
    refine splitO_eq (b := polA ⟨(k, n), x32, rs⟩) rfl ?_
    (repeat((conv=>whnf);first|apply ω0|apply ω1|apply ω2|refine τ3 rfl ?_|refine τ4 rfl ?_|refine ⟨rfl,?_⟩|apply τa|refine τb rfl ?_|refine ⟨⟨by kernel_rfl,by kernel_rfl⟩,?_⟩|refine ⟨by decide,?_⟩|apply τt|apply τf))
    refine aop_tells rfl rfl hlt ⟨AVle.refl _, trivial⟩ fun nx2 => ?_
    (repeat((conv=>whnf);first|apply ω0|apply ω1|apply ω2|refine τ3 rfl ?_|refine τ4 rfl ?_|refine ⟨rfl,?_⟩|apply τa|refine τb rfl ?_|refine ⟨⟨by kernel_rfl,by kernel_rfl⟩,?_⟩|refine ⟨by decide,?_⟩|apply τt|apply τf))
    refine splitO_eq (b := polA ⟨(k, n), x32, rs⟩) rfl ?_
    (repeat((conv=>whnf);first|apply ω0|apply ω1|apply ω2|refine τ3 rfl ?_|refine τ4 rfl ?_|refine ⟨rfl,?_⟩|apply τa|refine τb rfl ?_|refine ⟨⟨by kernel_rfl,by kernel_rfl⟩,?_⟩|refine ⟨by decide,?_⟩|apply τt|apply τf))
    refine aop_tells rfl rfl hlt ⟨AVle.refl _, trivial⟩ fun nx3 => ?_
    (repeat((conv=>whnf);first|apply ω0|apply ω1|apply ω2|refine τ3 rfl ?_|refine τ4 rfl ?_|refine ⟨rfl,?_⟩|apply τa|refine τb rfl ?_|refine ⟨⟨by kernel_rfl,by kernel_rfl⟩,?_⟩|refine ⟨by decide,?_⟩|apply τt|apply τf))
    exact ret_tells rfl (AVle.refl _)
  | true =>
    rw [hlp] at hlt
    have hpo := polOk_of hp hlp
    by_cases h60 : 60 < nm.size
    · obtain ⟨⟨k, n⟩, x32, rs⟩ := p
      refine tells_of_aw Tryz.func3 rfl rfl fun nx => ?_
      (repeat((conv=>whnf);first|apply ω0|apply ω1|apply ω2|refine τ3 rfl ?_|refine τ4 rfl ?_|refine ⟨rfl,?_⟩|apply τa|refine τb rfl ?_|refine ⟨⟨by kernel_rfl,by kernel_rfl⟩,?_⟩|refine ⟨by decide,?_⟩|apply τt|apply τf))
      refine splitO_eq (b := polA ⟨(k, n), x32, rs⟩) rfl ?_
      (repeat((conv=>whnf);first|apply ω0|apply ω1|apply ω2|refine τ3 rfl ?_|refine τ4 rfl ?_|refine ⟨rfl,?_⟩|apply τa|refine τb rfl ?_|refine ⟨⟨by kernel_rfl,by kernel_rfl⟩,?_⟩|refine ⟨by decide,?_⟩|apply τt|apply τf))
      refine aop_tells rfl rfl hlt ⟨AVle.refl _, trivial⟩ fun nx2 => ?_
      (repeat((conv=>whnf);first|apply ω0|apply ω1|apply ω2|refine τ3 rfl ?_|refine τ4 rfl ?_|refine ⟨rfl,?_⟩|apply τa|refine τb rfl ?_|refine ⟨⟨by kernel_rfl,by kernel_rfl⟩,?_⟩|refine ⟨by decide,?_⟩|apply τt|apply τf))
      (intro c hc; obtain rfl : c = true := hc.trans (by first | exact decide_eq_true (by omega) | (simp; omega)); (repeat((conv=>whnf);first|apply ω0|apply ω1|apply ω2|refine τ3 rfl ?_|refine τ4 rfl ?_|refine ⟨rfl,?_⟩|apply τa|refine τb rfl ?_|refine ⟨⟨by kernel_rfl,by kernel_rfl⟩,?_⟩|refine ⟨by decide,?_⟩|apply τt|apply τf)))
      refine splitO_eq (b := polA ⟨(k, n), x32, rs⟩) rfl ?_
      (repeat((conv=>whnf);first|apply ω0|apply ω1|apply ω2|refine τ3 rfl ?_|refine τ4 rfl ?_|refine ⟨rfl,?_⟩|apply τa|refine τb rfl ?_|refine ⟨⟨by kernel_rfl,by kernel_rfl⟩,?_⟩|refine ⟨by decide,?_⟩|apply τt|apply τf))
      refine aop_tells rfl rfl hlt ⟨AVle.refl _, trivial⟩ fun nx3 => ?_
      (repeat((conv=>whnf);first|apply ω0|apply ω1|apply ω2|refine τ3 rfl ?_|refine τ4 rfl ?_|refine ⟨rfl,?_⟩|apply τa|refine τb rfl ?_|refine ⟨⟨by kernel_rfl,by kernel_rfl⟩,?_⟩|refine ⟨by decide,?_⟩|apply τt|apply τf))
      (intro c hc; obtain rfl : c = true := hc.trans (by first | exact decide_eq_true (by omega) | (simp; omega)); (repeat((conv=>whnf);first|apply ω0|apply ω1|apply ω2|refine τ3 rfl ?_|refine τ4 rfl ?_|refine ⟨rfl,?_⟩|apply τa|refine τb rfl ?_|refine ⟨⟨by kernel_rfl,by kernel_rfl⟩,?_⟩|refine ⟨by decide,?_⟩|apply τt|apply τf)))
      exact ret_tells rfl (AVle.refl _)
    cases hrp : rightP p with
    | false =>
      rw [hrp] at hr14
      obtain ⟨⟨k, n⟩, x32, rs⟩ := p
      refine tells_of_aw Tryz.func3 rfl rfl fun nx => ?_
      (repeat((conv=>whnf);first|apply ω0|apply ω1|apply ω2|refine τ3 rfl ?_|refine τ4 rfl ?_|refine ⟨rfl,?_⟩|apply τa|refine τb rfl ?_|refine ⟨⟨by kernel_rfl,by kernel_rfl⟩,?_⟩|refine ⟨by decide,?_⟩|apply τt|apply τf))
      refine splitO_eq (b := polA ⟨(k, n), x32, rs⟩) rfl ?_
      (repeat((conv=>whnf);first|apply ω0|apply ω1|apply ω2|refine τ3 rfl ?_|refine τ4 rfl ?_|refine ⟨rfl,?_⟩|apply τa|refine τb rfl ?_|refine ⟨⟨by kernel_rfl,by kernel_rfl⟩,?_⟩|refine ⟨by decide,?_⟩|apply τt|apply τf))
      refine aop_tells rfl rfl hlt ⟨AVle.refl _, trivial⟩ fun nx2 => ?_
      (repeat((conv=>whnf);first|apply ω0|apply ω1|apply ω2|refine τ3 rfl ?_|refine τ4 rfl ?_|refine ⟨rfl,?_⟩|apply τa|refine τb rfl ?_|refine ⟨⟨by kernel_rfl,by kernel_rfl⟩,?_⟩|refine ⟨by decide,?_⟩|apply τt|apply τf))
      (intro c hc; obtain rfl : c = false := hc.trans (by first | exact decide_eq_false (by omega) | (simp; omega)); (repeat((conv=>whnf);first|apply ω0|apply ω1|apply ω2|refine τ3 rfl ?_|refine τ4 rfl ?_|refine ⟨rfl,?_⟩|apply τa|refine τb rfl ?_|refine ⟨⟨by kernel_rfl,by kernel_rfl⟩,?_⟩|refine ⟨by decide,?_⟩|apply τt|apply τf)))
      refine splitO_eq (b := polA ⟨(k, n), x32, rs⟩) rfl ?_
      (repeat((conv=>whnf);first|apply ω0|apply ω1|apply ω2|refine τ3 rfl ?_|refine τ4 rfl ?_|refine ⟨rfl,?_⟩|apply τa|refine τb rfl ?_|refine ⟨⟨by kernel_rfl,by kernel_rfl⟩,?_⟩|refine ⟨by decide,?_⟩|apply τt|apply τf))
      refine aop_tells rfl rfl hr14 ⟨AVle.refl _, trivial⟩ fun nx3 => ?_
      (repeat((conv=>whnf);first|apply ω0|apply ω1|apply ω2|refine τ3 rfl ?_|refine τ4 rfl ?_|refine ⟨rfl,?_⟩|apply τa|refine τb rfl ?_|refine ⟨⟨by kernel_rfl,by kernel_rfl⟩,?_⟩|refine ⟨by decide,?_⟩|apply τt|apply τf))
      refine splitO_eq (b := polA ⟨(k, n), x32, rs⟩) rfl ?_
      (repeat((conv=>whnf);first|apply ω0|apply ω1|apply ω2|refine τ3 rfl ?_|refine τ4 rfl ?_|refine ⟨rfl,?_⟩|apply τa|refine τb rfl ?_|refine ⟨⟨by kernel_rfl,by kernel_rfl⟩,?_⟩|refine ⟨by decide,?_⟩|apply τt|apply τf))
      refine aop_tells rfl rfl hlt ⟨AVle.refl _, trivial⟩ fun nx4 => ?_
      (repeat((conv=>whnf);first|apply ω0|apply ω1|apply ω2|refine τ3 rfl ?_|refine τ4 rfl ?_|refine ⟨rfl,?_⟩|apply τa|refine τb rfl ?_|refine ⟨⟨by kernel_rfl,by kernel_rfl⟩,?_⟩|refine ⟨by decide,?_⟩|apply τt|apply τf))
      (intro c hc; obtain rfl : c = false := hc.trans (by first | exact decide_eq_false (by omega) | (simp; omega)); (repeat((conv=>whnf);first|apply ω0|apply ω1|apply ω2|refine τ3 rfl ?_|refine τ4 rfl ?_|refine ⟨rfl,?_⟩|apply τa|refine τb rfl ?_|refine ⟨⟨by kernel_rfl,by kernel_rfl⟩,?_⟩|refine ⟨by decide,?_⟩|apply τt|apply τf)))
      refine aop_tells rfl rfl hawk trivial fun nx5 => ?_
      (repeat((conv=>whnf);first|apply ω0|apply ω1|apply ω2|refine τ3 rfl ?_|refine τ4 rfl ?_|refine ⟨rfl,?_⟩|apply τa|refine τb rfl ?_|refine ⟨⟨by kernel_rfl,by kernel_rfl⟩,?_⟩|refine ⟨by decide,?_⟩|apply τt|apply τf))
      exact ret_tells rfl (AVle.refl _)
    | true =>
      rw [hrp] at hr14
      have hof := pol_l17 p hpo.1 (fun r hr => (hpo.2 r hr).1)
      have hdc := decide_spec p nm x hpo.1 (fun q hq => let_spec x hx q (by have := (hpo.2 q hq).1; omega) (hpo.2 q hq).2)
      have hbl := blind_spec p nm hpo.1
      have hrd := refdecide_spec p nm 0 x hx hpo (conds_right hrp)
      have hrb := refblind_spec p nm hpo.1
      rw [← dec_eq (conds_right hrp) nm (x := x) (fun i => by unfold seenA; rw [if_neg (by decide)])] at hrd
      generalize decP p nm x = A at hdc hrd
      generalize blindP p nm = B at hbl hrb
      obtain ⟨a1, a2⟩ := A
      obtain ⟨b1, b2⟩ := B
      obtain ⟨⟨k, n⟩, x32, rs⟩ := p
      refine tells_of_aw Tryz.func3 rfl rfl fun nx => ?_
      (repeat((conv=>whnf);first|apply ω0|apply ω1|apply ω2|refine τ3 rfl ?_|refine τ4 rfl ?_|refine ⟨rfl,?_⟩|apply τa|refine τb rfl ?_|refine ⟨⟨by kernel_rfl,by kernel_rfl⟩,?_⟩|refine ⟨by decide,?_⟩|apply τt|apply τf))
      refine splitO_eq (b := polA ⟨(k, n), x32, rs⟩) rfl ?_
      (repeat((conv=>whnf);first|apply ω0|apply ω1|apply ω2|refine τ3 rfl ?_|refine τ4 rfl ?_|refine ⟨rfl,?_⟩|apply τa|refine τb rfl ?_|refine ⟨⟨by kernel_rfl,by kernel_rfl⟩,?_⟩|refine ⟨by decide,?_⟩|apply τt|apply τf))
      refine aop_tells rfl rfl hlt ⟨AVle.refl _, trivial⟩ fun nx2 => ?_
      (repeat((conv=>whnf);first|apply ω0|apply ω1|apply ω2|refine τ3 rfl ?_|refine τ4 rfl ?_|refine ⟨rfl,?_⟩|apply τa|refine τb rfl ?_|refine ⟨⟨by kernel_rfl,by kernel_rfl⟩,?_⟩|refine ⟨by decide,?_⟩|apply τt|apply τf))
      (intro c hc; obtain rfl : c = false := hc.trans (by first | exact decide_eq_false (by omega) | (simp; omega)); (repeat((conv=>whnf);first|apply ω0|apply ω1|apply ω2|refine τ3 rfl ?_|refine τ4 rfl ?_|refine ⟨rfl,?_⟩|apply τa|refine τb rfl ?_|refine ⟨⟨by kernel_rfl,by kernel_rfl⟩,?_⟩|refine ⟨by decide,?_⟩|apply τt|apply τf)))
      refine splitO_eq (b := polA ⟨(k, n), x32, rs⟩) rfl ?_
      (repeat((conv=>whnf);first|apply ω0|apply ω1|apply ω2|refine τ3 rfl ?_|refine τ4 rfl ?_|refine ⟨rfl,?_⟩|apply τa|refine τb rfl ?_|refine ⟨⟨by kernel_rfl,by kernel_rfl⟩,?_⟩|refine ⟨by decide,?_⟩|apply τt|apply τf))
      refine aop_tells rfl rfl hr14 ⟨AVle.refl _, trivial⟩ fun nx3 => ?_
      (repeat((conv=>whnf);first|apply ω0|apply ω2|refine τ3 rfl ?_|refine τ4 rfl ?_|refine ⟨rfl,?_⟩|apply τa|refine τb rfl ?_|refine ⟨⟨by kernel_rfl,by kernel_rfl⟩,?_⟩|refine ⟨by decide,?_⟩|apply τt|apply τf))
      refine aw_mid (fun y : Nat × Nat × Nat => mk 70 [(1, strA nm), (3, .bp (0, nx) 0), (5, .bp (1, nx + 1) 0), (6, boolA false), (7, .bp (2, y.1) 0), (8, .bp (3, y.2.1) 0)] ⟨[((3, y.2.1), .c [int b1, int b2]), ((2, y.1), .c [int a1, int a2]), ((1, nx + 1), .c (arrL x)), ((0, nx), .c [int k, int n, boolA x32, ruls rs])], [], y.2.2, 4⟩) (fun _ => True) ?_ ?_
      · refine aw_mix4 12 [((1, nx + 1), .c (arrL x)), ((0, nx), .c [int k, int n, boolA x32, ruls rs])] (fun i => match i with | 9 => true | 10 => true | 11 => true | _ => false) (fun i => match i with | 1 => true | 4 => true | 6 => true | 8 => true | _ => false) [0, 1, 2, 3, 4, 5, 6, 7, 8] 9 10 [11] (by kernel_rfl) (by kernel_rfl) (HB.refl _) ?_
        (repeat((conv=>whnf);first|apply ω0|apply ω1|apply ω2|refine τ3 rfl ?_|refine τ4 rfl ?_|refine ⟨rfl,?_⟩|apply τa|refine τb rfl ?_|refine ⟨⟨by kernel_rfl,by kernel_rfl⟩,?_⟩|refine ⟨by decide,?_⟩|apply τt|apply τf))
        refine ⟨_, pure_tells rfl rfl rfl hof ⟨AVle.refl _, trivial⟩ (noid_pol17 _), ?_⟩
        (repeat((conv=>whnf);first|apply ω0|apply ω1|apply ω2|refine τ3 rfl ?_|refine τ4 rfl ?_|refine ⟨rfl,?_⟩|apply τa|refine τb rfl ?_|refine ⟨⟨by kernel_rfl,by kernel_rfl⟩,?_⟩|refine ⟨by decide,?_⟩|apply τt|apply τf))
        refine ⟨_, pure_tells rfl rfl rfl hdc ⟨AVle.refl _, AVle.refl _, AVle.refl _, trivial⟩ (noid_act _ _), ?_⟩
        (repeat((conv=>whnf);first|apply ω0|apply ω1|apply ω2|refine τ3 rfl ?_|refine τ4 rfl ?_|refine ⟨rfl,?_⟩|apply τa|refine τb rfl ?_|refine ⟨⟨by kernel_rfl,by kernel_rfl⟩,?_⟩|refine ⟨by decide,?_⟩|apply τt|apply τf))
        refine ⟨_, pure_tells rfl rfl rfl hof ⟨AVle.refl _, trivial⟩ (noid_pol17 _), ?_⟩
        (repeat((conv=>whnf);first|apply ω0|apply ω1|apply ω2|refine τ3 rfl ?_|refine τ4 rfl ?_|refine ⟨rfl,?_⟩|apply τa|refine τb rfl ?_|refine ⟨⟨by kernel_rfl,by kernel_rfl⟩,?_⟩|refine ⟨by decide,?_⟩|apply τt|apply τf))
        refine ⟨_, pure_tells rfl rfl rfl hbl ⟨AVle.refl _, AVle.refl _, trivial⟩ (noid_act _ _), ?_⟩
        (conv => whnf)
        refine ⟨?_, ?_⟩
        · refine ⟨_, eff_alloc rfl rfl z_act31 (HB.cons rfl (HB.one rfl)), fun r' h' hr => ?_⟩
          obtain ⟨rfl, rfl⟩ := hr
          (conv => whnf)
          refine ⟨_, eff_alloc rfl rfl z_act31 (HB.cons rfl (HB.one rfl)), fun r' h' hr => ?_⟩
          obtain ⟨rfl, rfl⟩ := hr
          (conv => whnf)
          refine ⟨_, eff_store (i := (2, nx3)) (off := 0) (cs := [int 0, int 0]) rfl rfl rfl rfl rfl rfl rfl (by kernel_rfl) (by kernel_rfl) (by show 0 + 2 ≤ 2; omega) (HB.cons rfl (HB.one rfl)), fun r' h' hr => ?_⟩
          obtain rfl := hr
          (repeat((conv=>whnf);first|apply ω0|apply ω1|apply ω2|refine τ3 rfl ?_|refine τ4 rfl ?_|refine ⟨rfl,?_⟩|apply τa|refine τb rfl ?_|refine ⟨⟨by kernel_rfl,by kernel_rfl⟩,?_⟩|refine ⟨by decide,?_⟩|apply τt|apply τf))
          exact ⟨(nx3, nx3 + 1, nx3 + 2), trivial, ele_tell (pm := []) (bx := [((3, nx3 + 1), .c [int b1, int b2]), ((2, nx3), .c [int a1, int a2]), ((1, nx + 1), .c (arrL x)), ((0, nx), .c [int k, int n, boolA x32, ruls rs])]) _ _ rfl rfl (List.Sublist.refl _) (List.Sublist.refl _) (BxLe.refl _) trivial ⟨AVle.refl _, AVle.refl _, AVle.refl _, AVle.refl _, AVle.refl _, AVle.refl _, trivial⟩⟩
        · refine ⟨_, eff_alloc rfl rfl z_act31 (HB.cons rfl (HB.one rfl)), fun r' h' hr => ?_⟩
          obtain ⟨rfl, rfl⟩ := hr
          (conv => whnf)
          refine ⟨_, eff_alloc rfl rfl z_act31 (HB.cons rfl (HB.one rfl)), fun r' h' hr => ?_⟩
          obtain ⟨rfl, rfl⟩ := hr
          (conv => whnf)
          refine ⟨_, eff_store (i := (3, nx3 + 1)) (off := 0) (cs := [int 0, int 0]) rfl rfl rfl rfl rfl rfl rfl (by kernel_rfl) (by kernel_rfl) (by show 0 + 2 ≤ 2; omega) (HB.cons rfl (HB.one rfl)), fun r' h' hr => ?_⟩
          obtain rfl := hr
          (repeat((conv=>whnf);first|apply ω0|apply ω1|apply ω2|refine τ3 rfl ?_|refine τ4 rfl ?_|refine ⟨rfl,?_⟩|apply τa|refine τb rfl ?_|refine ⟨⟨by kernel_rfl,by kernel_rfl⟩,?_⟩|refine ⟨by decide,?_⟩|apply τt|apply τf))
          exact ⟨(nx3 + 1, nx3, nx3 + 2), trivial, ele_tellP (pm := []) (bx := [((3, nx3), .c [int b1, int b2]), ((2, nx3 + 1), .c [int a1, int a2]), ((1, nx + 1), .c (arrL x)), ((0, nx), .c [int k, int n, boolA x32, ruls rs])]) [((2, nx3), .c [int b1, int b2]), ((3, nx3 + 1), .c [int a1, int a2]), ((1, nx + 1), .c (arrL x)), ((0, nx), .c [int k, int n, boolA x32, ruls rs])] _ [] rfl rfl (List.Perm.swap _ _ _) (List.Sublist.refl _) (List.Sublist.refl _) ⟨rfl, OwnLe.refl _, rfl, OwnLe.refl _, BxLe.refl _⟩ trivial ⟨AVle.refl _, AVle.refl _, AVle.refl _, AVle.refl _, AVle.bp_nm rfl, AVle.bp_nm rfl, trivial⟩⟩
      · rintro ⟨y1, y2, nx4⟩ -
        dsimp only
        (repeat((conv=>whnf);first|apply ω0|apply ω2|refine τ3 rfl ?_|refine τ4 rfl ?_|refine ⟨rfl,?_⟩|apply τa|refine τb rfl ?_|refine ⟨⟨by kernel_rfl,by kernel_rfl⟩,?_⟩|refine ⟨by decide,?_⟩|apply τt|apply τf))
        refine aw_mid (fun y : Nat × Nat × Nat => mk 70 [(6, boolA false), (7, .bp (2, y1) 0), (8, .bp (3, y2) 0), (9, .bp (4, y.1) 0), (10, .bp (5, y.2.1) 0)] ⟨[((5, y.2.1), .c [int b1, int b2]), ((4, y.1), .c [int a1, int a2]), ((3, y2), .c [int b1, int b2]), ((2, y1), .c [int a1, int a2]), ((1, nx + 1), .c (arrL x)), ((0, nx), .c [int k, int n, boolA x32, ruls rs])], [], y.2.2, 6⟩) (fun _ => True) ?_ ?_
        · refine aw_mix4 10 [((3, y2), .c [int b1, int b2]), ((2, y1), .c [int a1, int a2]), ((1, nx + 1), .c (arrL x)), ((0, nx), .c [int k, int n, boolA x32, ruls rs])] (fun i => match i with | 7 => true | 8 => true | 9 => true | _ => false) (fun i => match i with | 3 => true | 6 => true | _ => false) [0, 1, 2, 3, 4, 5, 6] 7 8 [9] (by kernel_rfl) (by kernel_rfl) (HB.refl _) ?_
          (repeat((conv=>whnf);first|apply ω0|apply ω1|apply ω2|refine τ3 rfl ?_|refine τ4 rfl ?_|refine ⟨rfl,?_⟩|apply τa|refine τb rfl ?_|refine ⟨⟨by kernel_rfl,by kernel_rfl⟩,?_⟩|refine ⟨by decide,?_⟩|apply τt|apply τf))
          refine ⟨_, pure_tells rfl rfl rfl hrd ⟨AVle.refl _, AVle.refl _, AVle.refl _, AVle.refl _, trivial⟩ (noid_act _ _), ?_⟩
          (repeat((conv=>whnf);first|apply ω0|apply ω1|apply ω2|refine τ3 rfl ?_|refine τ4 rfl ?_|refine ⟨rfl,?_⟩|apply τa|refine τb rfl ?_|refine ⟨⟨by kernel_rfl,by kernel_rfl⟩,?_⟩|refine ⟨by decide,?_⟩|apply τt|apply τf))
          refine ⟨_, pure_tells rfl rfl rfl hrb ⟨AVle.refl _, AVle.refl _, trivial⟩ (noid_act _ _), ?_⟩
          (conv => whnf)
          refine ⟨?_, ?_⟩
          · refine ⟨_, eff_alloc rfl rfl z_act23 (HB.cons rfl (HB.cons rfl (HB.cons rfl (HB.one rfl)))), fun r' h' hr => ?_⟩
            obtain ⟨rfl, rfl⟩ := hr
            (conv => whnf)
            refine ⟨_, eff_alloc rfl rfl z_act23 (HB.cons rfl (HB.cons rfl (HB.cons rfl (HB.one rfl)))), fun r' h' hr => ?_⟩
            obtain ⟨rfl, rfl⟩ := hr
            (conv => whnf)
            refine ⟨_, eff_store (i := (4, nx4)) (off := 0) (cs := [int 0, int 0]) rfl rfl rfl rfl rfl rfl rfl (by kernel_rfl) (by kernel_rfl) (by show 0 + 2 ≤ 2; omega) (HB.cons rfl (HB.cons rfl (HB.cons rfl (HB.one rfl)))), fun r' h' hr => ?_⟩
            obtain rfl := hr
            (repeat((conv=>whnf);first|apply ω0|apply ω1|apply ω2|refine τ3 rfl ?_|refine τ4 rfl ?_|refine ⟨rfl,?_⟩|apply τa|refine τb rfl ?_|refine ⟨⟨by kernel_rfl,by kernel_rfl⟩,?_⟩|refine ⟨by decide,?_⟩|apply τt|apply τf))
            exact ⟨(nx4, nx4 + 1, nx4 + 2), trivial, ele_tell (pm := []) (bx := [((5, nx4 + 1), .c [int b1, int b2]), ((4, nx4), .c [int a1, int a2]), ((3, y2), .c [int b1, int b2]), ((2, y1), .c [int a1, int a2]), ((1, nx + 1), .c (arrL x)), ((0, nx), .c [int k, int n, boolA x32, ruls rs])]) _ _ rfl rfl (List.Sublist.refl _) (List.Sublist.refl _) (BxLe.refl _) trivial ⟨AVle.refl _, AVle.refl _, AVle.refl _, AVle.refl _, AVle.refl _, trivial⟩⟩
          · refine ⟨_, eff_alloc rfl rfl z_act23 (HB.cons rfl (HB.cons rfl (HB.cons rfl (HB.one rfl)))), fun r' h' hr => ?_⟩
            obtain ⟨rfl, rfl⟩ := hr
            (conv => whnf)
            refine ⟨_, eff_alloc rfl rfl z_act23 (HB.cons rfl (HB.cons rfl (HB.cons rfl (HB.one rfl)))), fun r' h' hr => ?_⟩
            obtain ⟨rfl, rfl⟩ := hr
            (conv => whnf)
            refine ⟨_, eff_store (i := (5, nx4 + 1)) (off := 0) (cs := [int 0, int 0]) rfl rfl rfl rfl rfl rfl rfl (by kernel_rfl) (by kernel_rfl) (by show 0 + 2 ≤ 2; omega) (HB.cons rfl (HB.cons rfl (HB.cons rfl (HB.one rfl)))), fun r' h' hr => ?_⟩
            obtain rfl := hr
            (repeat((conv=>whnf);first|apply ω0|apply ω1|apply ω2|refine τ3 rfl ?_|refine τ4 rfl ?_|refine ⟨rfl,?_⟩|apply τa|refine τb rfl ?_|refine ⟨⟨by kernel_rfl,by kernel_rfl⟩,?_⟩|refine ⟨by decide,?_⟩|apply τt|apply τf))
            exact ⟨(nx4 + 1, nx4, nx4 + 2), trivial, ele_tellP (pm := []) (bx := [((5, nx4), .c [int b1, int b2]), ((4, nx4 + 1), .c [int a1, int a2]), ((3, y2), .c [int b1, int b2]), ((2, y1), .c [int a1, int a2]), ((1, nx + 1), .c (arrL x)), ((0, nx), .c [int k, int n, boolA x32, ruls rs])]) [((4, nx4), .c [int b1, int b2]), ((5, nx4 + 1), .c [int a1, int a2]), ((3, y2), .c [int b1, int b2]), ((2, y1), .c [int a1, int a2]), ((1, nx + 1), .c (arrL x)), ((0, nx), .c [int k, int n, boolA x32, ruls rs])] _ [] rfl rfl (List.Perm.swap _ _ _) (List.Sublist.refl _) (List.Sublist.refl _) ⟨rfl, OwnLe.refl _, rfl, OwnLe.refl _, BxLe.refl _⟩ trivial ⟨AVle.refl _, AVle.refl _, AVle.refl _, AVle.bp_nm rfl, AVle.bp_nm rfl, trivial⟩⟩
        · rintro ⟨z1, z2, nx5⟩ -
          dsimp only
          (repeat((conv=>whnf);first|apply ω0|apply ω1|apply ω2|refine τ3 rfl ?_|refine τ4 rfl ?_|refine ⟨rfl,?_⟩|apply τa|refine τb rfl ?_|refine ⟨⟨by kernel_rfl,by kernel_rfl⟩,?_⟩|refine ⟨by decide,?_⟩|apply τt|apply τf))
          intro c hc
          obtain rfl : c = true := hc.trans (by simp)
          (repeat((conv=>whnf);first|apply ω0|apply ω1|apply ω2|refine τ3 rfl ?_|refine τ4 rfl ?_|refine ⟨rfl,?_⟩|apply τa|refine τb rfl ?_|refine ⟨⟨by kernel_rfl,by kernel_rfl⟩,?_⟩|refine ⟨by decide,?_⟩|apply τt|apply τf))
          intro c hc
          obtain rfl : c = true := hc.trans (by simp)
          (repeat((conv=>whnf);first|apply ω0|apply ω1|apply ω2|refine τ3 rfl ?_|refine τ4 rfl ?_|refine ⟨rfl,?_⟩|apply τa|refine τb rfl ?_|refine ⟨⟨by kernel_rfl,by kernel_rfl⟩,?_⟩|refine ⟨by decide,?_⟩|apply τt|apply τf))
          refine aop_tells rfl rfl hawk trivial fun nx6 => ?_
          (repeat((conv=>whnf);first|apply ω0|apply ω1|apply ω2|refine τ3 rfl ?_|refine τ4 rfl ?_|refine ⟨rfl,?_⟩|apply τa|refine τb rfl ?_|refine ⟨⟨by kernel_rfl,by kernel_rfl⟩,?_⟩|refine ⟨by decide,?_⟩|apply τt|apply τf))
          exact ret_tells rfl (AVle.refl _)
end Go.Proofs.W
