import Derived.Test.YtgjlifhlajionaaGreatDoorD
import Derived.Test.YtgjlifhlajionaaGreatDoorC
import Derived.Sort.AssemblyPlain
import Derived.Ground.NamesProg
import Derived.Shelf.Lay
import Derived.Shelf.Small.Bits
import Derived.Lib.ItoaNum
import Derived.Sort.LotA
import Derived.KernelRfl
import Derived.Test.YtgjlifhlajionaaGreatDoorProg
import Derived.Shelf.SortM.Plain
import Derived.Shelf.SortM.SortNone
import Derived.Shelf.SlGeneric
import Derived.Ground.SlgmProg
set_option linter.unusedVariables false
set_option linter.unusedSimpArgs false
namespace Go.Proofs.W
open Go.Vl
set_option maxRecDepth 100000

def okN (n : Nat) : Bool := (decide (97 ≤ n) && decide (n ≤ 122)) || (decide (48 ≤ n) && decide (n ≤ 57)) || decide (n = 95)
theorem signs_all : ∀ n, n < 256 → signsB.data.toList.contains (UInt8.ofNat n) = okN n := by decide +kernel
theorem letters_all : ∀ n, n < 256 → lettersB.data.toList.contains (UInt8.ofNat n) = (decide (97 ≤ n) && decide (n ≤ 122)) := by decide +kernel
theorem signs_ok (b : UInt8) : signsB.data.toList.contains b = okN b.toNat := by
  have := signs_all b.toNat b.toNat_lt
  rwa [UInt8.ofNat_toNat] at this
theorem letters_ok (b : UInt8) : lettersB.data.toList.contains b = (decide (97 ≤ b.toNat) && decide (b.toNat ≤ 122)) := by
  have := letters_all b.toNat b.toNat_lt
  rwa [UInt8.ofNat_toNat] at this
/-- As the reference asks. -/
theorem nameB_ref (l : List UInt8) : nameB l = true ↔ l.length ≠ 0 ∧ l.length ≤ 30 ∧ 97 ≤ (l.headD 0).toNat ∧ (l.headD 0).toNat ≤ 122 ∧ l ≠ defaultL ∧ l ≠ x32L ∧ ∀ j, j < l.length → okN (l.getD j 0).toNat = true := by
  unfold nameB
  simp only [Bool.and_eq_true, Bool.not_eq_true', beq_eq_false_iff_ne, decide_eq_true_eq, letters_ok, List.all_eq_true, signs_ok]
  constructor
  · rintro ⟨h1, h2, h3, h4, h5, h6, h7⟩
    refine ⟨fun h => h1 (List.length_eq_zero_iff.1 h), h4, h6, h7, h2, h3, fun j hj => ?_⟩
    exact h5 _ (by simp [List.getD, hj])
  · rintro ⟨h1, h2, h3, h4, h5, h6, h7⟩
    refine ⟨fun h => h1 (by rw [h]; rfl), h5, h6, h2, fun x hx => ?_, h3, h4⟩
    obtain ⟨j, hj, rfl⟩ := List.getElem_of_mem hx
    have := h7 j hj
    simpa [List.getD, hj] using this
theorem nameB_false {l : List UInt8} (h : ¬ (l.length ≠ 0 ∧ l.length ≤ 30 ∧ 97 ≤ (l.headD 0).toNat ∧ (l.headD 0).toNat ≤ 122 ∧ l ≠ defaultL ∧ l ≠ x32L ∧ ∀ j, j < l.length → okN (l.getD j 0).toNat = true)) : nameB l = false := by
  rw [← nameB_ref] at h
  simpa using h
theorem okN_in {n : Nat} (h : (97 ≤ n ∧ n ≤ 122) ∨ (48 ≤ n ∧ n ≤ 57) ∨ n = 95) : okN n = true := by
  unfold okN
  simp only [Bool.or_eq_true, Bool.and_eq_true, decide_eq_true_eq]
  omega
theorem okN_out {n : Nat} (h : ¬ ((97 ≤ n ∧ n ≤ 122) ∨ (48 ≤ n ∧ n ≤ 57) ∨ n = 95)) : okN n = false := by
  unfold okN
  simp only [Bool.or_eq_false_iff, Bool.and_eq_false_iff, decide_eq_false_iff_not]
  omega
theorem ba_get (s : ByteArray) (i : Nat) : s.data.getD i 0 = s.data.toList.getD i 0 := by
  simp [Array.getD_eq_getD_getElem?, List.getD]
theorem head_getD (l : List UInt8) : l.headD 0 = l.getD 0 0 := by cases l <;> rfl
set_option maxHeartbeats 1000000 in
theorem name11_spec (s : ByteArray) : Tells Tryz.prog 81 [strA s] (boolA (nameB s.data.toList)) := by
  have hsz : s.size = s.data.toList.length := rfl
  refine tells_of_aw Tryz.func81 rfl rfl fun nx => ?_
  (repeat((conv=>whnf);first|apply ω0|apply ω1|apply ω2|refine τ3 rfl ?_|refine τ4 rfl ?_|refine ⟨rfl,?_⟩|apply τa|refine τb rfl ?_|refine ⟨⟨by kernel_rfl,by kernel_rfl⟩,?_⟩|refine ⟨by decide,?_⟩|apply τt|apply τf))
  intro c t1; cases c
  rotate_left
  · have t1 : ((s.size : Nat) : Int) = 0 := fct_b1.1 t1
    (repeat((conv=>whnf);first|apply ω0|apply ω1|apply ω2|refine τ3 rfl ?_|refine τ4 rfl ?_|refine ⟨rfl,?_⟩|apply τa|refine τb rfl ?_|refine ⟨⟨by kernel_rfl,by kernel_rfl⟩,?_⟩|refine ⟨by decide,?_⟩|apply τt|apply τf))
    exact ret_tells rfl (le_bool (nameB_false (fun h => h.1 (by omega))).symm)
  have t1 : ((s.size : Nat) : Int) ≠ 0 := fct_b0.1 t1
  (repeat((conv=>whnf);first|apply ω0|apply ω1|apply ω2|refine τ3 rfl ?_|refine τ4 rfl ?_|refine ⟨rfl,?_⟩|apply τa|refine τb rfl ?_|refine ⟨⟨by kernel_rfl,by kernel_rfl⟩,?_⟩|refine ⟨by decide,?_⟩|apply τt|apply τf))
  intro c t2; cases c
  rotate_left
  · have t2 : ((s.size : Nat) : Int) > 30 := yes_of t2
    (repeat((conv=>whnf);first|apply ω0|apply ω1|apply ω2|refine τ3 rfl ?_|refine τ4 rfl ?_|refine ⟨rfl,?_⟩|apply τa|refine τb rfl ?_|refine ⟨⟨by kernel_rfl,by kernel_rfl⟩,?_⟩|refine ⟨by decide,?_⟩|apply τt|apply τf))
    exact ret_tells rfl (le_bool (nameB_false (fun h => absurd h.2.1 (by omega))).symm)
  have t2 : ¬ ((s.size : Nat) : Int) > 30 := not_of t2
  (repeat((conv=>whnf);first|apply ω0|apply ω1|apply ω2|refine τ3 rfl ?_|refine τ4 rfl ?_|refine ⟨rfl,?_⟩|apply τa|refine τb rfl ?_|refine ⟨⟨by kernel_rfl,by kernel_rfl⟩,?_⟩|refine ⟨by decide,?_⟩|apply τt|apply τf))
  refine ⟨⟨by decide, by show (0 : Int) < (s.size : Int); omega⟩, ?_⟩
  (repeat((conv=>whnf);first|apply ω0|apply ω1|apply ω2|refine τ3 rfl ?_|refine τ4 rfl ?_|refine ⟨rfl,?_⟩|apply τa|refine τb rfl ?_|refine ⟨⟨by kernel_rfl,by kernel_rfl⟩,?_⟩|refine ⟨by decide,?_⟩|apply τt|apply τf))
  intro c t3; cases c
  rotate_left
  · have t3 : (((s.data.getD 0 0).toNat : Nat) : Int) < 97 := yes_of t3
    rw [ba_get, ← head_getD] at t3
    (repeat((conv=>whnf);first|apply ω0|apply ω1|apply ω2|refine τ3 rfl ?_|refine τ4 rfl ?_|refine ⟨rfl,?_⟩|apply τa|refine τb rfl ?_|refine ⟨⟨by kernel_rfl,by kernel_rfl⟩,?_⟩|refine ⟨by decide,?_⟩|apply τt|apply τf))
    exact ret_tells rfl (le_bool (nameB_false (fun h => absurd h.2.2.1 (by omega))).symm)
  have t3 : ¬ (((s.data.getD 0 0).toNat : Nat) : Int) < 97 := not_of t3
  rw [ba_get, ← head_getD] at t3
  (repeat((conv=>whnf);first|apply ω0|apply ω1|apply ω2|refine τ3 rfl ?_|refine τ4 rfl ?_|refine ⟨rfl,?_⟩|apply τa|refine τb rfl ?_|refine ⟨⟨by kernel_rfl,by kernel_rfl⟩,?_⟩|refine ⟨by decide,?_⟩|apply τt|apply τf))
  refine ⟨⟨by decide, by show (0 : Int) < (s.size : Int); omega⟩, ?_⟩
  (repeat((conv=>whnf);first|apply ω0|apply ω1|apply ω2|refine τ3 rfl ?_|refine τ4 rfl ?_|refine ⟨rfl,?_⟩|apply τa|refine τb rfl ?_|refine ⟨⟨by kernel_rfl,by kernel_rfl⟩,?_⟩|refine ⟨by decide,?_⟩|apply τt|apply τf))
  intro c t4; cases c
  rotate_left
  · have t4 : (((s.data.getD 0 0).toNat : Nat) : Int) > 122 := yes_of t4
    rw [ba_get, ← head_getD] at t4
    (repeat((conv=>whnf);first|apply ω0|apply ω1|apply ω2|refine τ3 rfl ?_|refine τ4 rfl ?_|refine ⟨rfl,?_⟩|apply τa|refine τb rfl ?_|refine ⟨⟨by kernel_rfl,by kernel_rfl⟩,?_⟩|refine ⟨by decide,?_⟩|apply τt|apply τf))
    exact ret_tells rfl (le_bool (nameB_false (fun h => absurd h.2.2.2.1 (by omega))).symm)
  have t4 : ¬ (((s.data.getD 0 0).toNat : Nat) : Int) > 122 := not_of t4
  rw [ba_get, ← head_getD] at t4
  (repeat((conv=>whnf);first|apply ω0|apply ω1|apply ω2|refine τ3 rfl ?_|refine τ4 rfl ?_|refine ⟨rfl,?_⟩|apply τa|refine τb rfl ?_|refine ⟨⟨by kernel_rfl,by kernel_rfl⟩,?_⟩|refine ⟨by decide,?_⟩|apply τt|apply τf))
  intro c t5
  rw [Lib.toList_data, Lib.toList_data] at t5
  cases c
  rotate_left
  · have t5 : s.data.toList = defaultL := beq_iff_eq.1 t5.symm
    (repeat((conv=>whnf);first|apply ω0|apply ω1|apply ω2|refine τ3 rfl ?_|refine τ4 rfl ?_|refine ⟨rfl,?_⟩|apply τa|refine τb rfl ?_|refine ⟨⟨by kernel_rfl,by kernel_rfl⟩,?_⟩|refine ⟨by decide,?_⟩|apply τt|apply τf))
    exact ret_tells rfl (le_bool (nameB_false (fun h => h.2.2.2.2.1 t5)).symm)
  have t5 : ¬ s.data.toList = defaultL := beq_eq_false_iff_ne.1 t5.symm
  (repeat((conv=>whnf);first|apply ω0|apply ω1|apply ω2|refine τ3 rfl ?_|refine τ4 rfl ?_|refine ⟨rfl,?_⟩|apply τa|refine τb rfl ?_|refine ⟨⟨by kernel_rfl,by kernel_rfl⟩,?_⟩|refine ⟨by decide,?_⟩|apply τt|apply τf))
  intro c t6
  rw [Lib.toList_data, Lib.toList_data] at t6
  cases c
  rotate_left
  · have t6 : s.data.toList = x32L := beq_iff_eq.1 t6.symm
    (repeat((conv=>whnf);first|apply ω0|apply ω1|apply ω2|refine τ3 rfl ?_|refine τ4 rfl ?_|refine ⟨rfl,?_⟩|apply τa|refine τb rfl ?_|refine ⟨⟨by kernel_rfl,by kernel_rfl⟩,?_⟩|refine ⟨by decide,?_⟩|apply τt|apply τf))
    exact ret_tells rfl (le_bool (nameB_false (fun h => h.2.2.2.2.2.1 t6)).symm)
  have t6 : ¬ s.data.toList = x32L := beq_eq_false_iff_ne.1 t6.symm
  (repeat((conv=>whnf);first|apply ω0|apply ω1|apply ω2|refine τ3 rfl ?_|refine τ4 rfl ?_|refine ⟨rfl,?_⟩|apply τa|refine τb rfl ?_|refine ⟨⟨by kernel_rfl,by kernel_rfl⟩,?_⟩|refine ⟨by decide,?_⟩|apply τt|apply τf))
  refine aw_loop (fun y : Nat × Nat => mk 59 [(0, strA s), (3, int y.1)] ⟨[], [], y.2, 0⟩) (fun y => y.1 ≤ s.size ∧ ∀ j, j < y.1 → okN (s.data.toList.getD j 0).toNat = true) (fun y => s.size - y.1) ?_ ?_
  · exact ⟨(0, nx), ⟨Nat.zero_le _, fun j h => absurd h (Nat.not_lt_zero _)⟩, ele_mk rfl rfl ⟨AVle.refl _, AVle.refl _, trivial⟩⟩
  · rintro ⟨i, nx2⟩ ⟨h3, h4⟩
    dsimp only at h3 h4
    (repeat((conv=>whnf);first|apply ω0|apply ω1|apply ω2|refine τ3 rfl ?_|refine τ4 rfl ?_|refine ⟨rfl,?_⟩|apply τa|refine τb rfl ?_|refine ⟨⟨by kernel_rfl,by kernel_rfl⟩,?_⟩|refine ⟨by decide,?_⟩|apply τt|apply τf))
    intro c g; cases c
    · have g : ¬ ((i : Nat) : Int) < ((s.size : Nat) : Int) := not_of g
      obtain rfl : i = s.size := by omega
      have : nameB s.data.toList = true := (nameB_ref _).2 ⟨by omega, by omega, by omega, by omega, t5, t6, h4⟩
      rw [this]
      (repeat((conv=>whnf);first|apply ω0|apply ω1|apply ω2|refine τ3 rfl ?_|refine τ4 rfl ?_|refine ⟨rfl,?_⟩|apply τa|refine τb rfl ?_|refine ⟨⟨by kernel_rfl,by kernel_rfl⟩,?_⟩|refine ⟨by decide,?_⟩|apply τt|apply τf))
      exact ret_tells rfl (AVle.refl _)
    · have g : ((i : Nat) : Int) < ((s.size : Nat) : Int) := yes_of g
      have hbad : okN (s.data.toList.getD i 0).toNat = false → false = nameB s.data.toList := fun h => (nameB_false (fun hh => by have := hh.2.2.2.2.2.2 i (by omega); rw [h] at this; cases this)).symm
      (repeat((conv=>whnf);first|apply ω0|apply ω1|apply ω2|refine τ3 rfl ?_|refine τ4 rfl ?_|refine ⟨rfl,?_⟩|apply τa|refine τb rfl ?_|refine ⟨⟨by kernel_rfl,by kernel_rfl⟩,?_⟩|refine ⟨by decide,?_⟩|apply τt|apply τf))
      refine ⟨⟨by dsimp only; omega, by dsimp only; omega⟩, ?_⟩
      have hgood : okN (s.data.toList.getD i 0).toNat = true → ∀ j, j < i + 1 → okN (s.data.toList.getD j 0).toNat = true := fun h j hj => by
        rcases Nat.lt_or_ge j i with h1 | h1
        · exact h4 j h1
        · obtain rfl : j = i := by omega
          exact h
      have hval : (((s.data.getD i 0).toNat : Nat) : Int) = (((s.data.toList.getD i 0).toNat : Nat) : Int) := by rw [ba_get]
      generalize (s.data.toList.getD i 0).toNat = n at hbad hgood hval
      (repeat((conv=>whnf);first|apply ω0|apply ω1|apply ω2|refine τ3 rfl ?_|refine τ4 rfl ?_|refine ⟨rfl,?_⟩|apply τa|refine τb rfl ?_|refine ⟨⟨by kernel_rfl,by kernel_rfl⟩,?_⟩|refine ⟨by decide,?_⟩|apply τt|apply τf))
      intro c u1
      have u1 : c = decide ((n : Int) ≥ 97) := u1.trans (by rw [← hval]; rfl)
      cases c
      · have u1 : ¬ (n : Int) ≥ 97 := not_of u1
        (repeat((conv=>whnf);first|apply ω0|apply ω1|apply ω2|refine τ3 rfl ?_|refine τ4 rfl ?_|refine ⟨rfl,?_⟩|apply τa|refine τb rfl ?_|refine ⟨⟨by kernel_rfl,by kernel_rfl⟩,?_⟩|refine ⟨by decide,?_⟩|apply τt|apply τf))
        intro c u3
        have u3 : c = decide ((n : Int) ≥ 48) := u3.trans (by rw [← hval]; rfl)
        cases c
        · have u3 : ¬ (n : Int) ≥ 48 := not_of u3
          (repeat((conv=>whnf);first|apply ω0|apply ω1|apply ω2|refine τ3 rfl ?_|refine τ4 rfl ?_|refine ⟨rfl,?_⟩|apply τa|refine τb rfl ?_|refine ⟨⟨by kernel_rfl,by kernel_rfl⟩,?_⟩|refine ⟨by decide,?_⟩|apply τt|apply τf))
          intro c u5
          have u5 : c = ((n : Int) == 95) := u5.trans (by rw [← hval]; rfl)
          cases c
          · have u5 : (n : Int) ≠ 95 := fct_b0.1 u5
            (repeat((conv=>whnf);first|apply ω0|apply ω1|apply ω2|refine τ3 rfl ?_|refine τ4 rfl ?_|refine ⟨rfl,?_⟩|apply τa|refine τb rfl ?_|refine ⟨⟨by kernel_rfl,by kernel_rfl⟩,?_⟩|refine ⟨by decide,?_⟩|apply τt|apply τf))
            exact ret_tells rfl (le_bool (hbad (okN_out (by omega))))
          · have u5 : (n : Int) = 95 := fct_b1.1 u5
            (repeat((conv=>whnf);first|apply ω0|apply ω1|apply ω2|refine τ3 rfl ?_|refine τ4 rfl ?_|refine ⟨rfl,?_⟩|apply τa|refine τb rfl ?_|refine ⟨⟨by kernel_rfl,by kernel_rfl⟩,?_⟩|refine ⟨by decide,?_⟩|apply τt|apply τf))
            refine back (i + 1, nx2) ⟨by dsimp only; omega, hgood (okN_in (by omega))⟩ (by dsimp only; omega) (ele_mk rfl rfl ⟨AVle.refl _, le_int (wrap_succ (by dsimp only; omega)), trivial⟩)
        · have u3 : (n : Int) ≥ 48 := yes_of u3
          (repeat((conv=>whnf);first|apply ω0|apply ω1|apply ω2|refine τ3 rfl ?_|refine τ4 rfl ?_|refine ⟨rfl,?_⟩|apply τa|refine τb rfl ?_|refine ⟨⟨by kernel_rfl,by kernel_rfl⟩,?_⟩|refine ⟨by decide,?_⟩|apply τt|apply τf))
          intro c u4
          have u4 : c = decide ((n : Int) ≤ 57) := u4.trans (by rw [← hval]; rfl)
          cases c
          · have u4 : ¬ (n : Int) ≤ 57 := not_of u4
            (repeat((conv=>whnf);first|apply ω0|apply ω1|apply ω2|refine τ3 rfl ?_|refine τ4 rfl ?_|refine ⟨rfl,?_⟩|apply τa|refine τb rfl ?_|refine ⟨⟨by kernel_rfl,by kernel_rfl⟩,?_⟩|refine ⟨by decide,?_⟩|apply τt|apply τf))
            intro c u5
            have u5 : c = ((n : Int) == 95) := u5.trans (by rw [← hval]; rfl)
            cases c
            · have u5 : (n : Int) ≠ 95 := fct_b0.1 u5
              (repeat((conv=>whnf);first|apply ω0|apply ω1|apply ω2|refine τ3 rfl ?_|refine τ4 rfl ?_|refine ⟨rfl,?_⟩|apply τa|refine τb rfl ?_|refine ⟨⟨by kernel_rfl,by kernel_rfl⟩,?_⟩|refine ⟨by decide,?_⟩|apply τt|apply τf))
              exact ret_tells rfl (le_bool (hbad (okN_out (by omega))))
            · have u5 : (n : Int) = 95 := fct_b1.1 u5
              (repeat((conv=>whnf);first|apply ω0|apply ω1|apply ω2|refine τ3 rfl ?_|refine τ4 rfl ?_|refine ⟨rfl,?_⟩|apply τa|refine τb rfl ?_|refine ⟨⟨by kernel_rfl,by kernel_rfl⟩,?_⟩|refine ⟨by decide,?_⟩|apply τt|apply τf))
              refine back (i + 1, nx2) ⟨by dsimp only; omega, hgood (okN_in (by omega))⟩ (by dsimp only; omega) (ele_mk rfl rfl ⟨AVle.refl _, le_int (wrap_succ (by dsimp only; omega)), trivial⟩)
          · have u4 : (n : Int) ≤ 57 := yes_of u4
            (repeat((conv=>whnf);first|apply ω0|apply ω1|apply ω2|refine τ3 rfl ?_|refine τ4 rfl ?_|refine ⟨rfl,?_⟩|apply τa|refine τb rfl ?_|refine ⟨⟨by kernel_rfl,by kernel_rfl⟩,?_⟩|refine ⟨by decide,?_⟩|apply τt|apply τf))
            refine back (i + 1, nx2) ⟨by dsimp only; omega, hgood (okN_in (by omega))⟩ (by dsimp only; omega) (ele_mk rfl rfl ⟨AVle.refl _, le_int (wrap_succ (by dsimp only; omega)), trivial⟩)
      · have u1 : (n : Int) ≥ 97 := yes_of u1
        (repeat((conv=>whnf);first|apply ω0|apply ω1|apply ω2|refine τ3 rfl ?_|refine τ4 rfl ?_|refine ⟨rfl,?_⟩|apply τa|refine τb rfl ?_|refine ⟨⟨by kernel_rfl,by kernel_rfl⟩,?_⟩|refine ⟨by decide,?_⟩|apply τt|apply τf))
        intro c u2
        have u2 : c = decide ((n : Int) ≤ 122) := u2.trans (by rw [← hval]; rfl)
        cases c
        · have u2 : ¬ (n : Int) ≤ 122 := not_of u2
          (repeat((conv=>whnf);first|apply ω0|apply ω1|apply ω2|refine τ3 rfl ?_|refine τ4 rfl ?_|refine ⟨rfl,?_⟩|apply τa|refine τb rfl ?_|refine ⟨⟨by kernel_rfl,by kernel_rfl⟩,?_⟩|refine ⟨by decide,?_⟩|apply τt|apply τf))
          intro c u3
          have u3 : c = decide ((n : Int) ≥ 48) := u3.trans (by rw [← hval]; rfl)
          cases c
          · have u3 : ¬ (n : Int) ≥ 48 := not_of u3
            (repeat((conv=>whnf);first|apply ω0|apply ω1|apply ω2|refine τ3 rfl ?_|refine τ4 rfl ?_|refine ⟨rfl,?_⟩|apply τa|refine τb rfl ?_|refine ⟨⟨by kernel_rfl,by kernel_rfl⟩,?_⟩|refine ⟨by decide,?_⟩|apply τt|apply τf))
            intro c u5
            have u5 : c = ((n : Int) == 95) := u5.trans (by rw [← hval]; rfl)
            cases c
            · have u5 : (n : Int) ≠ 95 := fct_b0.1 u5
              (repeat((conv=>whnf);first|apply ω0|apply ω1|apply ω2|refine τ3 rfl ?_|refine τ4 rfl ?_|refine ⟨rfl,?_⟩|apply τa|refine τb rfl ?_|refine ⟨⟨by kernel_rfl,by kernel_rfl⟩,?_⟩|refine ⟨by decide,?_⟩|apply τt|apply τf))
              exact ret_tells rfl (le_bool (hbad (okN_out (by omega))))
            · have u5 : (n : Int) = 95 := fct_b1.1 u5
              (repeat((conv=>whnf);first|apply ω0|apply ω1|apply ω2|refine τ3 rfl ?_|refine τ4 rfl ?_|refine ⟨rfl,?_⟩|apply τa|refine τb rfl ?_|refine ⟨⟨by kernel_rfl,by kernel_rfl⟩,?_⟩|refine ⟨by decide,?_⟩|apply τt|apply τf))
              refine back (i + 1, nx2) ⟨by dsimp only; omega, hgood (okN_in (by omega))⟩ (by dsimp only; omega) (ele_mk rfl rfl ⟨AVle.refl _, le_int (wrap_succ (by dsimp only; omega)), trivial⟩)
          · have u3 : (n : Int) ≥ 48 := yes_of u3
            (repeat((conv=>whnf);first|apply ω0|apply ω1|apply ω2|refine τ3 rfl ?_|refine τ4 rfl ?_|refine ⟨rfl,?_⟩|apply τa|refine τb rfl ?_|refine ⟨⟨by kernel_rfl,by kernel_rfl⟩,?_⟩|refine ⟨by decide,?_⟩|apply τt|apply τf))
            intro c u4
            have u4 : c = decide ((n : Int) ≤ 57) := u4.trans (by rw [← hval]; rfl)
            cases c
            · have u4 : ¬ (n : Int) ≤ 57 := not_of u4
              (repeat((conv=>whnf);first|apply ω0|apply ω1|apply ω2|refine τ3 rfl ?_|refine τ4 rfl ?_|refine ⟨rfl,?_⟩|apply τa|refine τb rfl ?_|refine ⟨⟨by kernel_rfl,by kernel_rfl⟩,?_⟩|refine ⟨by decide,?_⟩|apply τt|apply τf))
              intro c u5
              have u5 : c = ((n : Int) == 95) := u5.trans (by rw [← hval]; rfl)
              cases c
              · have u5 : (n : Int) ≠ 95 := fct_b0.1 u5
                (repeat((conv=>whnf);first|apply ω0|apply ω1|apply ω2|refine τ3 rfl ?_|refine τ4 rfl ?_|refine ⟨rfl,?_⟩|apply τa|refine τb rfl ?_|refine ⟨⟨by kernel_rfl,by kernel_rfl⟩,?_⟩|refine ⟨by decide,?_⟩|apply τt|apply τf))
                exact ret_tells rfl (le_bool (hbad (okN_out (by omega))))
              · have u5 : (n : Int) = 95 := fct_b1.1 u5
                (repeat((conv=>whnf);first|apply ω0|apply ω1|apply ω2|refine τ3 rfl ?_|refine τ4 rfl ?_|refine ⟨rfl,?_⟩|apply τa|refine τb rfl ?_|refine ⟨⟨by kernel_rfl,by kernel_rfl⟩,?_⟩|refine ⟨by decide,?_⟩|apply τt|apply τf))
                refine back (i + 1, nx2) ⟨by dsimp only; omega, hgood (okN_in (by omega))⟩ (by dsimp only; omega) (ele_mk rfl rfl ⟨AVle.refl _, le_int (wrap_succ (by dsimp only; omega)), trivial⟩)
            · have u4 : (n : Int) ≤ 57 := yes_of u4
              (repeat((conv=>whnf);first|apply ω0|apply ω1|apply ω2|refine τ3 rfl ?_|refine τ4 rfl ?_|refine ⟨rfl,?_⟩|apply τa|refine τb rfl ?_|refine ⟨⟨by kernel_rfl,by kernel_rfl⟩,?_⟩|refine ⟨by decide,?_⟩|apply τt|apply τf))
              refine back (i + 1, nx2) ⟨by dsimp only; omega, hgood (okN_in (by omega))⟩ (by dsimp only; omega) (ele_mk rfl rfl ⟨AVle.refl _, le_int (wrap_succ (by dsimp only; omega)), trivial⟩)
        · have u2 : (n : Int) ≤ 122 := yes_of u2
          (repeat((conv=>whnf);first|apply ω0|apply ω1|apply ω2|refine τ3 rfl ?_|refine τ4 rfl ?_|refine ⟨rfl,?_⟩|apply τa|refine τb rfl ?_|refine ⟨⟨by kernel_rfl,by kernel_rfl⟩,?_⟩|refine ⟨by decide,?_⟩|apply τt|apply τf))
          refine back (i + 1, nx2) ⟨by dsimp only; omega, hgood (okN_in (by omega))⟩ (by dsimp only; omega) (ele_mk rfl rfl ⟨AVle.refl _, le_int (wrap_succ (by dsimp only; omega)), trivial⟩)
end Go.Proofs.W

namespace Go.Proofs.W
open Go.Vl
set_option maxRecDepth 100000

theorem right9_spec (k n : Int) : Tells Tryz.prog 17 [act k n] (boolA (right9 k n)) := by
  refine tells_of_aw Tryz.func17 rfl rfl fun nx => ?_
  (repeat((conv=>whnf);first|apply ω0|apply ω1|apply ω2|refine τ3 rfl ?_|refine τ4 rfl ?_|refine ⟨rfl,?_⟩|apply τa|refine τb rfl ?_|refine ⟨⟨by kernel_rfl,by kernel_rfl⟩,?_⟩|refine ⟨by decide,?_⟩|apply τt|apply τf))
  (refine aw_draw 21 ?_ ?_ ?_ ?_; (· kernel_rfl); (· kernel_rfl); (· kernel_rfl))
  (repeat((conv=>whnf);first|apply ω0|apply ω1|apply ω2|refine τ3 rfl ?_|refine τ4 rfl ?_|refine ⟨rfl,?_⟩|apply τa|refine τb rfl ?_|refine ⟨⟨by kernel_rfl,by kernel_rfl⟩,?_⟩|refine ⟨by decide,?_⟩|apply τt|apply τf))
  intro c h1; cases c
  · (repeat((conv=>whnf);first|apply ω0|apply ω1|apply ω2|refine τ3 rfl ?_|refine τ4 rfl ?_|refine ⟨rfl,?_⟩|apply τa|refine τb rfl ?_|refine ⟨⟨by kernel_rfl,by kernel_rfl⟩,?_⟩|refine ⟨by decide,?_⟩|apply τt|apply τf))
    refine ret_tells rfl (le_bool ?_)
    simp at h1; simp [right9]; omega
  (repeat((conv=>whnf);first|apply ω0|apply ω1|apply ω2|refine τ3 rfl ?_|refine τ4 rfl ?_|refine ⟨rfl,?_⟩|apply τa|refine τb rfl ?_|refine ⟨⟨by kernel_rfl,by kernel_rfl⟩,?_⟩|refine ⟨by decide,?_⟩|apply τt|apply τf))
  intro c h2; cases c
  · (repeat((conv=>whnf);first|apply ω0|apply ω1|apply ω2|refine τ3 rfl ?_|refine τ4 rfl ?_|refine ⟨rfl,?_⟩|apply τa|refine τb rfl ?_|refine ⟨⟨by kernel_rfl,by kernel_rfl⟩,?_⟩|refine ⟨by decide,?_⟩|apply τt|apply τf))
    refine ret_tells rfl (le_bool ?_)
    simp at h1 h2; simp [right9]; omega
  (repeat((conv=>whnf);first|apply ω0|apply ω1|apply ω2|refine τ3 rfl ?_|refine τ4 rfl ?_|refine ⟨rfl,?_⟩|apply τa|refine τb rfl ?_|refine ⟨⟨by kernel_rfl,by kernel_rfl⟩,?_⟩|refine ⟨by decide,?_⟩|apply τt|apply τf))
  intro c h3; cases c
  · (repeat((conv=>whnf);first|apply ω0|apply ω1|apply ω2|refine τ3 rfl ?_|refine τ4 rfl ?_|refine ⟨rfl,?_⟩|apply τa|refine τb rfl ?_|refine ⟨⟨by kernel_rfl,by kernel_rfl⟩,?_⟩|refine ⟨by decide,?_⟩|apply τt|apply τf))
    refine ret_tells rfl (le_bool ?_)
    simp at h1 h2 h3; simp [right9]; omega
  (repeat((conv=>whnf);first|apply ω0|apply ω1|apply ω2|refine τ3 rfl ?_|refine τ4 rfl ?_|refine ⟨rfl,?_⟩|apply τa|refine τb rfl ?_|refine ⟨⟨by kernel_rfl,by kernel_rfl⟩,?_⟩|refine ⟨by decide,?_⟩|apply τt|apply τf))
  refine ex_yields (yields_tells rfl rfl (most9_spec k) ⟨AVle.refl _, trivial⟩ (NoId.v _)) ?_
  intro c h4; cases c
  · (repeat((conv=>whnf);first|apply ω0|apply ω1|apply ω2|refine τ3 rfl ?_|refine τ4 rfl ?_|refine ⟨rfl,?_⟩|apply τa|refine τb rfl ?_|refine ⟨⟨by kernel_rfl,by kernel_rfl⟩,?_⟩|refine ⟨by decide,?_⟩|apply τt|apply τf))
    refine ret_tells rfl (le_bool ?_)
    simp at h1 h2 h3 h4; simp [right9]; omega
  (repeat((conv=>whnf);first|apply ω0|apply ω1|apply ω2|refine τ3 rfl ?_|refine τ4 rfl ?_|refine ⟨rfl,?_⟩|apply τa|refine τb rfl ?_|refine ⟨⟨by kernel_rfl,by kernel_rfl⟩,?_⟩|refine ⟨by decide,?_⟩|apply τt|apply τf))
  refine ret_tells rfl (le_bool ?_)
  simp at h1 h2 h3 h4; simp [right9]; omega
theorem name14_spec (s : ByteArray) : Tells Tryz.prog 45 [strA s] (boolA (nameB s.data.toList)) := by
  have h := name11_spec s
  generalize nameB s.data.toList = b at h ⊢
  refine tells_of_aw Tryz.func45 rfl rfl fun nx => ?_
  (repeat((conv=>whnf);first|apply ω0|apply ω1|apply ω2|refine τ3 rfl ?_|refine τ4 rfl ?_|refine ⟨rfl,?_⟩|apply τa|refine τb rfl ?_|refine ⟨⟨by kernel_rfl,by kernel_rfl⟩,?_⟩|refine ⟨by decide,?_⟩|apply τt|apply τf))
  refine aop_tells rfl rfl h ⟨AVle.refl _, trivial⟩ fun nx1 => ?_
  intro c hc
  (repeat((conv=>whnf);first|apply ω0|apply ω1|apply ω2|refine τ3 rfl ?_|refine τ4 rfl ?_|refine ⟨rfl,?_⟩|apply τa|refine τb rfl ?_|refine ⟨⟨by kernel_rfl,by kernel_rfl⟩,?_⟩|refine ⟨by decide,?_⟩|apply τt|apply τf))
  exact ret_tells rfl (le_bool hc)
theorem any_first {l : List Rul} {i : Nat} (hi : i < l.length) (h : rightR (l.getD i rul0) = false) : (l.any fun r => !rightR r) = true := by
  rw [List.any_eq_true]
  exact ⟨l.getD i rul0, by simp [List.getD, hi], by rw [h]; rfl⟩
theorem any_none {l : List Rul} (h : ∀ j, j < l.length → rightR (l.getD j rul0) = true) : (l.any fun r => !rightR r) = false := by
  rw [List.any_eq_false]
  intro r hr
  obtain ⟨j, hj, rfl⟩ := List.getElem_of_mem hr
  have := h j hj
  rw [List.getD_eq_getElem?_getD, List.getElem?_eq_getElem hj] at this
  simp at this
  simp [this]
theorem anyC_first {l : List Cnd} {i : Nat} (hi : i < l.length) (h : rightC (l.getD i cnd0) = false) : (l.any fun c => !rightC c) = true := by
  rw [List.any_eq_true]
  exact ⟨l.getD i cnd0, by simp [List.getD, hi], by rw [h]; rfl⟩
theorem anyC_none {l : List Cnd} (h : ∀ j, j < l.length → rightC (l.getD j cnd0) = true) : (l.any fun c => !rightC c) = false := by
  rw [List.any_eq_false]
  intro r hr
  obtain ⟨j, hj, rfl⟩ := List.getElem_of_mem hr
  have := h j hj
  rw [List.getD_eq_getElem?_getD, List.getElem?_eq_getElem hj] at this
  simp at this
  simp [this]
set_option maxHeartbeats 2000000 in
theorem right14_spec (p : Pol) : Tells Tryz.prog 21 [polA p] (boolA (rightP p)) := by
  have hd := right9_spec p.dflt.1 p.dflt.2
  have hP : rightP p = (right9 p.dflt.1 p.dflt.2 && (decide (p.rules.length ≤ 500) && !(p.rules.any fun r => !rightR r))) := rfl
  generalize rightP p = R at hP ⊢
  generalize right9 p.dflt.1 p.dflt.2 = b0 at hd hP
  obtain ⟨⟨k, n⟩, x, rs⟩ := p
  dsimp only at hP hd
  refine tells_of_aw Tryz.func21 rfl rfl fun nx => ?_
  (repeat((conv=>whnf);first|apply ω0|apply ω1|apply ω2|refine τ3 rfl ?_|refine τ4 rfl ?_|refine ⟨rfl,?_⟩|apply τa|refine τb rfl ?_|refine ⟨⟨by kernel_rfl,by kernel_rfl⟩,?_⟩|refine ⟨by decide,?_⟩|apply τt|apply τf))
  refine aop_tells rfl rfl hd ⟨AVle.refl _, trivial⟩ fun nx1 => ?_
  cases b0
  · (repeat((conv=>whnf);first|apply ω0|apply ω1|apply ω2|refine τ3 rfl ?_|refine τ4 rfl ?_|refine ⟨rfl,?_⟩|apply τa|refine τb rfl ?_|refine ⟨⟨by kernel_rfl,by kernel_rfl⟩,?_⟩|refine ⟨by decide,?_⟩|apply τt|apply τf))
    exact ret_tells rfl (le_bool (by rw [hP]; rfl))
  (repeat((conv=>whnf);first|apply ω0|apply ω1|apply ω2|refine τ3 rfl ?_|refine τ4 rfl ?_|refine ⟨rfl,?_⟩|apply τa|refine τb rfl ?_|refine ⟨⟨by kernel_rfl,by kernel_rfl⟩,?_⟩|refine ⟨by decide,?_⟩|apply τt|apply τf))
  intro c g1; cases c
  rotate_left
  · have g1 : ((rs.length : Nat) : Int) > 500 := yes_of g1
    (repeat((conv=>whnf);first|apply ω0|apply ω1|apply ω2|refine τ3 rfl ?_|refine τ4 rfl ?_|refine ⟨rfl,?_⟩|apply τa|refine τb rfl ?_|refine ⟨⟨by kernel_rfl,by kernel_rfl⟩,?_⟩|refine ⟨by decide,?_⟩|apply τt|apply τf))
    exact ret_tells rfl (le_bool (by rw [hP, decide_eq_false (by omega)]; rfl))
  have g1 : ¬ ((rs.length : Nat) : Int) > 500 := not_of g1
  have h500 : rs.length ≤ 500 := by omega
  rw [decide_eq_true h500, Bool.true_and, Bool.true_and] at hP
  (repeat((conv=>whnf);first|apply ω0|apply ω1|apply ω2|refine τ3 rfl ?_|refine τ4 rfl ?_|refine ⟨rfl,?_⟩|apply τa|refine τb rfl ?_|refine ⟨⟨by kernel_rfl,by kernel_rfl⟩,?_⟩|refine ⟨by decide,?_⟩|apply τt|apply τf))
  refine aw_loop (fun s : Nat × Nat => mk 58 [(1, .bp (0, nx) 0), (3, int s.1)] ⟨[((0, nx), .c [int k, int n, boolA x, ruls rs])], [], s.2, 1⟩) (fun s => s.1 ≤ rs.length ∧ ∀ j, j < s.1 → rightR (rs.getD j rul0) = true) (fun s => rs.length - s.1) ?_ ?_
  · exact ⟨(0, nx1), ⟨Nat.zero_le _, fun j h => absurd h (Nat.not_lt_zero _)⟩, ele_tell (pm := []) _ [] rfl rfl (List.Sublist.refl _) (List.Sublist.refl _) ⟨rfl, OwnLe.refl _, trivial⟩ trivial ⟨AVle.refl _, AVle.refl _, trivial⟩⟩
  · rintro ⟨i, nx2⟩ ⟨h3, h4⟩
    dsimp only at h3 h4
    (repeat((conv=>whnf);first|apply ω0|apply ω1|apply ω2|refine τ3 rfl ?_|refine τ4 rfl ?_|refine ⟨rfl,?_⟩|apply τa|refine τb rfl ?_|refine ⟨⟨by kernel_rfl,by kernel_rfl⟩,?_⟩|refine ⟨by decide,?_⟩|apply τt|apply τf))
    intro c h5; cases c
    · have h6 : ¬ ((i : Nat) : Int) < ((rs.length : Nat) : Int) := not_of h5
      obtain rfl : i = rs.length := by omega
      (repeat((conv=>whnf);first|apply ω0|apply ω1|apply ω2|refine τ3 rfl ?_|refine τ4 rfl ?_|refine ⟨rfl,?_⟩|apply τa|refine τb rfl ?_|refine ⟨⟨by kernel_rfl,by kernel_rfl⟩,?_⟩|refine ⟨by decide,?_⟩|apply τt|apply τf))
      exact ret_tells rfl (le_bool (by rw [hP, any_none h4]; rfl))
    · have h6 : ((i : Nat) : Int) < ((rs.length : Nat) : Int) := yes_of h5
      have hi : i < rs.length := by omega
      have hbad : rightR (rs.getD i rul0) = false → false = R := fun h => by rw [hP, any_first hi h]; rfl
      have hR : rightR (rs.getD i rul0) = (nameB (rs.getD i rul0).name.data.toList && (right9 (rs.getD i rul0).act.1 (rs.getD i rul0).act.2 && (decide ((rs.getD i rul0).conds.length ≤ 6) && !((rs.getD i rul0).conds.any fun c => !rightC c)))) := rfl
      have hn := name14_spec (rs.getD i rul0).name
      have ha := right9_spec (rs.getD i rul0).act.1 (rs.getD i rul0).act.2
      generalize nameB (rs.getD i rul0).name.data.toList = b1 at hn hR
      generalize right9 (rs.getD i rul0).act.1 (rs.getD i rul0).act.2 = b2 at ha hR
      (repeat((conv=>whnf);first|apply ω0|apply ω1|apply ω2|refine τ3 rfl ?_|refine τ4 rfl ?_|refine ⟨rfl,?_⟩|apply τa|refine τb rfl ?_|refine ⟨⟨by kernel_rfl,by kernel_rfl⟩,?_⟩|refine ⟨by decide,?_⟩|apply τt|apply τf))
      refine ⟨⟨by dsimp only; omega, by dsimp only; omega⟩, ?_⟩
      (repeat((conv=>whnf);first|apply ω0|apply ω1|apply ω2|refine τ3 rfl ?_|refine τ4 rfl ?_|refine ⟨rfl,?_⟩|apply τa|refine τb rfl ?_|refine ⟨⟨by kernel_rfl,by kernel_rfl⟩,?_⟩|refine ⟨by decide,?_⟩|apply τt|apply τf))
      refine aop_tells rfl rfl hn ⟨AVle.refl _, trivial⟩ fun nx3 => ?_
      cases b1
      · (repeat((conv=>whnf);first|apply ω0|apply ω1|apply ω2|refine τ3 rfl ?_|refine τ4 rfl ?_|refine ⟨rfl,?_⟩|apply τa|refine τb rfl ?_|refine ⟨⟨by kernel_rfl,by kernel_rfl⟩,?_⟩|refine ⟨by decide,?_⟩|apply τt|apply τf))
        exact ret_tells rfl (le_bool (hbad (by rw [hR]; rfl)))
      (repeat((conv=>whnf);first|apply ω0|apply ω1|apply ω2|refine τ3 rfl ?_|refine τ4 rfl ?_|refine ⟨rfl,?_⟩|apply τa|refine τb rfl ?_|refine ⟨⟨by kernel_rfl,by kernel_rfl⟩,?_⟩|refine ⟨by decide,?_⟩|apply τt|apply τf))
      refine aop_tells rfl rfl ha ⟨AVle.refl _, trivial⟩ fun nx4 => ?_
      cases b2
      · (repeat((conv=>whnf);first|apply ω0|apply ω1|apply ω2|refine τ3 rfl ?_|refine τ4 rfl ?_|refine ⟨rfl,?_⟩|apply τa|refine τb rfl ?_|refine ⟨⟨by kernel_rfl,by kernel_rfl⟩,?_⟩|refine ⟨by decide,?_⟩|apply τt|apply τf))
        exact ret_tells rfl (le_bool (hbad (by rw [hR]; rfl)))
      (repeat((conv=>whnf);first|apply ω0|apply ω1|apply ω2|refine τ3 rfl ?_|refine τ4 rfl ?_|refine ⟨rfl,?_⟩|apply τa|refine τb rfl ?_|refine ⟨⟨by kernel_rfl,by kernel_rfl⟩,?_⟩|refine ⟨by decide,?_⟩|apply τt|apply τf))
      intro c g2; cases c
      rotate_left
      · have g2 : (((rs.getD i rul0).conds.length : Nat) : Int) > 6 := yes_of g2
        (repeat((conv=>whnf);first|apply ω0|apply ω1|apply ω2|refine τ3 rfl ?_|refine τ4 rfl ?_|refine ⟨rfl,?_⟩|apply τa|refine τb rfl ?_|refine ⟨⟨by kernel_rfl,by kernel_rfl⟩,?_⟩|refine ⟨by decide,?_⟩|apply τt|apply τf))
        exact ret_tells rfl (le_bool (hbad (by rw [hR, decide_eq_false (by omega)]; rfl)))
      have g2 : ¬ (((rs.getD i rul0).conds.length : Nat) : Int) > 6 := not_of g2
      rw [decide_eq_true (show (rs.getD i rul0).conds.length ≤ 6 by omega), Bool.true_and, Bool.true_and, Bool.true_and] at hR
      (repeat((conv=>whnf);first|apply ω0|apply ω1|apply ω2|refine τ3 rfl ?_|refine τ4 rfl ?_|refine ⟨rfl,?_⟩|apply τa|refine τb rfl ?_|refine ⟨⟨by kernel_rfl,by kernel_rfl⟩,?_⟩|refine ⟨by decide,?_⟩|apply τt|apply τf))
      refine aw_loop (fun s : Nat × Nat => mk 58 [(1, .bp (0, nx) 0), (3, int i), (4, .bp (1, nx2) 0), (5, int s.1)] ⟨[((1, nx2), .c [strA (rs.getD i rul0).name, int (rs.getD i rul0).act.1, int (rs.getD i rul0).act.2, cnds (rs.getD i rul0).conds]), ((0, nx), .c [int k, int n, boolA x, ruls rs])], [], s.2, 2⟩) (fun s => s.1 ≤ (rs.getD i rul0).conds.length ∧ ∀ j, j < s.1 → rightC ((rs.getD i rul0).conds.getD j cnd0) = true) (fun s => (rs.getD i rul0).conds.length - s.1) ?_ ?_
      · exact ⟨(0, nx4), ⟨Nat.zero_le _, fun j h => absurd h (Nat.not_lt_zero _)⟩, ele_tell (pm := []) _ [] rfl rfl (List.Sublist.refl _) (List.Sublist.refl _) ⟨rfl, OwnLe.refl _, rfl, OwnLe.refl _, trivial⟩ trivial ⟨AVle.refl _, AVle.refl _, AVle.refl _, AVle.refl _, trivial⟩⟩
      · rintro ⟨j, nx5⟩ ⟨h7, h8⟩
        dsimp only at h7 h8
        (repeat((conv=>whnf);first|apply ω0|apply ω1|apply ω2|refine τ3 rfl ?_|refine τ4 rfl ?_|refine ⟨rfl,?_⟩|apply τa|refine τb rfl ?_|refine ⟨⟨by kernel_rfl,by kernel_rfl⟩,?_⟩|refine ⟨by decide,?_⟩|apply τt|apply τf))
        intro c h9; cases c
        · have h9 : ¬ ((j : Nat) : Int) < (((rs.getD i rul0).conds.length : Nat) : Int) := not_of h9
          have hj : j = (rs.getD i rul0).conds.length := by omega
          have hgood : rightR (rs.getD i rul0) = true := by rw [hR, anyC_none (fun q hq => h8 q (by omega))]; rfl
          (repeat((conv=>whnf);first|apply ω0|apply ω1|apply ω2|refine τ3 rfl ?_|refine τ4 rfl ?_|refine ⟨rfl,?_⟩|apply τa|refine τb rfl ?_|refine ⟨⟨by kernel_rfl,by kernel_rfl⟩,?_⟩|refine ⟨by decide,?_⟩|apply τt|apply τf))
          refine back (i + 1, nx5) ⟨by first | omega | (dsimp only; omega), fun q hq => ?_⟩ (by dsimp only; omega) (ele_tell (pm := []) _ [] rfl rfl (.cons _ (List.Sublist.refl _)) (List.Sublist.refl _) ⟨rfl, OwnLe.refl _, trivial⟩ trivial ⟨AVle.refl _, le_int (wrap_succ (by first | omega | (dsimp only; omega))), trivial⟩)
          dsimp only at hq
          rcases Nat.lt_or_ge q i with h | h
          · exact h4 q h
          · obtain rfl : q = i := by omega
            exact hgood
        · have h9 : ((j : Nat) : Int) < (((rs.getD i rul0).conds.length : Nat) : Int) := yes_of h9
          have hj : j < (rs.getD i rul0).conds.length := by omega
          have hbc : rightC ((rs.getD i rul0).conds.getD j cnd0) = false → false = R := fun h => hbad (by rw [hR, anyC_first hj h]; rfl)
          have hgc : rightC ((rs.getD i rul0).conds.getD j cnd0) = true → ∀ q, q < j + 1 → rightC ((rs.getD i rul0).conds.getD q cnd0) = true := fun h q hq => by
            rcases Nat.lt_or_ge q j with h1 | h1
            · exact h8 q h1
            · obtain rfl : q = j := by omega
              exact h
          have hc := right10_spec ((rs.getD i rul0).conds.getD j cnd0)
          generalize rightC ((rs.getD i rul0).conds.getD j cnd0) = b3 at hc hbc hgc
          (repeat((conv=>whnf);first|apply ω0|apply ω1|apply ω2|refine τ3 rfl ?_|refine τ4 rfl ?_|refine ⟨rfl,?_⟩|apply τa|refine τb rfl ?_|refine ⟨⟨by kernel_rfl,by kernel_rfl⟩,?_⟩|refine ⟨by decide,?_⟩|apply τt|apply τf))
          refine ⟨⟨by dsimp only; omega, by dsimp only; omega⟩, ?_⟩
          (repeat((conv=>whnf);first|apply ω0|apply ω1|apply ω2|refine τ3 rfl ?_|refine τ4 rfl ?_|refine ⟨rfl,?_⟩|apply τa|refine τb rfl ?_|refine ⟨⟨by kernel_rfl,by kernel_rfl⟩,?_⟩|refine ⟨by decide,?_⟩|apply τt|apply τf))
          refine aop_tells rfl rfl hc ⟨AVle.refl _, trivial⟩ fun nx6 => ?_
          cases b3
          · (repeat((conv=>whnf);first|apply ω0|apply ω1|apply ω2|refine τ3 rfl ?_|refine τ4 rfl ?_|refine ⟨rfl,?_⟩|apply τa|refine τb rfl ?_|refine ⟨⟨by kernel_rfl,by kernel_rfl⟩,?_⟩|refine ⟨by decide,?_⟩|apply τt|apply τf))
            exact ret_tells rfl (le_bool (hbc rfl))
          · (repeat((conv=>whnf);first|apply ω0|apply ω1|apply ω2|refine τ3 rfl ?_|refine τ4 rfl ?_|refine ⟨rfl,?_⟩|apply τa|refine τb rfl ?_|refine ⟨⟨by kernel_rfl,by kernel_rfl⟩,?_⟩|refine ⟨by decide,?_⟩|apply τt|apply τf))
            exact back (j + 1, nx6) ⟨by dsimp only; omega, hgc rfl⟩ (by dsimp only; omega) (ele_tell (pm := []) _ [] rfl rfl (List.Sublist.refl _) (List.Sublist.refl _) ⟨rfl, OwnLe.refl _, rfl, OwnLe.refl _, trivial⟩ trivial ⟨AVle.refl _, AVle.refl _, AVle.refl _, le_int (wrap_succ (by dsimp only; omega)), trivial⟩)
end Go.Proofs.W

namespace Go.Proofs.W
open Go.Vl
set_option maxRecDepth 100000

theorem ref16_same {arg op : Int} {mask value : Nat} (h : op = 1 ∨ op = 2) : Tells Tryz.prog 55 [cndA ⟨arg, op, mask, value⟩] (.tup [cndA ⟨arg, op, mask, value⟩, int 0]) := by
  rcases h with rfl | rfl
  · refine tells_of_aw Tryz.func55 rfl rfl fun nx => ?_
    (repeat((conv=>whnf);first|apply ω0|apply ω1|apply ω2|refine τ3 rfl ?_|refine τ4 rfl ?_|refine ⟨rfl,?_⟩|apply τa|refine τb rfl ?_|refine ⟨⟨by kernel_rfl,by kernel_rfl⟩,?_⟩|refine ⟨by decide,?_⟩|apply τt|apply τf))
    exact ret_tells_all rfl ⟨rfl, trivial⟩ (AVle.refl _)
  · refine tells_of_aw Tryz.func55 rfl rfl fun nx => ?_
    (repeat((conv=>whnf);first|apply ω0|apply ω1|apply ω2|refine τ3 rfl ?_|refine τ4 rfl ?_|refine ⟨rfl,?_⟩|apply τa|refine τb rfl ?_|refine ⟨⟨by kernel_rfl,by kernel_rfl⟩,?_⟩|refine ⟨by decide,?_⟩|apply τt|apply τf))
    exact ret_tells_all rfl ⟨rfl, trivial⟩ (AVle.refl _)
theorem ref16_3 {arg : Int} {mask value : Nat} : Tells Tryz.prog 55 [cndA ⟨arg, 3, mask, value⟩] (.tup [cndA (refC ⟨arg, 3, mask, value⟩).1, int (refC ⟨arg, 3, mask, value⟩).2]) := by
  refine tells_of_aw Tryz.func55 rfl rfl fun nx => ?_
  (repeat((conv=>whnf);first|apply ω0|apply ω1|apply ω2|refine τ3 rfl ?_|refine τ4 rfl ?_|refine ⟨rfl,?_⟩|apply τa|refine τb rfl ?_|refine ⟨⟨by kernel_rfl,by kernel_rfl⟩,?_⟩|refine ⟨by decide,?_⟩|apply τt|apply τf))
  intro c h1; cases c
  · (repeat((conv=>whnf);first|apply ω0|apply ω1|apply ω2|refine τ3 rfl ?_|refine τ4 rfl ?_|refine ⟨rfl,?_⟩|apply τa|refine τb rfl ?_|refine ⟨⟨by kernel_rfl,by kernel_rfl⟩,?_⟩|refine ⟨by decide,?_⟩|apply τt|apply τf))
    intro c h2; cases c
    · (repeat((conv=>whnf);first|apply ω0|apply ω1|apply ω2|refine τ3 rfl ?_|refine τ4 rfl ?_|refine ⟨rfl,?_⟩|apply τa|refine τb rfl ?_|refine ⟨⟨by kernel_rfl,by kernel_rfl⟩,?_⟩|refine ⟨by decide,?_⟩|apply τt|apply τf))
      (try simp only [fct_b0, fct_b1, fct_d0, fct_d1, fct_n0, fct_n1] at *)
      have e0 : ¬ value = 0 := by omega
      have e1 : ¬ value = 1 := by omega
      rw [show refC ⟨arg, 3, mask, value⟩ = (⟨arg, 3, mask, value⟩, 0) by simp [refC, e0, e1]]
      exact ret_tells_all rfl ⟨rfl, trivial⟩ (AVle.refl _)
    · (repeat((conv=>whnf);first|apply ω0|apply ω1|apply ω2|refine τ3 rfl ?_|refine τ4 rfl ?_|refine ⟨rfl,?_⟩|apply τa|refine τb rfl ?_|refine ⟨⟨by kernel_rfl,by kernel_rfl⟩,?_⟩|refine ⟨by decide,?_⟩|apply τt|apply τf))
      (try simp only [fct_b0, fct_b1, fct_d0, fct_d1, fct_n0, fct_n1] at *)
      have e1 : value = 1 := by omega
      rw [show refC ⟨arg, 3, mask, value⟩ = (⟨arg, 1, mask, 0⟩, 0) by simp [refC, e1]]
      exact ret_tells_all rfl ⟨rfl, trivial⟩ (AVle.refl _)
  · (repeat((conv=>whnf);first|apply ω0|apply ω1|apply ω2|refine τ3 rfl ?_|refine τ4 rfl ?_|refine ⟨rfl,?_⟩|apply τa|refine τb rfl ?_|refine ⟨⟨by kernel_rfl,by kernel_rfl⟩,?_⟩|refine ⟨by decide,?_⟩|apply τt|apply τf))
    (try simp only [fct_b0, fct_b1, fct_d0, fct_d1, fct_n0, fct_n1] at *)
    have e0 : value = 0 := by omega
    rw [show refC ⟨arg, 3, mask, value⟩ = (cnd0, 2) by simp [refC, e0]]
    exact ret_tells_all rfl ⟨rfl, trivial⟩ (AVle.refl _)
theorem ref16_6 {arg : Int} {mask value : Nat} : Tells Tryz.prog 55 [cndA ⟨arg, 6, mask, value⟩] (.tup [cndA (refC ⟨arg, 6, mask, value⟩).1, int (refC ⟨arg, 6, mask, value⟩).2]) := by
  refine tells_of_aw Tryz.func55 rfl rfl fun nx => ?_
  (repeat((conv=>whnf);first|apply ω0|apply ω1|apply ω2|refine τ3 rfl ?_|refine τ4 rfl ?_|refine ⟨rfl,?_⟩|apply τa|refine τb rfl ?_|refine ⟨⟨by kernel_rfl,by kernel_rfl⟩,?_⟩|refine ⟨by decide,?_⟩|apply τt|apply τf))
  intro c h1; cases c
  · (repeat((conv=>whnf);first|apply ω0|apply ω1|apply ω2|refine τ3 rfl ?_|refine τ4 rfl ?_|refine ⟨rfl,?_⟩|apply τa|refine τb rfl ?_|refine ⟨⟨by kernel_rfl,by kernel_rfl⟩,?_⟩|refine ⟨by decide,?_⟩|apply τt|apply τf))
    intro c h2; cases c
    · (repeat((conv=>whnf);first|apply ω0|apply ω1|apply ω2|refine τ3 rfl ?_|refine τ4 rfl ?_|refine ⟨rfl,?_⟩|apply τa|refine τb rfl ?_|refine ⟨⟨by kernel_rfl,by kernel_rfl⟩,?_⟩|refine ⟨by decide,?_⟩|apply τt|apply τf))
      (try simp only [fct_b0, fct_b1, fct_d0, fct_d1, fct_n0, fct_n1] at *)
      have e0 : ¬ value = 0 := by omega
      have e1 : ¬ value = 18446744073709551615 := by omega
      rw [show refC ⟨arg, 6, mask, value⟩ = (⟨arg, 6, mask, value⟩, 0) by simp [refC, e0, e1]]
      exact ret_tells_all rfl ⟨rfl, trivial⟩ (AVle.refl _)
    · (repeat((conv=>whnf);first|apply ω0|apply ω1|apply ω2|refine τ3 rfl ?_|refine τ4 rfl ?_|refine ⟨rfl,?_⟩|apply τa|refine τb rfl ?_|refine ⟨⟨by kernel_rfl,by kernel_rfl⟩,?_⟩|refine ⟨by decide,?_⟩|apply τt|apply τf))
      (try simp only [fct_b0, fct_b1, fct_d0, fct_d1, fct_n0, fct_n1] at *)
      have e1 : value = 18446744073709551615 := by omega
      rw [show refC ⟨arg, 6, mask, value⟩ = (⟨arg, 1, mask, value⟩, 0) by simp [refC, e1]]
      exact ret_tells_all rfl ⟨rfl, trivial⟩ (AVle.refl _)
  · (repeat((conv=>whnf);first|apply ω0|apply ω1|apply ω2|refine τ3 rfl ?_|refine τ4 rfl ?_|refine ⟨rfl,?_⟩|apply τa|refine τb rfl ?_|refine ⟨⟨by kernel_rfl,by kernel_rfl⟩,?_⟩|refine ⟨by decide,?_⟩|apply τt|apply τf))
    (try simp only [fct_b0, fct_b1, fct_d0, fct_d1, fct_n0, fct_n1] at *)
    have e0 : value = 0 := by omega
    rw [show refC ⟨arg, 6, mask, value⟩ = (cnd0, 1) by simp [refC, e0]]
    exact ret_tells_all rfl ⟨rfl, trivial⟩ (AVle.refl _)
theorem refC3a {arg : Int} {mask v : Nat} (e0 : ¬ v = 0) (e1 : ¬ v = 1) : refC ⟨arg, 3, mask, v⟩ = (⟨arg, 3, mask, v⟩, 0) := by simp [refC, e0, e1]
theorem refC3b {arg : Int} {mask v : Nat} (e1 : v = 1) : refC ⟨arg, 3, mask, v⟩ = (⟨arg, 1, mask, 0⟩, 0) := by simp [refC, e1]
theorem refC6a {arg : Int} {mask v : Nat} (e0 : ¬ v = 0) (e1 : ¬ v = 18446744073709551615) : refC ⟨arg, 6, mask, v⟩ = (⟨arg, 6, mask, v⟩, 0) := by simp [refC, e0, e1]
theorem refC6b {arg : Int} {mask v : Nat} (e1 : v = 18446744073709551615) : refC ⟨arg, 6, mask, v⟩ = (⟨arg, 1, mask, v⟩, 0) := by simp [refC, e1]
theorem refC4 {arg : Int} {mask value : Nat} (h : ¬ value = 18446744073709551615) : refC ⟨arg, 4, mask, value⟩ = refC ⟨arg, 3, mask, value + 1⟩ := by
  have h1 : ¬ ((4 : Int) = 4 ∧ value = 18446744073709551615) := fun hh => h hh.2
  have h2 : ¬ ((4 : Int) = 5 ∧ value = 18446744073709551615) := fun hh => h hh.2
  conv => lhs; unfold refC
  dsimp only
  rw [if_neg h1, if_neg h2]
  rfl
theorem refC5 {arg : Int} {mask value : Nat} (h : ¬ value = 18446744073709551615) : refC ⟨arg, 5, mask, value⟩ = refC ⟨arg, 6, mask, value + 1⟩ := by
  have h1 : ¬ ((5 : Int) = 4 ∧ value = 18446744073709551615) := fun hh => h hh.2
  have h2 : ¬ ((5 : Int) = 5 ∧ value = 18446744073709551615) := fun hh => h hh.2
  conv => lhs; unfold refC
  dsimp only
  rw [if_neg h1, if_neg h2]
  rfl
set_option maxHeartbeats 1000000 in
theorem ref16_4 {arg : Int} {mask value : Nat} (o2 : value < 18446744073709551616) (q : Cnd × Nat) (hq : q = refC ⟨arg, 4, mask, value⟩) : Tells Tryz.prog 55 [cndA ⟨arg, 4, mask, value⟩] (.tup [cndA q.1, int q.2]) := by
  refine tells_of_aw Tryz.func55 rfl rfl fun nx => ?_
  (repeat((conv=>whnf);first|apply ω0|apply ω1|apply ω2|refine τ3 rfl ?_|refine τ4 rfl ?_|refine ⟨rfl,?_⟩|apply τa|refine τb rfl ?_|refine ⟨⟨by kernel_rfl,by kernel_rfl⟩,?_⟩|refine ⟨by decide,?_⟩|apply τt|apply τf))
  intro c h1; cases c
  · (try simp only [fct_b0, fct_b1, fct_d0, fct_d1, fct_n0, fct_n1] at *)
    have e9 : ¬ value = 18446744073709551615 := by omega
    have e8 : ¬ value + 1 = 0 := by omega
    have hw := u64_succ o2 e9
    obtain ⟨v, hv⟩ : ∃ v : Nat, v = value + 1 := ⟨_, rfl⟩
    rw [← hv] at hw
    have hc4 : refC ⟨arg, 4, mask, value⟩ = refC ⟨arg, 3, mask, v⟩ := by rw [refC4 e9, hv]
    ((repeat((conv=>whnf);first|apply ω0|apply ω2|refine τ3 rfl ?_|refine τ4 rfl ?_|refine ⟨rfl,?_⟩|apply τa|refine τb rfl ?_|refine ⟨⟨by kernel_rfl,by kernel_rfl⟩,?_⟩|refine ⟨by decide,?_⟩|apply τt|apply τf)); refine aw_region ?_; (repeat((conv=>whnf);first|apply ω0|apply ω2|refine τ3 rfl ?_|refine τ4 rfl ?_|refine ⟨rfl,?_⟩|apply τa|refine τb rfl ?_|refine ⟨⟨by kernel_rfl,by kernel_rfl⟩,?_⟩|refine ⟨by decide,?_⟩|apply τt|apply τf)); refine aw_region ?_; (repeat((conv=>whnf);first|apply ω0|apply ω2|refine τ3 rfl ?_|refine τ4 rfl ?_|refine ⟨rfl,?_⟩|apply τa|refine τb rfl ?_|refine ⟨⟨by kernel_rfl,by kernel_rfl⟩,?_⟩|refine ⟨by decide,?_⟩|apply τt|apply τf)); refine aw_region ?_; (repeat((conv=>whnf);first|apply ω0|apply ω2|refine τ3 rfl ?_|refine τ4 rfl ?_|refine ⟨rfl,?_⟩|apply τa|refine τb rfl ?_|refine ⟨⟨by kernel_rfl,by kernel_rfl⟩,?_⟩|refine ⟨by decide,?_⟩|apply τt|apply τf)))
    refine AW.le (ele_tell (n := 115) (nn := 3) (L := [(1, .bp (0, nx) 0), (2, .bp (1, nx + 1) 0), (3, int 0), (4, .bp (2, nx + 2) 0)]) (pm := []) (bx := [((2, nx + 2), .c [int 0, int 0, u64 0, u64 0]), ((1, nx + 1), .c [int 0, int 0, u64 0, u64 0]), ((0, nx), .c [int arg, int 3, u64 mask, u64 v])]) _ [] rfl rfl (List.Sublist.refl _) (List.Sublist.refl _) ⟨rfl, OwnLe.refl _, rfl, OwnLe.refl _, rfl, ⟨AVle.refl _, AVle.refl _, AVle.refl _, le_u64 hw, trivial⟩, trivial⟩ trivial ⟨AVle.refl _, AVle.refl _, AVle.refl _, AVle.refl _, trivial⟩) ?_
    (repeat((conv=>whnf);first|apply ω0|apply ω1|apply ω2|refine τ3 rfl ?_|refine τ4 rfl ?_|refine ⟨rfl,?_⟩|apply τa|refine τb rfl ?_|refine ⟨⟨by kernel_rfl,by kernel_rfl⟩,?_⟩|refine ⟨by decide,?_⟩|apply τt|apply τf))
    intro c hc
    obtain rfl : c = false := hc.trans (by simp; omega)
    (repeat((conv=>whnf);first|apply ω0|apply ω1|apply ω2|refine τ3 rfl ?_|refine τ4 rfl ?_|refine ⟨rfl,?_⟩|apply τa|refine τb rfl ?_|refine ⟨⟨by kernel_rfl,by kernel_rfl⟩,?_⟩|refine ⟨by decide,?_⟩|apply τt|apply τf))
    intro c hc; cases c
    · (repeat((conv=>whnf);first|apply ω0|apply ω1|apply ω2|refine τ3 rfl ?_|refine τ4 rfl ?_|refine ⟨rfl,?_⟩|apply τa|refine τb rfl ?_|refine ⟨⟨by kernel_rfl,by kernel_rfl⟩,?_⟩|refine ⟨by decide,?_⟩|apply τt|apply τf))
      (try simp only [fct_b0, fct_b1, fct_d0, fct_d1, fct_n0, fct_n1] at *)
      have e0 : ¬ v = 0 := by omega
      have e1 : ¬ v = 1 := by omega
      rw [(hq.trans hc4).trans (refC3a e0 e1)]
      exact ret_tells_all rfl ⟨rfl, trivial⟩ (AVle.refl _)
    · (repeat((conv=>whnf);first|apply ω0|apply ω1|apply ω2|refine τ3 rfl ?_|refine τ4 rfl ?_|refine ⟨rfl,?_⟩|apply τa|refine τb rfl ?_|refine ⟨⟨by kernel_rfl,by kernel_rfl⟩,?_⟩|refine ⟨by decide,?_⟩|apply τt|apply τf))
      (try simp only [fct_b0, fct_b1, fct_d0, fct_d1, fct_n0, fct_n1] at *)
      have e1 : v = 1 := by omega
      rw [(hq.trans hc4).trans (refC3b e1)]
      exact ret_tells_all rfl ⟨rfl, trivial⟩ (AVle.refl _)
  · (repeat((conv=>whnf);first|apply ω0|apply ω1|apply ω2|refine τ3 rfl ?_|refine τ4 rfl ?_|refine ⟨rfl,?_⟩|apply τa|refine τb rfl ?_|refine ⟨⟨by kernel_rfl,by kernel_rfl⟩,?_⟩|refine ⟨by decide,?_⟩|apply τt|apply τf))
    (try simp only [fct_b0, fct_b1, fct_d0, fct_d1, fct_n0, fct_n1] at *)
    have e9 : value = 18446744073709551615 := by omega
    obtain rfl : q = (cnd0, 1) := hq.trans (by simp [refC, e9])
    exact ret_tells_all rfl ⟨rfl, trivial⟩ (AVle.refl _)
set_option maxHeartbeats 1000000 in
theorem ref16_5 {arg : Int} {mask value : Nat} (o2 : value < 18446744073709551616) (q : Cnd × Nat) (hq : q = refC ⟨arg, 5, mask, value⟩) : Tells Tryz.prog 55 [cndA ⟨arg, 5, mask, value⟩] (.tup [cndA q.1, int q.2]) := by
  refine tells_of_aw Tryz.func55 rfl rfl fun nx => ?_
  (repeat((conv=>whnf);first|apply ω0|apply ω1|apply ω2|refine τ3 rfl ?_|refine τ4 rfl ?_|refine ⟨rfl,?_⟩|apply τa|refine τb rfl ?_|refine ⟨⟨by kernel_rfl,by kernel_rfl⟩,?_⟩|refine ⟨by decide,?_⟩|apply τt|apply τf))
  intro c h1; cases c
  · (try simp only [fct_b0, fct_b1, fct_d0, fct_d1, fct_n0, fct_n1] at *)
    have e9 : ¬ value = 18446744073709551615 := by omega
    have e8 : ¬ value + 1 = 0 := by omega
    have hw := u64_succ o2 e9
    obtain ⟨v, hv⟩ : ∃ v : Nat, v = value + 1 := ⟨_, rfl⟩
    rw [← hv] at hw
    have hc5 : refC ⟨arg, 5, mask, value⟩ = refC ⟨arg, 6, mask, v⟩ := by rw [refC5 e9, hv]
    ((repeat((conv=>whnf);first|apply ω0|apply ω2|refine τ3 rfl ?_|refine τ4 rfl ?_|refine ⟨rfl,?_⟩|apply τa|refine τb rfl ?_|refine ⟨⟨by kernel_rfl,by kernel_rfl⟩,?_⟩|refine ⟨by decide,?_⟩|apply τt|apply τf)); refine aw_region ?_; (repeat((conv=>whnf);first|apply ω0|apply ω2|refine τ3 rfl ?_|refine τ4 rfl ?_|refine ⟨rfl,?_⟩|apply τa|refine τb rfl ?_|refine ⟨⟨by kernel_rfl,by kernel_rfl⟩,?_⟩|refine ⟨by decide,?_⟩|apply τt|apply τf)); refine aw_region ?_; (repeat((conv=>whnf);first|apply ω0|apply ω2|refine τ3 rfl ?_|refine τ4 rfl ?_|refine ⟨rfl,?_⟩|apply τa|refine τb rfl ?_|refine ⟨⟨by kernel_rfl,by kernel_rfl⟩,?_⟩|refine ⟨by decide,?_⟩|apply τt|apply τf)); refine aw_region ?_; (repeat((conv=>whnf);first|apply ω0|apply ω2|refine τ3 rfl ?_|refine τ4 rfl ?_|refine ⟨rfl,?_⟩|apply τa|refine τb rfl ?_|refine ⟨⟨by kernel_rfl,by kernel_rfl⟩,?_⟩|refine ⟨by decide,?_⟩|apply τt|apply τf)))
    refine AW.le (ele_tell (n := 115) (nn := 3) (L := [(1, .bp (0, nx) 0), (2, .bp (1, nx + 1) 0), (3, int 0), (4, .bp (2, nx + 2) 0)]) (pm := []) (bx := [((2, nx + 2), .c [int 0, int 0, u64 0, u64 0]), ((1, nx + 1), .c [int 0, int 0, u64 0, u64 0]), ((0, nx), .c [int arg, int 6, u64 mask, u64 v])]) _ [] rfl rfl (List.Sublist.refl _) (List.Sublist.refl _) ⟨rfl, OwnLe.refl _, rfl, OwnLe.refl _, rfl, ⟨AVle.refl _, AVle.refl _, AVle.refl _, le_u64 hw, trivial⟩, trivial⟩ trivial ⟨AVle.refl _, AVle.refl _, AVle.refl _, AVle.refl _, trivial⟩) ?_
    (repeat((conv=>whnf);first|apply ω0|apply ω1|apply ω2|refine τ3 rfl ?_|refine τ4 rfl ?_|refine ⟨rfl,?_⟩|apply τa|refine τb rfl ?_|refine ⟨⟨by kernel_rfl,by kernel_rfl⟩,?_⟩|refine ⟨by decide,?_⟩|apply τt|apply τf))
    intro c hc
    obtain rfl : c = false := hc.trans (by simp; omega)
    (repeat((conv=>whnf);first|apply ω0|apply ω1|apply ω2|refine τ3 rfl ?_|refine τ4 rfl ?_|refine ⟨rfl,?_⟩|apply τa|refine τb rfl ?_|refine ⟨⟨by kernel_rfl,by kernel_rfl⟩,?_⟩|refine ⟨by decide,?_⟩|apply τt|apply τf))
    intro c hc; cases c
    · (repeat((conv=>whnf);first|apply ω0|apply ω1|apply ω2|refine τ3 rfl ?_|refine τ4 rfl ?_|refine ⟨rfl,?_⟩|apply τa|refine τb rfl ?_|refine ⟨⟨by kernel_rfl,by kernel_rfl⟩,?_⟩|refine ⟨by decide,?_⟩|apply τt|apply τf))
      (try simp only [fct_b0, fct_b1, fct_d0, fct_d1, fct_n0, fct_n1] at *)
      have e0 : ¬ v = 0 := by omega
      have e1 : ¬ v = 18446744073709551615 := by omega
      rw [(hq.trans hc5).trans (refC6a e0 e1)]
      exact ret_tells_all rfl ⟨rfl, trivial⟩ (AVle.refl _)
    · (repeat((conv=>whnf);first|apply ω0|apply ω1|apply ω2|refine τ3 rfl ?_|refine τ4 rfl ?_|refine ⟨rfl,?_⟩|apply τa|refine τb rfl ?_|refine ⟨⟨by kernel_rfl,by kernel_rfl⟩,?_⟩|refine ⟨by decide,?_⟩|apply τt|apply τf))
      (try simp only [fct_b0, fct_b1, fct_d0, fct_d1, fct_n0, fct_n1] at *)
      have e1 : v = 18446744073709551615 := by omega
      rw [(hq.trans hc5).trans (refC6b e1)]
      exact ret_tells_all rfl ⟨rfl, trivial⟩ (AVle.refl _)
  · (repeat((conv=>whnf);first|apply ω0|apply ω1|apply ω2|refine τ3 rfl ?_|refine τ4 rfl ?_|refine ⟨rfl,?_⟩|apply τa|refine τb rfl ?_|refine ⟨⟨by kernel_rfl,by kernel_rfl⟩,?_⟩|refine ⟨by decide,?_⟩|apply τt|apply τf))
    (try simp only [fct_b0, fct_b1, fct_d0, fct_d1, fct_n0, fct_n1] at *)
    have e9 : value = 18446744073709551615 := by omega
    obtain rfl : q = (cnd0, 2) := hq.trans (by simp [refC, e9])
    exact ret_tells_all rfl ⟨rfl, trivial⟩ (AVle.refl _)
theorem ref16_7 {arg : Int} {mask value : Nat} (o1 : mask < 18446744073709551616) (o2 : value < 18446744073709551616) : Tells Tryz.prog 55 [cndA ⟨arg, 7, mask, value⟩] (.tup [cndA (refC ⟨arg, 7, mask, value⟩).1, int (refC ⟨arg, 7, mask, value⟩).2]) := by
  have hor := u64_or o2 o1
  refine tells_of_aw Tryz.func55 rfl rfl fun nx => ?_
  (repeat((conv=>whnf);first|apply ω0|apply ω1|apply ω2|refine τ3 rfl ?_|refine τ4 rfl ?_|refine ⟨rfl,?_⟩|apply τa|refine τb rfl ?_|refine ⟨⟨by kernel_rfl,by kernel_rfl⟩,?_⟩|refine ⟨by decide,?_⟩|apply τt|apply τf))
  intro c h1
  rw [hor] at h1
  cases c
  · (repeat((conv=>whnf);first|apply ω0|apply ω1|apply ω2|refine τ3 rfl ?_|refine τ4 rfl ?_|refine ⟨rfl,?_⟩|apply τa|refine τb rfl ?_|refine ⟨⟨by kernel_rfl,by kernel_rfl⟩,?_⟩|refine ⟨by decide,?_⟩|apply τt|apply τf))
    (try simp only [fct_b0, fct_b1, fct_d0, fct_d1, fct_n0, fct_n1] at *)
    have e0 : value ||| mask = mask := by omega
    intro c h2; cases c
    · (repeat((conv=>whnf);first|apply ω0|apply ω1|apply ω2|refine τ3 rfl ?_|refine τ4 rfl ?_|refine ⟨rfl,?_⟩|apply τa|refine τb rfl ?_|refine ⟨⟨by kernel_rfl,by kernel_rfl⟩,?_⟩|refine ⟨by decide,?_⟩|apply τt|apply τf))
      (try simp only [fct_b0, fct_b1, fct_d0, fct_d1, fct_n0, fct_n1] at *)
      have e1 : ¬ mask = 0 := by omega
      intro c h3; cases c
      · (repeat((conv=>whnf);first|apply ω0|apply ω1|apply ω2|refine τ3 rfl ?_|refine τ4 rfl ?_|refine ⟨rfl,?_⟩|apply τa|refine τb rfl ?_|refine ⟨⟨by kernel_rfl,by kernel_rfl⟩,?_⟩|refine ⟨by decide,?_⟩|apply τt|apply τf))
        (try simp only [fct_b0, fct_b1, fct_d0, fct_d1, fct_n0, fct_n1] at *)
        have e2 : ¬ mask = 18446744073709551615 := by omega
        rw [show refC ⟨arg, 7, mask, value⟩ = (⟨arg, 7, mask, value⟩, 0) by simp [refC, e0, e1, e2]]
        exact ret_tells_all rfl ⟨rfl, trivial⟩ (AVle.refl _)
      · (repeat((conv=>whnf);first|apply ω0|apply ω1|apply ω2|refine τ3 rfl ?_|refine τ4 rfl ?_|refine ⟨rfl,?_⟩|apply τa|refine τb rfl ?_|refine ⟨⟨by kernel_rfl,by kernel_rfl⟩,?_⟩|refine ⟨by decide,?_⟩|apply τt|apply τf))
        (try simp only [fct_b0, fct_b1, fct_d0, fct_d1, fct_n0, fct_n1] at *)
        have e2 : mask = 18446744073709551615 := by omega
        rw [show refC ⟨arg, 7, mask, value⟩ = (⟨arg, 1, 0, value⟩, 0) by rw [e2] at e0; simp [refC, e0, e2]]
        exact ret_tells_all rfl ⟨rfl, trivial⟩ (AVle.refl _)
    · (repeat((conv=>whnf);first|apply ω0|apply ω1|apply ω2|refine τ3 rfl ?_|refine τ4 rfl ?_|refine ⟨rfl,?_⟩|apply τa|refine τb rfl ?_|refine ⟨⟨by kernel_rfl,by kernel_rfl⟩,?_⟩|refine ⟨by decide,?_⟩|apply τt|apply τf))
      (try simp only [fct_b0, fct_b1, fct_d0, fct_d1, fct_n0, fct_n1] at *)
      have e1 : mask = 0 := by omega
      rw [show refC ⟨arg, 7, mask, value⟩ = (cnd0, 1) by rw [e1] at e0; simp at e0; simp [refC, e0, e1]]
      exact ret_tells_all rfl ⟨rfl, trivial⟩ (AVle.refl _)
  · (repeat((conv=>whnf);first|apply ω0|apply ω1|apply ω2|refine τ3 rfl ?_|refine τ4 rfl ?_|refine ⟨rfl,?_⟩|apply τa|refine τb rfl ?_|refine ⟨⟨by kernel_rfl,by kernel_rfl⟩,?_⟩|refine ⟨by decide,?_⟩|apply τt|apply τf))
    (try simp only [fct_b0, fct_b1, fct_d0, fct_d1, fct_n0, fct_n1] at *)
    have e0 : ¬ (value ||| mask = mask) := by omega
    rw [show refC ⟨arg, 7, mask, value⟩ = (cnd0, 2) by simp [refC, e0]]
    exact ret_tells_all rfl ⟨rfl, trivial⟩ (AVle.refl _)
theorem ref16_spec (c : Cnd) (ho : c.ok) (hr : rightC c = true) : Tells Tryz.prog 55 [cndA c] (.tup [cndA (normC c).1, int (normC c).2]) := by
  rw [← refC_eq ho hr]
  have hop := rightC_iff.1 hr
  obtain ⟨arg, op, mask, value⟩ := c
  dsimp only at hop
  obtain ⟨o1, o2⟩ := ho
  dsimp only at o1 o2
  have h7 : op = 1 ∨ op = 2 ∨ op = 3 ∨ op = 4 ∨ op = 5 ∨ op = 6 ∨ op = 7 := by omega
  rcases h7 with rfl | rfl | rfl | rfl | rfl | rfl | rfl
  · exact (ref16_same (.inl rfl)).of_eq rfl
  · exact (ref16_same (.inr rfl)).of_eq rfl
  · exact ref16_3
  · exact ref16_4 o2 _ rfl
  · exact ref16_5 o2 _ rfl
  · exact ref16_6
  · exact ref16_7 o1 o2
end Go.Proofs.W

namespace Go.Proofs.W
open Go.Vl
set_option maxRecDepth 100000

theorem aw_once {P : Program} {c : Code} {E : Env} {Q : AExit → Env → Prop} (h : AW P c E (loopQ (fun _ : Unit => E) (fun _ => True) (fun _ => 0) () Q)) : AW P (.loop c) E Q :=
  aw_loop (fun _ : Unit => E) (fun _ => True) (fun _ => 0) ⟨(), trivial, ELe.refl _⟩ fun _ _ => h
def nilS (sz : Nat) : AV := .os sz 0 (fun _ => .any) none
theorem len64_0 : Tells Tryz.prog 127 [u64 0] (int 0) := by
  refine tells_of_aw Tryz.func127 rfl rfl fun nx => ?_
  (repeat((conv=>whnf);first|apply ω0|apply ω1|apply ω2|refine τ3 rfl ?_|refine τ4 rfl ?_|refine ⟨rfl,?_⟩|apply τa|refine τb rfl ?_|refine ⟨⟨by kernel_rfl,by kernel_rfl⟩,?_⟩|refine ⟨by decide,?_⟩|apply τt|apply τf))
  exact ret_tells rfl (AVle.refl _)
theorem len_0 : Tells Tryz.prog 86 [.v (.int .u64 0)] (int 0) := by
  refine tells_of_aw Tryz.func86 rfl rfl fun nx => ?_
  (repeat((conv=>whnf);first|apply ω0|apply ω1|apply ω2|refine τ3 rfl ?_|refine τ4 rfl ?_|refine ⟨rfl,?_⟩|apply τa|refine τb rfl ?_|refine ⟨⟨by kernel_rfl,by kernel_rfl⟩,?_⟩|refine ⟨by decide,?_⟩|apply τt|apply τf))
  refine aop_tells rfl rfl len64_0 ⟨AVle.refl _, trivial⟩ fun nx => ?_
  (repeat((conv=>whnf);first|apply ω0|apply ω1|apply ω2|refine τ3 rfl ?_|refine τ4 rfl ?_|refine ⟨rfl,?_⟩|apply τa|refine τb rfl ?_|refine ⟨⟨by kernel_rfl,by kernel_rfl⟩,?_⟩|refine ⟨by decide,?_⟩|apply τt|apply τf))
  exact ret_tells rfl (AVle.refl _)
theorem ins_0 (n : Nat) : Tells Tryz.prog 118 [nilS 4, int 0, int 0, fn0 n] (.tup []) := by
  refine tells_of_aw Tryz.func118 rfl rfl fun nx => ?_
  (repeat((conv=>whnf);first|apply ω0|apply ω1|apply ω2|refine τ3 rfl ?_|refine τ4 rfl ?_|refine ⟨rfl,?_⟩|apply τa|refine τb rfl ?_|refine ⟨⟨by kernel_rfl,by kernel_rfl⟩,?_⟩|refine ⟨by decide,?_⟩|apply τt|apply τf))
  refine aw_once ?_
  (repeat((conv=>whnf);first|apply ω0|apply ω1|apply ω2|refine τ3 rfl ?_|refine τ4 rfl ?_|refine ⟨rfl,?_⟩|apply τa|refine τb rfl ?_|refine ⟨⟨by kernel_rfl,by kernel_rfl⟩,?_⟩|refine ⟨by decide,?_⟩|apply τt|apply τf))
  exact ret_tells rfl (AVle.refl _)
theorem pdq_0 (n : Nat) : Tells Tryz.prog 85 [nilS 4, int 0, int 0, int 0, fn0 n] (.tup []) := by
  refine tells_of_aw Tryz.func85 rfl rfl fun nx => ?_
  (repeat((conv=>whnf);first|apply ω0|apply ω1|apply ω2|refine τ3 rfl ?_|refine τ4 rfl ?_|refine ⟨rfl,?_⟩|apply τa|refine τb rfl ?_|refine ⟨⟨by kernel_rfl,by kernel_rfl⟩,?_⟩|refine ⟨by decide,?_⟩|apply τt|apply τf))
  refine aw_once ?_
  (repeat((conv=>whnf);first|apply ω0|apply ω1|apply ω2|refine τ3 rfl ?_|refine τ4 rfl ?_|refine ⟨rfl,?_⟩|apply τa|refine τb rfl ?_|refine ⟨⟨by kernel_rfl,by kernel_rfl⟩,?_⟩|refine ⟨by decide,?_⟩|apply τt|apply τf))
  refine aop_tells rfl rfl (ins_0 n) ⟨AVle.refl _, AVle.refl _, AVle.refl _, AVle.refl _, trivial⟩ fun nx => ?_
  (repeat((conv=>whnf);first|apply ω0|apply ω1|apply ω2|refine τ3 rfl ?_|refine τ4 rfl ?_|refine ⟨rfl,?_⟩|apply τa|refine τb rfl ?_|refine ⟨⟨by kernel_rfl,by kernel_rfl⟩,?_⟩|refine ⟨by decide,?_⟩|apply τt|apply τf))
  exact ret_tells rfl (AVle.refl _)
theorem sortFunc_0 (n : Nat) : Tells Tryz.prog 51 [nilS 4, fn0 n] (.tup []) := by
  refine tells_of_aw Tryz.func51 rfl rfl fun nx => ?_
  (repeat((conv=>whnf);first|apply ω0|apply ω1|apply ω2|refine τ3 rfl ?_|refine τ4 rfl ?_|refine ⟨rfl,?_⟩|apply τa|refine τb rfl ?_|refine ⟨⟨by kernel_rfl,by kernel_rfl⟩,?_⟩|refine ⟨by decide,?_⟩|apply τt|apply τf))
  refine aop_tells rfl rfl len_0 ⟨AVle.refl _, trivial⟩ fun nx => ?_
  (repeat((conv=>whnf);first|apply ω0|apply ω1|apply ω2|refine τ3 rfl ?_|refine τ4 rfl ?_|refine ⟨rfl,?_⟩|apply τa|refine τb rfl ?_|refine ⟨⟨by kernel_rfl,by kernel_rfl⟩,?_⟩|refine ⟨by decide,?_⟩|apply τt|apply τf))
  refine aop_tells rfl rfl (pdq_0 n) ⟨AVle.refl _, AVle.refl _, AVle.refl _, AVle.refl _, AVle.refl _, trivial⟩ fun nx => ?_
  (repeat((conv=>whnf);first|apply ω0|apply ω1|apply ω2|refine τ3 rfl ?_|refine τ4 rfl ?_|refine ⟨rfl,?_⟩|apply τa|refine τb rfl ?_|refine ⟨⟨by kernel_rfl,by kernel_rfl⟩,?_⟩|refine ⟨by decide,?_⟩|apply τt|apply τf))
  exact ret_tells rfl (AVle.refl _)
theorem compact_0 : Tells Tryz.prog 53 [nilS 4] (nilS 4) := by
  refine tells_of_aw Tryz.func53 rfl rfl fun nx => ?_
  (repeat((conv=>whnf);first|apply ω0|apply ω1|apply ω2|refine τ3 rfl ?_|refine τ4 rfl ?_|refine ⟨rfl,?_⟩|apply τa|refine τb rfl ?_|refine ⟨⟨by kernel_rfl,by kernel_rfl⟩,?_⟩|refine ⟨by decide,?_⟩|apply τt|apply τf))
  exact ret_tells rfl (AVle.refl _)
def readS : ByteArray := ⟨#[114, 101, 97, 100]⟩
theorem rule_awake : Tells Tryz.prog 24 [.ag [strA readS, int 8, int 0, .sl 4 1 (fun _ => cndA ⟨0, 6, 0, 0⟩)]] (.tup [.ag [strA readS, int 8, int 0, nilS 4], boolA true]) := by
  refine tells_of_aw Tryz.func24 rfl rfl fun nx => ?_
  (repeat((conv=>whnf);first|apply ω0|apply ω1|apply ω2|refine τ3 rfl ?_|refine τ4 rfl ?_|refine ⟨rfl,?_⟩|apply τa|refine τb rfl ?_|refine ⟨⟨by kernel_rfl,by kernel_rfl⟩,?_⟩|refine ⟨by decide,?_⟩|apply τt|apply τf))
  refine aw_loop (fun y : Bool × Nat => mk 47 [(2, .bp (1, nx + 1) 0), (4, .bp (2, nx + 2) 0), (15, .sl 4 1 (fun _ => cndA ⟨0, 6, 0, 0⟩)), (16, int 1), (17, int (bif y.1 then 1 else 0))] ⟨[((2, nx + 2), .c [strA readS, int 8, int 0, nilS 4]), ((1, nx + 1), .c [strA ⟨#[]⟩, int 0, int 0, nilS 4])], [], y.2, 3⟩) (fun _ => True) (fun y => if y.1 then 0 else 1) ?_ ?_
  · exact ⟨(false, nx + 3), trivial, ele_tell (pm := []) _ [] rfl rfl (.cons_cons _ (.cons_cons _ (.cons _ .slnil))) (List.Sublist.refl _) ⟨rfl, ⟨AVle.refl _, AVle.refl _, AVle.refl _, AVle.os_nil, trivial⟩, rfl, ⟨AVle.refl _, AVle.refl _, AVle.refl _, AVle.os_nil, trivial⟩, trivial⟩ trivial ⟨AVle.refl _, AVle.refl _, AVle.refl _, AVle.refl _, AVle.refl _, trivial⟩⟩
  · rintro ⟨b, nx1⟩ -
    cases b
    · (repeat((conv=>whnf);first|apply ω0|apply ω1|apply ω2|refine τ3 rfl ?_|refine τ4 rfl ?_|refine ⟨rfl,?_⟩|apply τa|refine τb rfl ?_|refine ⟨⟨by kernel_rfl,by kernel_rfl⟩,?_⟩|refine ⟨by decide,?_⟩|apply τt|apply τf))
      refine ⟨⟨by show (0 : Int) ≤ 0; decide, by show (0 : Int) < 1; decide⟩, ?_⟩
      (repeat((conv=>whnf);first|apply ω0|apply ω1|apply ω2|refine τ3 rfl ?_|refine τ4 rfl ?_|refine ⟨rfl,?_⟩|apply τa|refine τb rfl ?_|refine ⟨⟨by kernel_rfl,by kernel_rfl⟩,?_⟩|refine ⟨by decide,?_⟩|apply τt|apply τf))
      refine aop_tells rfl rfl (cond_spec ⟨0, 6, 0, 0⟩ ⟨by decide, by decide⟩) ⟨AVle.refl _, trivial⟩ fun nx2 => ?_
      rw [show normC ⟨0, 6, 0, 0⟩ = (cnd0, 1) by decide]
      (repeat((conv=>whnf);first|apply ω0|apply ω1|apply ω2|refine τ3 rfl ?_|refine τ4 rfl ?_|refine ⟨rfl,?_⟩|apply τa|refine τb rfl ?_|refine ⟨⟨by kernel_rfl,by kernel_rfl⟩,?_⟩|refine ⟨by decide,?_⟩|apply τt|apply τf))
      exact back (true, nx2 + 1) trivial (by show 0 < 1; decide) (ele_tell (pm := []) _ [] rfl rfl (.cons _ (.cons _ (List.Sublist.refl _))) (List.Sublist.refl _) ⟨rfl, ⟨AVle.refl _, AVle.refl _, AVle.refl _, AVle.os_nil, trivial⟩, rfl, ⟨AVle.refl _, AVle.refl _, AVle.refl _, AVle.os_nil, trivial⟩, trivial⟩ trivial ⟨AVle.refl _, AVle.refl _, AVle.refl _, AVle.refl _, AVle.refl _, trivial⟩)
    · (repeat((conv=>whnf);first|apply ω0|apply ω1|apply ω2|refine τ3 rfl ?_|refine τ4 rfl ?_|refine ⟨rfl,?_⟩|apply τa|refine τb rfl ?_|refine ⟨⟨by kernel_rfl,by kernel_rfl⟩,?_⟩|refine ⟨by decide,?_⟩|apply τt|apply τf))
      refine aop_tells rfl rfl (sortFunc_0 52) ⟨AVle.refl _, AVle.refl _, trivial⟩ fun nx2 => ?_
      (repeat((conv=>whnf);first|apply ω0|apply ω1|apply ω2|refine τ3 rfl ?_|refine τ4 rfl ?_|refine ⟨rfl,?_⟩|apply τa|refine τb rfl ?_|refine ⟨⟨by kernel_rfl,by kernel_rfl⟩,?_⟩|refine ⟨by decide,?_⟩|apply τt|apply τf))
      refine aop_tells rfl rfl compact_0 ⟨AVle.refl _, trivial⟩ fun nx2 => ?_
      (repeat((conv=>whnf);first|apply ω0|apply ω1|apply ω2|refine τ3 rfl ?_|refine τ4 rfl ?_|refine ⟨rfl,?_⟩|apply τa|refine τb rfl ?_|refine ⟨⟨by kernel_rfl,by kernel_rfl⟩,?_⟩|refine ⟨by decide,?_⟩|apply τt|apply τf))
      exact ret_tells_all rfl ⟨rfl, trivial⟩ (AVle.refl _)
theorem awake16_spec : Tells Tryz.prog 23 [] (boolA true) := by
  refine tells_of_aw Tryz.func23 rfl rfl fun nx => ?_
  (repeat((conv=>whnf);first|apply ω0|apply ω1|apply ω2|refine τ3 rfl ?_|refine τ4 rfl ?_|refine ⟨rfl,?_⟩|apply τa|refine τb rfl ?_|refine ⟨⟨by kernel_rfl,by kernel_rfl⟩,?_⟩|refine ⟨by decide,?_⟩|apply τt|apply τf))
  refine aop_tells rfl rfl (cond_spec ⟨0, 4, 0, 0⟩ ⟨by decide, by decide⟩) ⟨AVle.refl _, trivial⟩ fun nx2 => ?_
  rw [show normC ⟨0, 4, 0, 0⟩ = (⟨0, 1, 0, 0⟩, 0) by decide]
  (repeat((conv=>whnf);first|apply ω0|apply ω1|apply ω2|refine τ3 rfl ?_|refine τ4 rfl ?_|refine ⟨rfl,?_⟩|apply τa|refine τb rfl ?_|refine ⟨⟨by kernel_rfl,by kernel_rfl⟩,?_⟩|refine ⟨by decide,?_⟩|apply τt|apply τf))
  refine aop_tells rfl rfl rule_awake ⟨AVle.ags ⟨AVle.refl _, AVle.refl _, AVle.refl _, ?_, trivial⟩, trivial⟩ fun nx3 => ?_
  · refine AVle.os_sl.trans (AVle.sl_fun fun k hk => ?_)
    match k, hk with
    | 0, _ => rfl
  (repeat((conv=>whnf);first|apply ω0|apply ω1|apply ω2|refine τ3 rfl ?_|refine τ4 rfl ?_|refine ⟨rfl,?_⟩|apply τa|refine τb rfl ?_|refine ⟨⟨by kernel_rfl,by kernel_rfl⟩,?_⟩|refine ⟨by decide,?_⟩|apply τt|apply τf))
  intro c hc
  obtain rfl : c = true := hc.trans (beq_self_eq_true readS.toList)
  (repeat((conv=>whnf);first|apply ω0|apply ω1|apply ω2|refine τ3 rfl ?_|refine τ4 rfl ?_|refine ⟨rfl,?_⟩|apply τa|refine τb rfl ?_|refine ⟨⟨by kernel_rfl,by kernel_rfl⟩,?_⟩|refine ⟨by decide,?_⟩|apply τt|apply τf))
  exact ret_tells rfl (AVle.refl _)
theorem cnd_inj {c d : Cnd} : (c.arg == d.arg && (c.op == d.op && ((c.mask : Int) == (d.mask : Int) && ((c.value : Int) == (d.value : Int) && true)))) = decide (c = d) := by
  rw [Bool.eq_iff_iff]
  simp only [Bool.and_eq_true, beq_iff_eq, decide_eq_true_eq, and_true]
  obtain ⟨a1, a2, a3, a4⟩ := c
  obtain ⟨b1, b2, b3, b4⟩ := d
  simp
  omega
theorem cnd_self (c : Cnd) : (c.arg == c.arg && (c.op == c.op && ((c.mask : Int) == (c.mask : Int) && ((c.value : Int) == (c.value : Int) && true)))) = true := by simp
end Go.Proofs.W

namespace Go.Proofs.W
open Go.Vl
section
variable {α : Type} [Inhabited α] {lt : α → α → Bool}
theorem insG_go {a j : Nat} {e : Array α} (h : a < j) (hl : lt e[j]! e[j - 1]! = true) : Go.Sort.insInner lt a j e = Go.Sort.insInner lt a (j - 1) (Go.Sort.swp e j (j - 1)) := by
  cases j with
  | zero => omega
  | succ j =>
    rw [Go.Sort.insInner]
    simp only [Nat.add_sub_cancel] at hl ⊢
    rw [if_pos (by simp [hl]; omega)]
theorem insG_end {a j : Nat} {e : Array α} (hl : lt e[j]! e[j - 1]! = false) : Go.Sort.insInner lt a j e = e := by
  cases j with
  | zero => rfl
  | succ j =>
    rw [Go.Sort.insInner]
    simp only [Nat.add_sub_cancel] at hl ⊢
    rw [if_neg (by simp [hl])]
theorem insG_stop {a j : Nat} {e : Array α} (h : ¬ a < j) : Go.Sort.insInner lt a j e = e := by
  cases j with
  | zero => rfl
  | succ j => rw [Go.Sort.insInner]; simp; omega
theorem siftG_stop {hi F root : Nat} {d : Array α} (h : 2 * root + 1 ≥ hi) : Go.Sort.siftDown lt hi F root d = d := by rw [Go.Sort.siftDown, dif_pos h]
/-- Which child is the greater one. -/
def siftC (lt : α → α → Bool) (hi F root : Nat) (d : Array α) : Nat := if 2 * root + 2 < hi ∧ lt d[F + (2 * root + 1)]! d[F + (2 * root + 2)]! = true then 2 * root + 2 else 2 * root + 1
theorem siftG_end {hi F root : Nat} {d : Array α} (h : ¬ 2 * root + 1 ≥ hi) (hl : lt d[F + root]! d[F + siftC lt hi F root d]! = false) : Go.Sort.siftDown lt hi F root d = d := by
  rw [Go.Sort.siftDown, dif_neg h]
  unfold siftC at hl
  by_cases hc : 2 * root + 2 < hi ∧ lt d[F + (2 * root + 1)]! d[F + (2 * root + 2)]! = true
  · rw [if_pos hc] at hl
    rw [if_pos (by simp only [Bool.and_eq_true, decide_eq_true_eq]; exact hc), if_pos (by rw [hl]; rfl)]
  · rw [if_neg hc] at hl
    rw [if_neg (by simp only [Bool.and_eq_true, decide_eq_true_eq]; exact hc), if_pos (by rw [hl]; rfl)]
theorem siftG_go {hi F root : Nat} {d : Array α} (h : ¬ 2 * root + 1 ≥ hi) (hl : lt d[F + root]! d[F + siftC lt hi F root d]! = true) : Go.Sort.siftDown lt hi F root d = Go.Sort.siftDown lt hi F (siftC lt hi F root d) (Go.Sort.swp d (F + root) (F + siftC lt hi F root d)) := by
  rw [Go.Sort.siftDown, dif_neg h]
  unfold siftC at hl ⊢
  by_cases hc : 2 * root + 2 < hi ∧ lt d[F + (2 * root + 1)]! d[F + (2 * root + 2)]! = true
  · rw [if_pos hc] at hl ⊢
    rw [if_pos (by simp only [Bool.and_eq_true, decide_eq_true_eq]; exact hc), if_neg (by rw [hl]; simp), dif_pos hc.1]
  · rw [if_neg hc] at hl ⊢
    rw [if_neg (by simp only [Bool.and_eq_true, decide_eq_true_eq]; exact hc), if_neg (by rw [hl]; simp)]
theorem swpG_size {d : Array α} {i j : Nat} : (Go.Sort.swp d i j).size = d.size := by simp [Go.Sort.swp]
theorem siftG_size {hi F : Nat} : ∀ (k root : Nat) (d : Array α), hi - root ≤ k → (Go.Sort.siftDown lt hi F root d).size = d.size := by
  intro k
  induction k with
  | zero => intro root d h; rw [siftG_stop (by omega)]
  | succ k ih =>
    intro root d h
    by_cases h1 : 2 * root + 1 ≥ hi
    · rw [siftG_stop h1]
    · cases hl : lt d[F + root]! d[F + siftC lt hi F root d]! with
      | false => rw [siftG_end h1 hl]
      | true =>
        rw [siftG_go h1 hl, ih _ _ ?_, swpG_size]
        unfold siftC; split <;> omega
theorem scanG_up_end {p : α → Bool} {d : Array α} {i j : Nat} (h : ¬ (i ≤ j ∧ p d[i]! = true)) : Go.Sort.scanUp p d j i = i := by
  rw [Go.Sort.scanUp, if_neg (by simp only [Bool.and_eq_true, decide_eq_true_eq]; exact h)]
theorem scanG_up_go {p : α → Bool} {d : Array α} {i j : Nat} (h : i ≤ j) (hp : p d[i]! = true) : Go.Sort.scanUp p d j i = Go.Sort.scanUp p d j (i + 1) := by
  rw [Go.Sort.scanUp, if_pos (by simp only [Bool.and_eq_true, decide_eq_true_eq]; exact ⟨h, hp⟩)]
theorem scanG_dn_end {p : α → Bool} {d : Array α} {i j : Nat} (h : ¬ (i ≤ j ∧ p d[j]! = true)) : Go.Sort.scanDown p d i j = j := by
  cases j with
  | zero => rfl
  | succ j => rw [Go.Sort.scanDown, if_neg (by simp only [Bool.and_eq_true, decide_eq_true_eq]; exact h)]
theorem scanG_dn_go {p : α → Bool} {d : Array α} {i j : Nat} (h1 : 1 ≤ i) (h : i ≤ j) (hp : p d[j]! = true) : Go.Sort.scanDown p d i j = Go.Sort.scanDown p d i (j - 1) := by
  cases j with
  | zero => omega
  | succ j => rw [Go.Sort.scanDown, if_pos (by simp only [Bool.and_eq_true, decide_eq_true_eq]; exact ⟨h, hp⟩)]; rfl
theorem scanG_so_end {d : Array α} {i b : Nat} (h : ¬ (i < b ∧ lt d[i]! d[i - 1]! = false)) : Go.Sort.scanSorted lt d b i = i := by
  rw [Go.Sort.scanSorted, if_neg (by simp only [Bool.and_eq_true, decide_eq_true_eq, Bool.not_eq_true']; exact h)]
theorem scanG_so_go {d : Array α} {i b : Nat} (h : i < b) (hp : lt d[i]! d[i - 1]! = false) : Go.Sort.scanSorted lt d b i = Go.Sort.scanSorted lt d b (i + 1) := by
  rw [Go.Sort.scanSorted, if_pos (by simp only [Bool.and_eq_true, decide_eq_true_eq, Bool.not_eq_true']; exact ⟨h, hp⟩)]
theorem shDn_end {d : Array α} {j : Nat} (h : lt d[j]! d[j - 1]! = false) : Go.Sort.shiftDown lt j d = d := by
  cases j with
  | zero => rfl
  | succ j => rw [Go.Sort.shiftDown]; simp only [Nat.add_sub_cancel] at h; rw [if_pos (by rw [h]; rfl)]
theorem shDn_go {d : Array α} {j : Nat} (h1 : 1 ≤ j) (h : lt d[j]! d[j - 1]! = true) : Go.Sort.shiftDown lt j d = Go.Sort.shiftDown lt (j - 1) (Go.Sort.swp d j (j - 1)) := by
  cases j with
  | zero => omega
  | succ j => rw [Go.Sort.shiftDown]; simp only [Nat.add_sub_cancel] at h ⊢; rw [if_neg (by rw [h]; simp)]
theorem shUp_end {d : Array α} {b j : Nat} (h : ¬ (j < b ∧ lt d[j]! d[j - 1]! = true)) : Go.Sort.shiftUp lt b j d = d := by
  rw [Go.Sort.shiftUp]
  by_cases hj : j < b
  · rw [if_pos hj, if_pos (by cases hl : lt d[j]! d[j - 1]! with | false => rfl | true => exact absurd ⟨hj, hl⟩ h)]
  · rw [if_neg hj]
theorem shUp_go {d : Array α} {b j : Nat} (h1 : j < b) (h : lt d[j]! d[j - 1]! = true) : Go.Sort.shiftUp lt b j d = Go.Sort.shiftUp lt b (j + 1) (Go.Sort.swp d j (j - 1)) := by
  rw [Go.Sort.shiftUp, if_pos h1, if_neg (by rw [h]; simp)]
theorem partG_now {d : Array α} {a b p i j : Nat} (hi : i = Go.Sort.scanUp (fun x => lt x (Go.Sort.swp d a p)[a]!) (Go.Sort.swp d a p) (b - 1) (a + 1)) (hj : j = Go.Sort.scanDown (fun x => !lt x (Go.Sort.swp d a p)[a]!) (Go.Sort.swp d a p) i (b - 1)) (h : i > j) :
    Go.Sort.partition lt d a b p = (j, true, Go.Sort.swp (Go.Sort.swp d a p) j a) := by
  subst hj; subst hi
  show (if _ then _ else _) = _
  rw [if_pos h]
theorem partG_go {d : Array α} {a b p i j : Nat} (hi : i = Go.Sort.scanUp (fun x => lt x (Go.Sort.swp d a p)[a]!) (Go.Sort.swp d a p) (b - 1) (a + 1)) (hj : j = Go.Sort.scanDown (fun x => !lt x (Go.Sort.swp d a p)[a]!) (Go.Sort.swp d a p) i (b - 1)) (h : ¬ i > j) :
    Go.Sort.partition lt d a b p = ((Go.Sort.partLoop lt a (i + 1) (j - 1) (Go.Sort.swp (Go.Sort.swp d a p) i j)).1, false, Go.Sort.swp (Go.Sort.partLoop lt a (i + 1) (j - 1) (Go.Sort.swp (Go.Sort.swp d a p) i j)).2 (Go.Sort.partLoop lt a (i + 1) (j - 1) (Go.Sort.swp (Go.Sort.swp d a p) i j)).1 a) := by
  subst hj; subst hi
  show (if _ then _ else _) = _
  rw [if_neg h]
theorem lit_eq {K : Bool → Prop} {b b' : Bool} (h : b = b') (hk : ∀ c, c = b' → K c) : ∀ c, c = b → K c := by subst h; exact hk
theorem not_of' {b : Bool} (h : false = !b) : b = true := by cases b <;> simp_all
theorem yes_of' {b : Bool} (h : true = !b) : b = false := by cases b <;> simp_all
theorem wrapN {x : Int} {k : Nat} (h : x = (k : Int)) (hk : k ≤ 9000000000000000000) : IntKind.i64.wrap x = (k : Int) := by rw [wrap_id (by omega) (by omega)]; exact h
/-- A list, sorted. -/
def sortBy (lt : α → α → Bool) (l : List α) : List α := l.mergeSort (fun x y => !lt y x)
omit [Inhabited α] in
theorem sortBy_pair (hS : Go.Sort.SWO lt) (l : List α) : (sortBy lt l).Pairwise (fun x y => lt y x = false) := by
  have tr : ∀ a b c : α, (!lt b a) = true → (!lt c b) = true → (!lt c a) = true := fun a b c h1 h2 => by
    simp only [Bool.not_eq_true'] at *; exact hS.ntrans _ _ _ h2 h1
  have to : ∀ a b : α, ((!lt b a) || (!lt a b)) = true := fun a b => by
    cases h1 : lt b a <;> cases h2 : lt a b <;> try rfl
    have := hS.trans _ _ _ h1 h2
    rw [hS.irrefl] at this; cases this
  exact (List.pairwise_mergeSort tr to l).imp fun h => by simpa using h
omit [Inhabited α] in
theorem sortBy_mem {l : List α} {x : α} : x ∈ sortBy lt l ↔ x ∈ l := (List.mergeSort_perm l _).mem_iff
omit [Inhabited α] in
theorem sortBy_length {l : List α} : (sortBy lt l).length = l.length := List.length_mergeSort _
omit [Inhabited α] in
theorem sortBy_of_perm (hS : Go.Sort.SWO lt) (hT : ∀ x y, lt x y = false → lt y x = false → x = y) {l l' : List α} (h : l.Perm l') : sortBy lt l = sortBy lt l' :=
  List.Perm.eq_of_pairwise (le := fun x y => lt y x = false) (fun a b _ _ h1 h2 => hT a b h2 h1) (sortBy_pair hS l) (sortBy_pair hS l') (((List.mergeSort_perm l _).trans h).trans (List.mergeSort_perm l' _).symm)
omit [Inhabited α] in
/-- Sorted lists of the same elements, none twice. -/
theorem sorted_same (hT : ∀ x y, lt x y = false → lt y x = false → x = y) {l l' : List α} (h1 : l.Pairwise (fun x y => lt y x = false)) (h2 : l'.Pairwise (fun x y => lt y x = false)) (n1 : l.Nodup) (n2 : l'.Nodup) (h : ∀ x, x ∈ l ↔ x ∈ l') : l = l' :=
  List.Perm.eq_of_pairwise (le := fun x y => lt y x = false) (fun a b _ _ h1 h2 => hT a b h2 h1) h1 h2 ((List.perm_ext_iff_of_nodup n1 n2).2 h)
end
theorem ltInt_tot : ∀ x y : Int, Go.Sort.ltInt x y = false → Go.Sort.ltInt y x = false → x = y := fun x y h1 h2 => by
  simp [Go.Sort.ltInt] at h1 h2; omega
end Go.Proofs.W

namespace Go.Proofs
open Go.Shelf
shelf_lay Lays.n125 Nm 125 at Tryz as Tryz.lays125
end Go.Proofs
namespace Go.Proofs.W
open Go.Vl Go.Shelf
set_option maxRecDepth 100000

theorem bitsLen_spec (n : Nat) (hn : n ≤ 1000000000) : Tells Tryz.prog 86 [.v (.int .u64 (n : Int))] (.v (.int .i64 (Lib.bitLen n))) :=
  tells_of_calls (vs := [.int .u64 (n : Int)]) ⟨_, Tryz.func86, rfl, rfl⟩ fun w => (Any.bits_Len Tryz.lays125 (n : Int) w (by omega) (by omega)).mono fun e w' ⟨h1, h2⟩ => ⟨h1, by subst h2; exact ⟨rfl, rfl, rfl, Nat.le_refl _, fun _ _ => rfl⟩⟩
theorem bitLen_two {n : Nat} (h0 : 0 < n) (h1 : n ≤ 1000000000) : 2 ^ Lib.bitLen n ≤ 2 * n ∧ Lib.bitLen n ≤ 32 := by
  obtain ⟨a, b, c⟩ := Lib.bitLenAux_bounds 64 n (by omega) (by omega)
  have e : 2 ^ Lib.bitLenAux 64 n = 2 * 2 ^ (Lib.bitLenAux 64 n - 1) := by
    obtain ⟨k, hk⟩ : ∃ k, Lib.bitLenAux 64 n = k + 1 := ⟨Lib.bitLenAux 64 n - 1, by omega⟩
    rw [hk, Nat.add_sub_cancel, Nat.pow_succ]; omega
  unfold Lib.bitLen
  refine ⟨by omega, ?_⟩
  rcases Nat.lt_or_ge 32 (Lib.bitLenAux 64 n) with h | h
  · have : 2 ^ 32 ≤ 2 ^ (Lib.bitLenAux 64 n - 1) := Nat.pow_le_pow_right (by decide) (by omega)
    omega
  · exact h
theorem nextPow_spec (n : Nat) (h0 : 0 < n) (hn : n ≤ 1000000000) : Tells Tryz.prog 163 [int n] (.v (.int .u64 (2 ^ Lib.bitLen n : Nat))) := by
  obtain ⟨h1, h2⟩ := bitLen_two h0 hn
  refine tells_of_aw Tryz.func163 rfl rfl fun nx => ?_
  (repeat((conv=>whnf);first|apply ω0|apply ω1|apply ω2|refine τ3 rfl ?_|refine τ4 rfl ?_|refine ⟨rfl,?_⟩|apply τa|refine τb rfl ?_|refine ⟨⟨by kernel_rfl,by kernel_rfl⟩,?_⟩|refine ⟨by decide,?_⟩|apply τt|apply τf))
  refine aop_tells rfl rfl (bitsLen_spec n hn) ⟨AVle.of_eq (congrArg (fun z => AV.v (.int .u64 z)) (IntWalk.u64_in _ (by omega))), trivial⟩ fun nx1 => ?_
  (repeat((conv=>whnf);first|apply ω0|apply ω1|apply ω2|refine τ3 rfl ?_|refine τ4 rfl ?_|refine ⟨rfl,?_⟩|apply τa|refine τb rfl ?_|refine ⟨⟨by kernel_rfl,by kernel_rfl⟩,?_⟩|refine ⟨by decide,?_⟩|apply τt|apply τf))
  refine ⟨by omega, ?_⟩
  (repeat((conv=>whnf);first|apply ω0|apply ω1|apply ω2|refine τ3 rfl ?_|refine τ4 rfl ?_|refine ⟨rfl,?_⟩|apply τa|refine τb rfl ?_|refine ⟨⟨by kernel_rfl,by kernel_rfl⟩,?_⟩|refine ⟨by decide,?_⟩|apply τt|apply τf))
  refine ret_tells_all rfl (by trivial) (AVle.of_eq (congrArg (fun z => AV.v (.int .u64 z)) ?_))
  rw [show ((Lib.bitLen n : Nat) : Int).toNat = Lib.bitLen n from rfl, Nat.min_eq_left (show Lib.bitLen n ≤ IntKind.u64.bits by show _ ≤ 64; omega)]
  rw [show (1 : Int) * 2 ^ Lib.bitLen n = ((2 ^ Lib.bitLen n : Nat) : Int) by simp]
  generalize 2 ^ Lib.bitLen n = p at h1 ⊢
  exact IntWalk.u64_in _ (by omega)
theorem band_le (z : Int) {m : Nat} (hm : m < 18446744073709551616) : ∃ k : Nat, k ≤ m ∧ bitsI .and .u64 z (m : Int) = (k : Int) := by
  unfold bitsI
  simp only [BitVec.toNat_and]
  rw [ofInt_nat (w := IntKind.u64.bits) (a := m) (by exact hm)]
  refine ⟨(BitVec.ofInt IntKind.u64.bits z).toNat &&& m, Nat.and_le_right, IntWalk.u64_in _ ?_⟩
  have : (BitVec.ofInt IntKind.u64.bits z).toNat &&& m ≤ m := Nat.and_le_right
  omega
/-- The next random number: some number. -/
theorem xorNext_spec (z : Int) (R : List AV) (s s1 nx : Nat) :
    ECall Tryz.prog 164 [.bp (1, s1) 0] ⟨[((1, s1), .c [.v (.int .u64 z)]), ((0, s), .c R)], [], nx, 2⟩ (fun r h' => ∃ z' nx' nn', r = .v (.int .u64 z') ∧ h' = ⟨[((1, s1), .c [.v (.int .u64 z')]), ((0, s), .c R)], [], nx', nn'⟩) := by
  refine ECall.wk (ecall_of_aw Tryz.func164 rfl rfl ?_)
  (repeat((conv=>whnf);first|apply ω0|apply ω1|apply ω2|refine τ3 rfl ?_|refine τ4 rfl ?_|refine ⟨rfl,?_⟩|apply τa|refine τb rfl ?_|refine ⟨⟨by kernel_rfl,by kernel_rfl⟩,?_⟩|refine ⟨by decide,?_⟩|apply τt|apply τf))
  (refine aw_draw 9 ?_ ?_ ?_ ?_; (· kernel_rfl); (· kernel_rfl); (· kernel_rfl))
  (repeat((conv=>whnf);first|apply ω0|apply ω2|refine τ3 rfl ?_|refine τ4 rfl ?_|refine ⟨rfl,?_⟩|apply τa|refine τb rfl ?_|refine ⟨⟨by kernel_rfl,by kernel_rfl⟩,?_⟩|refine ⟨by decide,?_⟩|apply τt|apply τf))
  refine AW.le (E' := mk 33 [(0, .bp (1, s1) 0)] ⟨[((1, s1), .c [.v (.int .u64 (bitsI .xor .u64 z (IntKind.u64.wrap (z * 2 ^ min (Int.toNat 13) IntKind.u64.bits))))]), ((0, s), .c R)], [], nx, 2⟩) (ele_tell _ _ rfl rfl (List.Sublist.refl _) .slnil (BxLe.refl _) trivial ⟨AVle.refl _, trivial⟩) ?_
  generalize bitsI .xor .u64 z (IntKind.u64.wrap (z * 2 ^ min (Int.toNat 13) IntKind.u64.bits)) = z1
  (refine aw_draw 9 ?_ ?_ ?_ ?_; (· kernel_rfl); (· kernel_rfl); (· kernel_rfl))
  (repeat((conv=>whnf);first|apply ω0|apply ω2|refine τ3 rfl ?_|refine τ4 rfl ?_|refine ⟨rfl,?_⟩|apply τa|refine τb rfl ?_|refine ⟨⟨by kernel_rfl,by kernel_rfl⟩,?_⟩|refine ⟨by decide,?_⟩|apply τt|apply τf))
  refine AW.le (E' := mk 33 [(0, .bp (1, s1) 0)] ⟨[((1, s1), .c [.v (.int .u64 (bitsI .xor .u64 z1 (z1.fdiv (2 ^ min (Int.toNat 7) IntKind.u64.bits))))]), ((0, s), .c R)], [], nx, 2⟩) (ele_tell _ _ rfl rfl (List.Sublist.refl _) .slnil (BxLe.refl _) trivial ⟨AVle.refl _, trivial⟩) ?_
  generalize bitsI .xor .u64 z1 (z1.fdiv (2 ^ min (Int.toNat 7) IntKind.u64.bits)) = z2
  (refine aw_draw 9 ?_ ?_ ?_ ?_; (· kernel_rfl); (· kernel_rfl); (· kernel_rfl))
  (repeat((conv=>whnf);first|apply ω0|apply ω2|refine τ3 rfl ?_|refine τ4 rfl ?_|refine ⟨rfl,?_⟩|apply τa|refine τb rfl ?_|refine ⟨⟨by kernel_rfl,by kernel_rfl⟩,?_⟩|refine ⟨by decide,?_⟩|apply τt|apply τf))
  refine AW.le (E' := mk 33 [(0, .bp (1, s1) 0)] ⟨[((1, s1), .c [.v (.int .u64 (bitsI .xor .u64 z2 (IntKind.u64.wrap (z2 * 2 ^ min (Int.toNat 17) IntKind.u64.bits))))]), ((0, s), .c R)], [], nx, 2⟩) (ele_tell _ _ rfl rfl (List.Sublist.refl _) .slnil (BxLe.refl _) trivial ⟨AVle.refl _, trivial⟩) ?_
  generalize bitsI .xor .u64 z2 (IntKind.u64.wrap (z2 * 2 ^ min (Int.toNat 17) IntKind.u64.bits)) = z3
  (repeat((conv=>whnf);first|apply ω0|apply ω1|apply ω2|refine τ3 rfl ?_|refine τ4 rfl ?_|refine ⟨rfl,?_⟩|apply τa|refine τb rfl ?_|refine ⟨⟨by kernel_rfl,by kernel_rfl⟩,?_⟩|refine ⟨by decide,?_⟩|apply τt|apply τf))
  exact ret_is rfl ⟨_, _, AVle.refl _, HLe.refl _, z3, nx, 2, rfl, rfl⟩
end Go.Proofs.W

namespace Go.Proofs.W
open Go.Vl
set_option maxRecDepth 100000

/-- How numbers stand; the first that is not 0. -/
def cmpN (a b : Int) : Int := if a < b then -1 else if b < a then 1 else 0
def orL : List Int → Int
  | [] => 0
  | x :: l => if x = 0 then orL l else x
theorem cmpInt_spec (a b : Int) : Tells Tryz.prog 88 [int a, int b] (int (cmpN a b)) := by
  have hn : ∀ z : Int, Tells Tryz.prog 128 [int z] (boolA false) := fun z => by
    refine tells_of_aw Tryz.func128 rfl rfl fun nx => ?_
    (repeat((conv=>whnf);first|apply ω0|apply ω1|apply ω2|refine τ3 rfl ?_|refine τ4 rfl ?_|refine ⟨rfl,?_⟩|apply τa|refine τb rfl ?_|refine ⟨⟨by kernel_rfl,by kernel_rfl⟩,?_⟩|refine ⟨by decide,?_⟩|apply τt|apply τf))
    (intro c hc; (first | (rw [bne_self_eq_false] at hc; subst hc) | (obtain rfl : c = false := hc.trans (bne_self_eq_false _))); (repeat((conv=>whnf);first|apply ω0|apply ω1|apply ω2|refine τ3 rfl ?_|refine τ4 rfl ?_|refine ⟨rfl,?_⟩|apply τa|refine τb rfl ?_|refine ⟨⟨by kernel_rfl,by kernel_rfl⟩,?_⟩|refine ⟨by decide,?_⟩|apply τt|apply τf)))
    exact ret_tells rfl (AVle.refl _)
  refine tells_of_aw Tryz.func88 rfl rfl fun nx => ?_
  (repeat((conv=>whnf);first|apply ω0|apply ω1|apply ω2|refine τ3 rfl ?_|refine τ4 rfl ?_|refine ⟨rfl,?_⟩|apply τa|refine τb rfl ?_|refine ⟨⟨by kernel_rfl,by kernel_rfl⟩,?_⟩|refine ⟨by decide,?_⟩|apply τt|apply τf))
  refine aop_tells rfl rfl (hn a) ⟨AVle.refl _, trivial⟩ fun nx1 => ?_
  (repeat((conv=>whnf);first|apply ω0|apply ω1|apply ω2|refine τ3 rfl ?_|refine τ4 rfl ?_|refine ⟨rfl,?_⟩|apply τa|refine τb rfl ?_|refine ⟨⟨by kernel_rfl,by kernel_rfl⟩,?_⟩|refine ⟨by decide,?_⟩|apply τt|apply τf))
  refine aop_tells rfl rfl (hn b) ⟨AVle.refl _, trivial⟩ fun nx2 => ?_
  (repeat((conv=>whnf);first|apply ω0|apply ω1|apply ω2|refine τ3 rfl ?_|refine τ4 rfl ?_|refine ⟨rfl,?_⟩|apply τa|refine τb rfl ?_|refine ⟨⟨by kernel_rfl,by kernel_rfl⟩,?_⟩|refine ⟨by decide,?_⟩|apply τt|apply τf))
  intro c h; cases c
  · have h := not_of h
    (repeat((conv=>whnf);first|apply ω0|apply ω1|apply ω2|refine τ3 rfl ?_|refine τ4 rfl ?_|refine ⟨rfl,?_⟩|apply τa|refine τb rfl ?_|refine ⟨⟨by kernel_rfl,by kernel_rfl⟩,?_⟩|refine ⟨by decide,?_⟩|apply τt|apply τf))
    intro c g; cases c
    · have g := not_of g
      (repeat((conv=>whnf);first|apply ω0|apply ω1|apply ω2|refine τ3 rfl ?_|refine τ4 rfl ?_|refine ⟨rfl,?_⟩|apply τa|refine τb rfl ?_|refine ⟨⟨by kernel_rfl,by kernel_rfl⟩,?_⟩|refine ⟨by decide,?_⟩|apply τt|apply τf))
      exact ret_tells rfl (le_int (by unfold cmpN; rw [if_neg h, if_neg g]))
    · have g := yes_of g
      (repeat((conv=>whnf);first|apply ω0|apply ω1|apply ω2|refine τ3 rfl ?_|refine τ4 rfl ?_|refine ⟨rfl,?_⟩|apply τa|refine τb rfl ?_|refine ⟨⟨by kernel_rfl,by kernel_rfl⟩,?_⟩|refine ⟨by decide,?_⟩|apply τt|apply τf))
      exact ret_tells rfl (le_int (by unfold cmpN; rw [if_neg h, if_pos g]))
  · have h := yes_of h
    (repeat((conv=>whnf);first|apply ω0|apply ω1|apply ω2|refine τ3 rfl ?_|refine τ4 rfl ?_|refine ⟨rfl,?_⟩|apply τa|refine τb rfl ?_|refine ⟨⟨by kernel_rfl,by kernel_rfl⟩,?_⟩|refine ⟨by decide,?_⟩|apply τt|apply τf))
    exact ret_tells rfl (le_int (by unfold cmpN; rw [if_pos h]))
theorem cmpU64_spec (a b : Nat) : Tells Tryz.prog 89 [u64 a, u64 b] (int (cmpN a b)) := by
  have hn : ∀ z : Nat, Tells Tryz.prog 129 [u64 z] (boolA false) := fun z => by
    refine tells_of_aw Tryz.func129 rfl rfl fun nx => ?_
    (repeat((conv=>whnf);first|apply ω0|apply ω1|apply ω2|refine τ3 rfl ?_|refine τ4 rfl ?_|refine ⟨rfl,?_⟩|apply τa|refine τb rfl ?_|refine ⟨⟨by kernel_rfl,by kernel_rfl⟩,?_⟩|refine ⟨by decide,?_⟩|apply τt|apply τf))
    (intro c hc; (first | (rw [bne_self_eq_false] at hc; subst hc) | (obtain rfl : c = false := hc.trans (bne_self_eq_false _))); (repeat((conv=>whnf);first|apply ω0|apply ω1|apply ω2|refine τ3 rfl ?_|refine τ4 rfl ?_|refine ⟨rfl,?_⟩|apply τa|refine τb rfl ?_|refine ⟨⟨by kernel_rfl,by kernel_rfl⟩,?_⟩|refine ⟨by decide,?_⟩|apply τt|apply τf)))
    exact ret_tells rfl (AVle.refl _)
  refine tells_of_aw Tryz.func89 rfl rfl fun nx => ?_
  (repeat((conv=>whnf);first|apply ω0|apply ω1|apply ω2|refine τ3 rfl ?_|refine τ4 rfl ?_|refine ⟨rfl,?_⟩|apply τa|refine τb rfl ?_|refine ⟨⟨by kernel_rfl,by kernel_rfl⟩,?_⟩|refine ⟨by decide,?_⟩|apply τt|apply τf))
  refine aop_tells rfl rfl (hn a) ⟨AVle.refl _, trivial⟩ fun nx1 => ?_
  (repeat((conv=>whnf);first|apply ω0|apply ω1|apply ω2|refine τ3 rfl ?_|refine τ4 rfl ?_|refine ⟨rfl,?_⟩|apply τa|refine τb rfl ?_|refine ⟨⟨by kernel_rfl,by kernel_rfl⟩,?_⟩|refine ⟨by decide,?_⟩|apply τt|apply τf))
  refine aop_tells rfl rfl (hn b) ⟨AVle.refl _, trivial⟩ fun nx2 => ?_
  (repeat((conv=>whnf);first|apply ω0|apply ω1|apply ω2|refine τ3 rfl ?_|refine τ4 rfl ?_|refine ⟨rfl,?_⟩|apply τa|refine τb rfl ?_|refine ⟨⟨by kernel_rfl,by kernel_rfl⟩,?_⟩|refine ⟨by decide,?_⟩|apply τt|apply τf))
  intro c h; cases c
  · have h := not_of h
    (repeat((conv=>whnf);first|apply ω0|apply ω1|apply ω2|refine τ3 rfl ?_|refine τ4 rfl ?_|refine ⟨rfl,?_⟩|apply τa|refine τb rfl ?_|refine ⟨⟨by kernel_rfl,by kernel_rfl⟩,?_⟩|refine ⟨by decide,?_⟩|apply τt|apply τf))
    intro c g; cases c
    · have g := not_of g
      (repeat((conv=>whnf);first|apply ω0|apply ω1|apply ω2|refine τ3 rfl ?_|refine τ4 rfl ?_|refine ⟨rfl,?_⟩|apply τa|refine τb rfl ?_|refine ⟨⟨by kernel_rfl,by kernel_rfl⟩,?_⟩|refine ⟨by decide,?_⟩|apply τt|apply τf))
      exact ret_tells rfl (le_int (by unfold cmpN; rw [if_neg h, if_neg g]))
    · have g := yes_of g
      (repeat((conv=>whnf);first|apply ω0|apply ω1|apply ω2|refine τ3 rfl ?_|refine τ4 rfl ?_|refine ⟨rfl,?_⟩|apply τa|refine τb rfl ?_|refine ⟨⟨by kernel_rfl,by kernel_rfl⟩,?_⟩|refine ⟨by decide,?_⟩|apply τt|apply τf))
      exact ret_tells rfl (le_int (by unfold cmpN; rw [if_neg h, if_pos g]))
  · have h := yes_of h
    (repeat((conv=>whnf);first|apply ω0|apply ω1|apply ω2|refine τ3 rfl ?_|refine τ4 rfl ?_|refine ⟨rfl,?_⟩|apply τa|refine τb rfl ?_|refine ⟨⟨by kernel_rfl,by kernel_rfl⟩,?_⟩|refine ⟨by decide,?_⟩|apply τt|apply τf))
    exact ret_tells rfl (le_int (by unfold cmpN; rw [if_pos h]))
theorem orL_at {l : List Int} {i : Nat} (hi : i < l.length) (h : ∀ j, j < i → l.getD j 0 = 0) (hx : l.getD i 0 ≠ 0) : orL l = l.getD i 0 := by
  induction l generalizing i with
  | nil => cases hi
  | cons x l ih =>
    cases i with
    | zero => simp at hx; simp [orL, hx]
    | succ i =>
      have h0 : x = 0 := by simpa using h 0 (by omega)
      simp only [orL, h0, if_true]
      rw [ih (i := i) (by simpa using hi) (fun j hj => by simpa using h (j + 1) (by omega)) (by simpa using hx)]
      simp
theorem orL_none {l : List Int} (h : ∀ j, j < l.length → l.getD j 0 = 0) : orL l = 0 := by
  induction l with
  | nil => rfl
  | cons x l ih =>
    have h0 : x = 0 := by simpa using h 0 (by simp)
    simp only [orL, h0, if_true]
    exact ih (fun j hj => by simpa using h (j + 1) (by simpa using hj))
theorem or_spec (l : List Int) (hl : l.length ≤ 1000000) : Tells Tryz.prog 87 [slOf 1 int 0 l] (int (orL l)) := by
  refine tells_of_aw Tryz.func87 rfl rfl fun nx => ?_
  (repeat((conv=>whnf);first|apply ω0|apply ω1|apply ω2|refine τ3 rfl ?_|refine τ4 rfl ?_|refine ⟨rfl,?_⟩|apply τa|refine τb rfl ?_|refine ⟨⟨by kernel_rfl,by kernel_rfl⟩,?_⟩|refine ⟨by decide,?_⟩|apply τt|apply τf))
  refine aw_loop (fun s : Nat × Nat => mk 18 [(3, int 0), (6, slOf 1 int 0 l), (7, int l.length), (8, int s.1)] ⟨[], [], s.2, 0⟩) (fun s => s.1 ≤ l.length ∧ ∀ j, j < s.1 → l.getD j 0 = 0) (fun s => l.length - s.1) ?_ ?_
  · exact ⟨(0, nx), ⟨by simp, by intro j hj; simp at hj⟩, ele_mk rfl rfl ⟨AVle.refl _, AVle.refl _, AVle.refl _, AVle.refl _, trivial⟩⟩
  · rintro ⟨i, nx⟩ ⟨h1, h2⟩
    dsimp only at h1 h2
    (repeat((conv=>whnf);first|apply ω0|apply ω1|apply ω2|refine τ3 rfl ?_|refine τ4 rfl ?_|refine ⟨rfl,?_⟩|apply τa|refine τb rfl ?_|refine ⟨⟨by kernel_rfl,by kernel_rfl⟩,?_⟩|refine ⟨by decide,?_⟩|apply τt|apply τf))
    intro c h3; cases c
    · have h3 := not_of h3
      dsimp only at h3
      (repeat((conv=>whnf);first|apply ω0|apply ω1|apply ω2|refine τ3 rfl ?_|refine τ4 rfl ?_|refine ⟨rfl,?_⟩|apply τa|refine τb rfl ?_|refine ⟨⟨by kernel_rfl,by kernel_rfl⟩,?_⟩|refine ⟨by decide,?_⟩|apply τt|apply τf))
      exact ret_tells rfl (le_int (orL_none (fun j hj => h2 j (by omega))).symm)
    · have h3 := yes_of h3
      dsimp only at h3
      have hi : i < l.length := by omega
      (repeat((conv=>whnf);first|apply ω0|apply ω1|apply ω2|refine τ3 rfl ?_|refine τ4 rfl ?_|refine ⟨rfl,?_⟩|apply τa|refine τb rfl ?_|refine ⟨⟨by kernel_rfl,by kernel_rfl⟩,?_⟩|refine ⟨by decide,?_⟩|apply τt|apply τf))
      refine ⟨⟨by first | omega | (dsimp only; omega), by first | omega | (dsimp only; omega)⟩, ?_⟩
      (repeat((conv=>whnf);first|apply ω0|apply ω1|apply ω2|refine τ3 rfl ?_|refine τ4 rfl ?_|refine ⟨rfl,?_⟩|apply τa|refine τb rfl ?_|refine ⟨⟨by kernel_rfl,by kernel_rfl⟩,?_⟩|refine ⟨by decide,?_⟩|apply τt|apply τf))
      intro c h4; cases c
      · have h4 : l.getD i 0 = 0 := by simpa using h4
        (repeat((conv=>whnf);first|apply ω0|apply ω1|apply ω2|refine τ3 rfl ?_|refine τ4 rfl ?_|refine ⟨rfl,?_⟩|apply τa|refine τb rfl ?_|refine ⟨⟨by kernel_rfl,by kernel_rfl⟩,?_⟩|refine ⟨by decide,?_⟩|apply τt|apply τf))
        exact back (i + 1, nx) ⟨hi, fun j hj => by rcases Nat.lt_or_ge j i with q | q; exact h2 j q; rw [show j = i by omega]; exact h4⟩ (by dsimp only; omega) (ele_mk rfl rfl ⟨AVle.refl _, AVle.refl _, AVle.refl _, le_int (wrap_succ (by dsimp only; omega)), trivial⟩)
      · have h4 : l.getD i 0 ≠ 0 := by simpa using h4
        (repeat((conv=>whnf);first|apply ω0|apply ω1|apply ω2|refine τ3 rfl ?_|refine τ4 rfl ?_|refine ⟨rfl,?_⟩|apply τa|refine τb rfl ?_|refine ⟨⟨by kernel_rfl,by kernel_rfl⟩,?_⟩|refine ⟨by decide,?_⟩|apply τt|apply τf))
        exact ret_tells rfl (le_int (orL_at hi h2 h4).symm)
def ordC (a b : Cnd) : Int := orL [cmpN a.arg b.arg, cmpN a.op b.op, cmpN a.mask b.mask, cmpN a.value b.value]
theorem order_spec (a b : Cnd) : Tells Tryz.prog 52 [cndA a, cndA b] (int (ordC a b)) := by
  refine tells_of_aw Tryz.func52 rfl rfl fun nx => ?_
  (repeat((conv=>whnf);first|apply ω0|apply ω1|apply ω2|refine τ3 rfl ?_|refine τ4 rfl ?_|refine ⟨rfl,?_⟩|apply τa|refine τb rfl ?_|refine ⟨⟨by kernel_rfl,by kernel_rfl⟩,?_⟩|refine ⟨by decide,?_⟩|apply τt|apply τf))
  (refine aw_draw 22 ?_ ?_ ?_ ?_; (· kernel_rfl); (· kernel_rfl); (· kernel_rfl))
  (repeat((conv=>whnf);first|apply ω0|apply ω1|apply ω2|refine τ3 rfl ?_|refine τ4 rfl ?_|refine ⟨rfl,?_⟩|apply τa|refine τb rfl ?_|refine ⟨⟨by kernel_rfl,by kernel_rfl⟩,?_⟩|refine ⟨by decide,?_⟩|apply τt|apply τf))
  refine ex_yields (yields_tells rfl rfl (cmpInt_spec a.arg b.arg) ⟨AVle.refl _, AVle.refl _, trivial⟩ (NoId.v _)) ?_
  (repeat((conv=>whnf);first|apply ω0|apply ω1|apply ω2|refine τ3 rfl ?_|refine τ4 rfl ?_|refine ⟨rfl,?_⟩|apply τa|refine τb rfl ?_|refine ⟨⟨by kernel_rfl,by kernel_rfl⟩,?_⟩|refine ⟨by decide,?_⟩|apply τt|apply τf))
  refine ex_yields (yields_tells rfl rfl (cmpInt_spec a.op b.op) ⟨AVle.refl _, AVle.refl _, trivial⟩ (NoId.v _)) ?_
  (repeat((conv=>whnf);first|apply ω0|apply ω1|apply ω2|refine τ3 rfl ?_|refine τ4 rfl ?_|refine ⟨rfl,?_⟩|apply τa|refine τb rfl ?_|refine ⟨⟨by kernel_rfl,by kernel_rfl⟩,?_⟩|refine ⟨by decide,?_⟩|apply τt|apply τf))
  refine ex_yields (yields_tells rfl rfl (cmpU64_spec a.mask b.mask) ⟨AVle.refl _, AVle.refl _, trivial⟩ (NoId.v _)) ?_
  (repeat((conv=>whnf);first|apply ω0|apply ω1|apply ω2|refine τ3 rfl ?_|refine τ4 rfl ?_|refine ⟨rfl,?_⟩|apply τa|refine τb rfl ?_|refine ⟨⟨by kernel_rfl,by kernel_rfl⟩,?_⟩|refine ⟨by decide,?_⟩|apply τt|apply τf))
  refine ex_yields (yields_tells rfl rfl (cmpU64_spec a.value b.value) ⟨AVle.refl _, AVle.refl _, trivial⟩ (NoId.v _)) ?_
  (repeat((conv=>whnf);first|apply ω0|apply ω1|apply ω2|refine τ3 rfl ?_|refine τ4 rfl ?_|refine ⟨rfl,?_⟩|apply τa|refine τb rfl ?_|refine ⟨⟨by kernel_rfl,by kernel_rfl⟩,?_⟩|refine ⟨by decide,?_⟩|apply τt|apply τf))
  refine ex_yields (yields_tells rfl rfl (or_spec [cmpN a.arg b.arg, cmpN a.op b.op, cmpN a.mask b.mask, cmpN a.value b.value] (by show 4 ≤ 1000000; omega)) ⟨?_, trivial⟩ (NoId.v _)) ?_
  · (conv => arg 1; whnf)
    refine AVle.trans AVle.os_sl (AVle.sl_fun fun k hk => ?_)
    rcases (show k = 0 ∨ k = 1 ∨ k = 2 ∨ k = 3 by have hk : k < 4 := hk; omega) with rfl | rfl | rfl | rfl <;> rfl
  (repeat((conv=>whnf);first|apply ω0|apply ω1|apply ω2|refine τ3 rfl ?_|refine τ4 rfl ?_|refine ⟨rfl,?_⟩|apply τa|refine τb rfl ?_|refine ⟨⟨by kernel_rfl,by kernel_rfl⟩,?_⟩|refine ⟨by decide,?_⟩|apply τt|apply τf))
  exact ret_tells rfl (AVle.refl _)
end Go.Proofs.W

namespace Go.Proofs.W
open Go.Vl
set_option maxRecDepth 100000

instance : Inhabited Cnd := ⟨cnd0⟩
def eC (c : Cnd) : List AV := [int c.arg, int c.op, u64 c.mask, u64 c.value]
theorem eC_len (x : Cnd) : (eC x).length = 4 := rfl
theorem c_cnd : Tryz.prog.cellsOf 51 = 4 := by kernel_rfl
theorem u_cnd : (Tryz.prog.underlying 51).map agD = some true := by kernel_rfl
def rowHC (s : Nat) (d : Array Cnd) (tl : List AV) : List (Vl.Id × Own) := [((0, s), .c (rowK eC d tl))]
set_option maxHeartbeats 4000000 in
theorem ins_cnd (f : Nat) (lt : Cnd → Cnd → Bool) (cf : Cnd → Cnd → Int) (hf : ∀ a b, Tells Tryz.prog f [cndA a, cndA b] (int (cf a b))) (hlt : ∀ a b, lt a b = decide (cf a b < 0)) (d0 : Array Cnd) (tl : List AV) (n a b : Nat) (hn : d0.size = n) (hab : a ≤ b) (hb : b ≤ n) (hsz : n ≤ 1000000) (s cap nx : Nat) :
    ECall Tryz.prog 118 [.hs (0, s) 0 n cap, int a, int b, fn0 f] ⟨rowHC s d0 tl, [], nx, 1⟩ (fun r h' => ∃ nx' nn', h' = ⟨rowHC s (Go.Sort.insertionSort lt d0 a b) tl, [], nx', nn'⟩) := by
  refine ECall.wk (ecall_of_aw Tryz.func118 rfl rfl ?_)
  (repeat((conv=>whnf);first|apply ω0|apply ω1|apply ω2|refine τ3 rfl ?_|refine τ4 rfl ?_|refine ⟨rfl,?_⟩|apply τa|refine τb rfl ?_|refine ⟨⟨by kernel_rfl,by kernel_rfl⟩,?_⟩|refine ⟨by decide,?_⟩|apply τt|apply τf))
  refine aw_loop (fun y : Array Cnd × Nat × Nat => mk 53 [(0, .hs (0, s) 0 n cap), (1, int a), (2, int b), (3, fn0 f), (8, int y.2.1)] ⟨rowHC s y.1 tl, [], y.2.2, 1⟩) (fun y => y.1.size = n ∧ a + 1 ≤ y.2.1 ∧ y.2.1 ≤ b + 1 ∧ Go.Sort.insOuter lt a b y.2.1 y.1 = Go.Sort.insertionSort lt d0 a b) (fun y => b + 1 - y.2.1) ?_ ?_
  · exact ⟨(d0, a + 1, nx), ⟨hn, Nat.le_refl _, by dsimp only; omega, rfl⟩, ele_tell _ _ rfl rfl (List.Sublist.refl _) .slnil (BxLe.refl _) trivial ⟨AVle.refl _, AVle.refl _, AVle.refl _, AVle.refl _, le_int (wrap_succ (by first | omega | (dsimp only; omega))), trivial⟩⟩
  · rintro ⟨d, i, nx1⟩ ⟨h1, h2, h3, h4⟩
    dsimp only at h1 h2 h3 h4
    (repeat((conv=>whnf);first|apply ω0|apply ω1|apply ω2|refine τ3 rfl ?_|refine τ4 rfl ?_|refine ⟨rfl,?_⟩|apply τa|refine τb rfl ?_|refine ⟨⟨by kernel_rfl,by kernel_rfl⟩,?_⟩|refine ⟨by decide,?_⟩|apply τt|apply τf))
    intro c g; cases c
    · have g := not_of g
      try dsimp only at g
      rw [Go.Sort.insOuter, if_neg (by omega)] at h4
      subst h4
      (repeat((conv=>whnf);first|apply ω0|apply ω1|apply ω2|refine τ3 rfl ?_|refine τ4 rfl ?_|refine ⟨rfl,?_⟩|apply τa|refine τb rfl ?_|refine ⟨⟨by kernel_rfl,by kernel_rfl⟩,?_⟩|refine ⟨by decide,?_⟩|apply τt|apply τf))
      exact ret_is rfl ⟨_, _, AVle.refl _, hle_tell (rowHC s (Go.Sort.insertionSort lt d0 a b) tl) [] rfl (List.Sublist.refl _) .slnil (BxLe.refl _) (PmEq.refl _), _, 1, rfl⟩
    · have g := yes_of g
      try dsimp only at g
      have hi : i < b := by omega
      rw [Go.Sort.insOuter, if_pos hi] at h4
      (repeat((conv=>whnf);first|apply ω0|apply ω1|apply ω2|refine τ3 rfl ?_|refine τ4 rfl ?_|refine ⟨rfl,?_⟩|apply τa|refine τb rfl ?_|refine ⟨⟨by kernel_rfl,by kernel_rfl⟩,?_⟩|refine ⟨by decide,?_⟩|apply τt|apply τf))
      refine aw_loop (fun y : Array Cnd × Nat × Nat => mk 53 [(0, .hs (0, s) 0 n cap), (1, int a), (2, int b), (3, fn0 f), (8, int i), (9, int y.2.1)] ⟨rowHC s y.1 tl, [], y.2.2, 1⟩) (fun y => y.1.size = n ∧ y.2.1 ≤ i ∧ Go.Sort.insInner lt a y.2.1 y.1 = Go.Sort.insInner lt a i d) (fun y => y.2.1) ?_ ?_
      · exact ⟨(d, i, nx1), ⟨h1, Nat.le_refl _, rfl⟩, ele_tell _ _ rfl rfl (List.Sublist.refl _) .slnil (BxLe.refl _) trivial ⟨AVle.refl _, AVle.refl _, AVle.refl _, AVle.refl _, AVle.refl _, AVle.refl _, trivial⟩⟩
      · rintro ⟨e, j, nx2⟩ ⟨k1, k2, k3⟩
        dsimp only at k1 k2 k3
        by_cases hja : a < j
        · have hd : decide ((j : Int) > (a : Int)) = true := decide_eq_true (by omega)
          have hj1 : IntKind.i64.wrap ((j : Int) - 1) = ((j - 1 : Nat) : Int) := by rw [wrap_id (by omega) (by omega)]; omega
          (repeat((conv=>whnf);first|apply ω0|apply ω1|apply ω2|refine τ3 rfl ?_|refine τ4 rfl ?_|refine ⟨rfl,?_⟩|apply τa|refine τb rfl ?_|refine ⟨⟨by kernel_rfl,by kernel_rfl⟩,?_⟩|refine ⟨by decide,?_⟩|apply τt|apply τf))
          (refine aw_draw 16 ?_ ?_ ?_ ?_; (· kernel_rfl); (· kernel_rfl); (· kernel_rfl))
          (repeat((conv=>whnf);first|apply ω0|apply ω1|apply ω2|refine τ3 rfl ?_|refine τ4 rfl ?_|refine ⟨rfl,?_⟩|apply τa|refine τb rfl ?_|refine ⟨⟨by kernel_rfl,by kernel_rfl⟩,?_⟩|refine ⟨by decide,?_⟩|apply τt|apply τf))
          (conv => whnf)
          refine lit_eq hd ?_
          (repeat((conv=>whnf);first|apply ω0|apply ω1|apply ω2|refine τ3 rfl ?_|refine τ4 rfl ?_|refine ⟨rfl,?_⟩|apply τa|refine τb rfl ?_|refine ⟨⟨by kernel_rfl,by kernel_rfl⟩,?_⟩|refine ⟨by decide,?_⟩|apply τt|apply τf))
          refine ⟨⟨ixge (i := j) (rfl), ixlt (i := j) (rfl) (by omega)⟩, splitO_eq (b := .bp (0, s) (j * 4)) (congrArg (AV.bp (0, s)) (ixoK (i := j) c_cnd (rfl))) ?_⟩
          (conv => whnf)
          generalize hX : apure _ _ _ = X
          have hX2 : X = some (some (s = s), .ag (eC e[j]!)) := hX.symm.trans (apure_rowK eC_len (E := eC) (d := e) (tl := tl) (j := j) rfl rfl rfl rfl u_cnd c_cnd (by omega))
          clear hX; subst hX2
          refine ⟨rfl, ?_⟩
          (repeat((conv=>whnf);first|apply ω0|apply ω1|apply ω2|refine τ3 rfl ?_|refine τ4 rfl ?_|refine ⟨rfl,?_⟩|apply τa|refine τb rfl ?_|refine ⟨⟨by kernel_rfl,by kernel_rfl⟩,?_⟩|refine ⟨by decide,?_⟩|apply τt|apply τf))
          refine ⟨⟨ixge (i := j - 1) (hj1), ixlt (i := j - 1) (hj1) (by omega)⟩, splitO_eq (b := .bp (0, s) ((j - 1) * 4)) (congrArg (AV.bp (0, s)) (ixoK (i := j - 1) c_cnd (hj1))) ?_⟩
          (conv => whnf)
          generalize hX : apure _ _ _ = X
          have hX2 : X = some (some (s = s), .ag (eC e[j - 1]!)) := hX.symm.trans (apure_rowK eC_len (E := eC) (d := e) (tl := tl) (j := j - 1) rfl rfl rfl rfl u_cnd c_cnd (by omega))
          clear hX; subst hX2
          refine ⟨rfl, ?_⟩
          (repeat((conv=>whnf);first|apply ω0|apply ω1|apply ω2|refine τ3 rfl ?_|refine τ4 rfl ?_|refine ⟨rfl,?_⟩|apply τa|refine τb rfl ?_|refine ⟨⟨by kernel_rfl,by kernel_rfl⟩,?_⟩|refine ⟨by decide,?_⟩|apply τt|apply τf))
          refine ex_yields (yields_tells rfl rfl (hf e[j]! e[j - 1]!) ⟨AVle.refl _, AVle.refl _, trivial⟩ (NoId.v _)) ?_
          (repeat((conv=>whnf);first|apply ω0|apply ω1|apply ω2|refine τ3 rfl ?_|refine τ4 rfl ?_|refine ⟨rfl,?_⟩|apply τa|refine τb rfl ?_|refine ⟨⟨by kernel_rfl,by kernel_rfl⟩,?_⟩|refine ⟨by decide,?_⟩|apply τt|apply τf))
          intro c hl; cases c
          · have hl : lt e[j]! e[j - 1]! = false := (hlt _ _).trans hl.symm
            rw [insG_end hl] at k3
            subst k3
            (repeat((conv=>whnf);first|apply ω0|apply ω1|apply ω2|refine τ3 rfl ?_|refine τ4 rfl ?_|refine ⟨rfl,?_⟩|apply τa|refine τb rfl ?_|refine ⟨⟨by kernel_rfl,by kernel_rfl⟩,?_⟩|refine ⟨by decide,?_⟩|apply τt|apply τf))
            exact back (_, i + 1, nx2) ⟨k1, by dsimp only; omega, by dsimp only; omega, h4⟩ (by dsimp only; omega) (ele_tell _ _ rfl rfl (List.Sublist.refl _) .slnil (BxLe.refl _) trivial ⟨AVle.refl _, AVle.refl _, AVle.refl _, AVle.refl _, le_int (wrap_succ (by first | omega | (dsimp only; omega))), trivial⟩)
          · have hl : lt e[j]! e[j - 1]! = true := (hlt _ _).trans hl.symm
            rw [insG_go hja hl] at k3
            (repeat((conv=>whnf);first|apply ω0|apply ω1|apply ω2|refine τ3 rfl ?_|refine τ4 rfl ?_|refine ⟨rfl,?_⟩|apply τa|refine τb rfl ?_|refine ⟨⟨by kernel_rfl,by kernel_rfl⟩,?_⟩|refine ⟨by decide,?_⟩|apply τt|apply τf))
            refine aw_mix3 18 (fun i => match i with | 15 => true | 17 => true | _ => false) (fun i => match i with | 9 => true | 13 => true | _ => false) [0, 1, 2, 3, 4, 5, 6, 7, 8, 10, 11, 12, 9, 13, 14, 15, 16, 17] (by kernel_rfl) (by kernel_rfl) ?_
            (conv => whnf)
            refine ⟨⟨ixge (i := j - 1) (hj1), ixlt (i := j - 1) (hj1) (by omega)⟩, ?_⟩
            (conv => whnf)
            refine ⟨⟨ixge (i := j) (rfl), ixlt (i := j) (rfl) (by omega)⟩, ?_⟩
            (conv => whnf)
            refine ⟨.ag (eC e[j - 1]!), now_rowK eC_len (E := eC) (d := e) (tl := tl) (j := j - 1) rfl rfl rfl (ixoK (i := j - 1) c_cnd (hj1)) rfl u_cnd c_cnd (by omega), ?_⟩
            (conv => whnf)
            refine ⟨.ag (eC e[j]!), now_rowK eC_len (E := eC) (d := e) (tl := tl) (j := j) rfl rfl rfl (ixoK (i := j) c_cnd (rfl)) rfl u_cnd c_cnd (by omega), ?_⟩
            (conv => whnf)
            refine ⟨⟨ixge (i := j) (rfl), ixlt (i := j) (rfl) (by omega)⟩, ?_⟩
            (conv => whnf)
            refine ⟨_, eff_rowK eC_len (E := eC) (d := e) (tl := tl) (j := j) (z := e[j - 1]!) rfl rfl rfl rfl (ixoK (i := j) c_cnd (rfl)) rfl rfl rfl rfl (by kernel_rfl) c_cnd (by omega), fun r0 h0 hr0 => ?_⟩
            subst hr0
            (conv => whnf)
            refine ⟨⟨ixge (i := j - 1) (hj1), ixlt (i := j - 1) (hj1) (by omega)⟩, ?_⟩
            (conv => whnf)
            refine ⟨_, eff_rowK eC_len (E := eC) (d := e.setIfInBounds j e[j - 1]!) (tl := tl) (j := j - 1) (z := e[j]!) rfl rfl rfl rfl (ixoK (i := j - 1) c_cnd (hj1)) rfl rfl rfl rfl (by kernel_rfl) c_cnd (by simp; omega), fun r0 h0 hr0 => ?_⟩
            subst hr0
            (repeat((conv=>whnf);first|apply ω0|apply ω1|apply ω2|refine τ3 rfl ?_|refine τ4 rfl ?_|refine ⟨rfl,?_⟩|apply τa|refine τb rfl ?_|refine ⟨⟨by kernel_rfl,by kernel_rfl⟩,?_⟩|refine ⟨by decide,?_⟩|apply τt|apply τf))
            exact back (Go.Sort.swp e j (j - 1), j - 1, nx2) ⟨by dsimp only; rw [← k1]; simp [Go.Sort.swp], by dsimp only; omega, k3⟩ (by dsimp only; omega) (ele_tell _ _ rfl rfl (List.Sublist.refl _) .slnil (BxLe.refl _) trivial ⟨AVle.refl _, AVle.refl _, AVle.refl _, AVle.refl _, AVle.refl _, le_int hj1, trivial⟩)
        · have hd : decide ((j : Int) > (a : Int)) = false := decide_eq_false (by omega)
          rw [insG_stop hja] at k3
          subst k3
          (repeat((conv=>whnf);first|apply ω0|apply ω1|apply ω2|refine τ3 rfl ?_|refine τ4 rfl ?_|refine ⟨rfl,?_⟩|apply τa|refine τb rfl ?_|refine ⟨⟨by kernel_rfl,by kernel_rfl⟩,?_⟩|refine ⟨by decide,?_⟩|apply τt|apply τf))
          (refine aw_draw 16 ?_ ?_ ?_ ?_; (· kernel_rfl); (· kernel_rfl); (· kernel_rfl))
          (repeat((conv=>whnf);first|apply ω0|apply ω1|apply ω2|refine τ3 rfl ?_|refine τ4 rfl ?_|refine ⟨rfl,?_⟩|apply τa|refine τb rfl ?_|refine ⟨⟨by kernel_rfl,by kernel_rfl⟩,?_⟩|refine ⟨by decide,?_⟩|apply τt|apply τf))
          (conv => whnf)
          refine lit_eq hd ?_
          (repeat((conv=>whnf);first|apply ω0|apply ω1|apply ω2|refine τ3 rfl ?_|refine τ4 rfl ?_|refine ⟨rfl,?_⟩|apply τa|refine τb rfl ?_|refine ⟨⟨by kernel_rfl,by kernel_rfl⟩,?_⟩|refine ⟨by decide,?_⟩|apply τt|apply τf))
          exact back (_, i + 1, nx2) ⟨k1, by dsimp only; omega, by dsimp only; omega, h4⟩ (by dsimp only; omega) (ele_tell _ _ rfl rfl (List.Sublist.refl _) .slnil (BxLe.refl _) trivial ⟨AVle.refl _, AVle.refl _, AVle.refl _, AVle.refl _, le_int (wrap_succ (by first | omega | (dsimp only; omega))), trivial⟩)
theorem pdq_cnd (f : Nat) (lt : Cnd → Cnd → Bool) (cf : Cnd → Cnd → Int) (hf : ∀ a b, Tells Tryz.prog f [cndA a, cndA b] (int (cf a b))) (hlt : ∀ a b, lt a b = decide (cf a b < 0)) (d0 : Array Cnd) (tl : List AV) (n : Nat) (hn : d0.size = n) (hsz : n ≤ 12) (s cap nx : Nat) (z : Int) :
    ECall Tryz.prog 85 [.hs (0, s) 0 n cap, int 0, int n, int z, fn0 f] ⟨rowHC s d0 tl, [], nx, 1⟩ (fun r h' => ∃ nx' nn', h' = ⟨rowHC s (Go.Sort.insertionSort lt d0 0 n) tl, [], nx', nn'⟩) := by
  refine ECall.wk (ecall_of_aw Tryz.func85 rfl rfl ?_)
  (repeat((conv=>whnf);first|apply ω0|apply ω1|apply ω2|refine τ3 rfl ?_|refine τ4 rfl ?_|refine ⟨rfl,?_⟩|apply τa|refine τb rfl ?_|refine ⟨⟨by kernel_rfl,by kernel_rfl⟩,?_⟩|refine ⟨by decide,?_⟩|apply τt|apply τf))
  refine aw_once ?_
  have hw : IntKind.i64.wrap ((n : Int) - 0) = (n : Int) := by rw [Int.sub_zero]; exact wrap_id (by omega) (by omega)
  (repeat((conv=>whnf);first|apply ω0|apply ω1|apply ω2|refine τ3 rfl ?_|refine τ4 rfl ?_|refine ⟨rfl,?_⟩|apply τa|refine τb rfl ?_|refine ⟨⟨by kernel_rfl,by kernel_rfl⟩,?_⟩|refine ⟨by decide,?_⟩|apply τt|apply τf))
  intro c hc
  have hc2 : c = true := hc.trans (decide_eq_true (by show IntKind.i64.wrap ((n : Int) - 0) ≤ 12; rw [hw]; omega))
  clear hc; subst hc2
  (repeat((conv=>whnf);first|apply ω0|apply ω1|apply ω2|refine τ3 rfl ?_|refine τ4 rfl ?_|refine ⟨rfl,?_⟩|apply τa|refine τb rfl ?_|refine ⟨⟨by kernel_rfl,by kernel_rfl⟩,?_⟩|refine ⟨by decide,?_⟩|apply τt|apply τf))
  refine aop_callF (xs := [.hs (0, s) 0 n cap, int ((0 : Nat) : Int), int n, fn0 f]) [] [] 1 rfl rfl rfl rfl ⟨AVle.refl _, AVle.refl _, AVle.refl _, AVle.refl _, trivial⟩ (ins_cnd f lt cf hf hlt d0 tl n 0 n hn (Nat.zero_le _) (Nat.le_refl _) (by omega) s cap _) (BxLe.refl _) (PmEq.refl _) rfl fun r h' hq => ?_
  obtain ⟨nx2, nn2, rfl⟩ := hq
  (repeat((conv=>whnf);first|apply ω0|apply ω1|apply ω2|refine τ3 rfl ?_|refine τ4 rfl ?_|refine ⟨rfl,?_⟩|apply τa|refine τb rfl ?_|refine ⟨⟨by kernel_rfl,by kernel_rfl⟩,?_⟩|refine ⟨by decide,?_⟩|apply τt|apply τf))
  exact ret_is rfl ⟨_, _, AVle.refl _, hle_tell (rowHC s (Go.Sort.insertionSort lt d0 0 n) tl) [] rfl (List.Sublist.refl _) .slnil (BxLe.refl _) (PmEq.refl _), _, 1, rfl⟩
theorem sortFunc_cnd (f : Nat) (lt : Cnd → Cnd → Bool) (cf : Cnd → Cnd → Int) (hf : ∀ a b, Tells Tryz.prog f [cndA a, cndA b] (int (cf a b))) (hlt : ∀ a b, lt a b = decide (cf a b < 0)) (d0 : Array Cnd) (tl : List AV) (n : Nat) (hn : d0.size = n) (hsz : n ≤ 12) (s cap nx : Nat) :
    ECall Tryz.prog 51 [.hs (0, s) 0 n cap, fn0 f] ⟨rowHC s d0 tl, [], nx, 1⟩ (fun r h' => ∃ nx' nn', h' = ⟨rowHC s (Go.Sort.insertionSort lt d0 0 n) tl, [], nx', nn'⟩) := by
  refine ECall.wk (ecall_of_aw Tryz.func51 rfl rfl ?_)
  (repeat((conv=>whnf);first|apply ω0|apply ω1|apply ω2|refine τ3 rfl ?_|refine τ4 rfl ?_|refine ⟨rfl,?_⟩|apply τa|refine τb rfl ?_|refine ⟨⟨by kernel_rfl,by kernel_rfl⟩,?_⟩|refine ⟨by decide,?_⟩|apply τt|apply τf))
  have hw : IntKind.u64.wrap (n : Int) = (n : Int) := by simp [IntKind.wrap, IntKind.bits, IntKind.signed]; omega
  refine aop_tells rfl rfl (bitsLen_spec n (by omega)) ⟨AVle.of_eq (congrArg (fun z : Int => AV.v (.int .u64 z)) hw), trivial⟩ fun nx1 => ?_
  (repeat((conv=>whnf);first|apply ω0|apply ω1|apply ω2|refine τ3 rfl ?_|refine τ4 rfl ?_|refine ⟨rfl,?_⟩|apply τa|refine τb rfl ?_|refine ⟨⟨by kernel_rfl,by kernel_rfl⟩,?_⟩|refine ⟨by decide,?_⟩|apply τt|apply τf))
  refine aop_callF (xs := [.hs (0, s) 0 n cap, int 0, int n, int (Lib.bitLen n), fn0 f]) [] [] 1 rfl rfl rfl rfl ⟨AVle.refl _, AVle.refl _, AVle.refl _, AVle.refl _, AVle.refl _, trivial⟩ (pdq_cnd f lt cf hf hlt d0 tl n hn hsz s cap _ _) (BxLe.refl _) (PmEq.refl _) rfl fun r h' hq => ?_
  obtain ⟨nx2, nn2, rfl⟩ := hq
  (repeat((conv=>whnf);first|apply ω0|apply ω1|apply ω2|refine τ3 rfl ?_|refine τ4 rfl ?_|refine ⟨rfl,?_⟩|apply τa|refine τb rfl ?_|refine ⟨⟨by kernel_rfl,by kernel_rfl⟩,?_⟩|refine ⟨by decide,?_⟩|apply τt|apply τf))
  exact ret_is rfl ⟨_, _, AVle.refl _, hle_tell (rowHC s (Go.Sort.insertionSort lt d0 0 n) tl) [] rfl (List.Sublist.refl _) .slnil (BxLe.refl _) (PmEq.refl _), _, 1, rfl⟩
end Go.Proofs.W

namespace Go.Proofs.W
open Go.Vl
set_option maxRecDepth 100000

/-- The first m of a row, each run of equal ones once. -/
def cU (d : Array Cnd) : Nat → List Cnd
  | 0 => []
  | m + 1 => if m = 0 ∨ d[m]! ≠ d[m - 1]! then cU d m ++ [d[m]!] else cU d m
theorem cU_le (d : Array Cnd) : ∀ m, (cU d m).length ≤ m
  | 0 => Nat.le_refl _
  | m + 1 => by
    have := cU_le d m
    unfold cU
    split
    · simp; omega
    · omega
theorem cU_whole {d : Array Cnd} : ∀ {m : Nat}, m ≤ d.size → (∀ j, 1 ≤ j → j < m → d[j]! ≠ d[j - 1]!) → cU d m = d.toList.take m
  | 0, _, _ => rfl
  | m + 1, hm, h => by
    have ih := cU_whole (m := m) (by omega) fun j h1 h2 => h j h1 (by omega)
    have hc : m = 0 ∨ d[m]! ≠ d[m - 1]! := by
      rcases Nat.eq_zero_or_pos m with h0 | h0
      · exact .inl h0
      · exact .inr (h m h0 (by omega))
    rw [cU, if_pos hc, ih, List.take_add_one, show d[m]! = d[m] by simp [show m < d.size by omega]]
    simp [show m < d.size by omega]
theorem cU_same {d : Array Cnd} {m : Nat} (h0 : m ≠ 0) (h : d[m]! = d[m - 1]!) : cU d (m + 1) = cU d m := by
  rw [cU, if_neg (by intro hh; rcases hh with hh | hh; exact h0 hh; exact hh h)]
theorem cU_next {d : Array Cnd} {m : Nat} (h : d[m]! ≠ d[m - 1]!) : cU d (m + 1) = cU d m ++ [d[m]!] := by
  rw [cU, if_pos (.inr h)]
theorem setB_get {d : Array Cnd} {i j : Nat} {x : Cnd} (hi : i < d.size) : (d.setIfInBounds i x)[j]! = if j = i then x else d[j]! := by
  by_cases h : j = i
  · subst h; simp [hi]
  · rw [if_neg h]
    by_cases hj : j < d.size
    · simp [hj, Array.getElem_setIfInBounds, Ne.symm h]
    · simp [hj]
theorem setB_take {d : Array Cnd} {k : Nat} {x : Cnd} (h : k < d.size) : (d.setIfInBounds k x).toList.take (k + 1) = d.toList.take k ++ [x] := by
  rw [Array.toList_setIfInBounds, List.take_add_one]
  simp [h, List.take_set_of_le]
theorem cndB {x y : Cnd} : (x.arg == y.arg && (x.op == y.op && ((x.mask : Int) == (y.mask : Int) && ((x.value : Int) == (y.value : Int) && true)))) = decide (x = y) := cnd_eqb
theorem rowK_cut {d : Array Cnd} {tl : List AV} {k : Nat} (h : k ≤ d.size) : splice (rowK eC d tl) (k * 4) (List.replicate ((d.size - k) * 4) .any) = rowK eC (d.toList.take k).toArray (List.replicate ((d.size - k) * 4) .any ++ tl) := by
  have e : d.toList = d.toList.take k ++ d.toList.drop k := (List.take_append_drop k d.toList).symm
  have e1 : ((d.toList.take k).flatMap eC).length = k * 4 := by rw [flatE_len eC_len]; simp [h]
  have e2 : ((d.toList.drop k).flatMap eC).length = (d.size - k) * 4 := by rw [flatE_len eC_len]; simp
  unfold rowK
  conv => lhs; rw [e]
  rw [List.flatMap_append, List.append_assoc, ← e1]
  have := splice_app (a := (d.toList.take k).flatMap eC) (b := (d.toList.drop k).flatMap eC ++ tl) (off := 0) (vs := List.replicate ((d.size - k) * 4) .any)
  rw [Nat.add_zero] at this
  rw [this, splice_whole (by rw [e2]; simp)]
def CompQ (d : Array Cnd) (n s cap : Nat) (r : AV) (h' : Heap) : Prop := ∃ tl' nx' nn', r = .hs (0, s) 0 (cU d n).length cap ∧ h' = ⟨rowHC s (cU d n).toArray tl', [], nx', nn'⟩
theorem compQ_cut {d : Array Cnd} {n s cap nx nn q : Nat} {tl : List AV} (h : (cU d n).length = q) : CompQ d n s cap (.hs (0, s) 0 q cap) ⟨rowHC s (cU d n).toArray tl, [], nx, nn⟩ := ⟨tl, nx, nn, by rw [h], rfl⟩
theorem own_eq {o o' : Own} (h : o = o') : OwnLe o o' := h ▸ OwnLe.refl _
theorem ixoS {x : Int} {i c k m : Nat} (hc : c = k) (h : x = (i : Int)) : m * c + x.toNat * c = (m + i) * k := by subst hc; subst h; simp [Nat.add_mul]
theorem compQ_all {d : Array Cnd} {n s cap nx nn : Nat} {tl : List AV} (hn : d.size = n) (e : cU d n = d.toList) : CompQ d n s cap (.hs (0, s) 0 n cap) ⟨rowHC s d tl, [], nx, nn⟩ := ⟨tl, nx, nn, by rw [e]; simp [hn], by rw [e]⟩
theorem z_cnd : ∃ z, (Tryz.prog.info? 51).bind (·.zero) = some z ∧ z.cells.size = Tryz.prog.cellsOf 51 ∧ z.cells.all (·.oneCell') = true := ⟨.agg #[.int .i64 0, .int .i64 0, .int .u64 0, .int .u64 0], by kernel_rfl, by kernel_rfl, by kernel_rfl⟩
set_option maxHeartbeats 4000000 in
theorem compact_cnd (d : Array Cnd) (tl : List AV) (n : Nat) (hn : d.size = n) (hn0 : 0 < n) (hsz : n ≤ 1000000) (s cap nx : Nat) (hcap : n ≤ cap) :
    ECall Tryz.prog 53 [.hs (0, s) 0 n cap] ⟨rowHC s d tl, [], nx, 1⟩ (CompQ d n s cap) := by
  refine ECall.wk (ecall_of_aw Tryz.func53 rfl rfl ?_)
  (repeat((conv=>whnf);first|apply ω0|apply ω1|apply ω2|refine τ3 rfl ?_|refine τ4 rfl ?_|refine ⟨rfl,?_⟩|apply τa|refine τb rfl ?_|refine ⟨⟨by kernel_rfl,by kernel_rfl⟩,?_⟩|refine ⟨by decide,?_⟩|apply τt|apply τf))
  intro c g; cases c
  rotate_left
  · have g := yes_of g
    try dsimp only at g
    have hn1 : n = 1 := by omega
    subst hn1
    have e : cU d 1 = d.toList := by
      rw [cU_whole (by omega) (fun j h1 h2 => by omega), List.take_of_length_le (by simp [hn])]
    (repeat((conv=>whnf);first|apply ω0|apply ω1|apply ω2|refine τ3 rfl ?_|refine τ4 rfl ?_|refine ⟨rfl,?_⟩|apply τa|refine τb rfl ?_|refine ⟨⟨by kernel_rfl,by kernel_rfl⟩,?_⟩|refine ⟨by decide,?_⟩|apply τt|apply τf))
    exact ret_is rfl ⟨_, _, AVle.refl _, hle_tell (nn := 1) (rowHC s d tl) [] rfl (List.Sublist.refl _) .slnil (BxLe.refl _) (PmEq.refl _), compQ_all hn e⟩
  have g := not_of g
  try dsimp only at g
  have hn2 : 2 ≤ n := by omega
  (repeat((conv=>whnf);first|apply ω0|apply ω1|apply ω2|refine τ3 rfl ?_|refine τ4 rfl ?_|refine ⟨rfl,?_⟩|apply τa|refine τb rfl ?_|refine ⟨⟨by kernel_rfl,by kernel_rfl⟩,?_⟩|refine ⟨by decide,?_⟩|apply τt|apply τf))
  refine aw_loop (fun y : Nat × Nat => mk 61 [(0, .hs (0, s) 0 n cap), (3, int y.1)] ⟨rowHC s d tl, [], y.2, 1⟩) (fun y => 1 ≤ y.1 ∧ y.1 ≤ n ∧ ∀ j, 1 ≤ j → j < y.1 → d[j]! ≠ d[j - 1]!) (fun y => n - y.1) ?_ ?_
  · exact ⟨(1, nx), ⟨Nat.le_refl _, by dsimp only; omega, fun j h1 h2 => absurd h2 (by dsimp only; omega)⟩, ele_tell _ _ rfl rfl (List.Sublist.refl _) .slnil (BxLe.refl _) trivial ⟨AVle.refl _, AVle.refl _, trivial⟩⟩
  · rintro ⟨k, nx1⟩ ⟨h1, h2, h3⟩
    dsimp only at h1 h2 h3
    (repeat((conv=>whnf);first|apply ω0|apply ω1|apply ω2|refine τ3 rfl ?_|refine τ4 rfl ?_|refine ⟨rfl,?_⟩|apply τa|refine τb rfl ?_|refine ⟨⟨by kernel_rfl,by kernel_rfl⟩,?_⟩|refine ⟨by decide,?_⟩|apply τt|apply τf))
    intro c g; cases c
    · have g := not_of g
      try dsimp only at g
      have hk : k = n := by omega
      subst hk
      have e : cU d k = d.toList := by
        rw [cU_whole (by omega) h3, List.take_of_length_le (by simp [hn])]
      (repeat((conv=>whnf);first|apply ω0|apply ω1|apply ω2|refine τ3 rfl ?_|refine τ4 rfl ?_|refine ⟨rfl,?_⟩|apply τa|refine τb rfl ?_|refine ⟨⟨by kernel_rfl,by kernel_rfl⟩,?_⟩|refine ⟨by decide,?_⟩|apply τt|apply τf))
      exact ret_is rfl ⟨_, _, AVle.refl _, hle_tell (nn := 1) (rowHC s d tl) [] rfl (List.Sublist.refl _) .slnil (BxLe.refl _) (PmEq.refl _), compQ_all hn e⟩
    · have g := yes_of g
      try dsimp only at g
      have hk : k < n := by omega
      have hk1 : IntKind.i64.wrap ((k : Int) - 1) = ((k - 1 : Nat) : Int) := by rw [wrap_id (by omega) (by omega)]; omega
      (repeat((conv=>whnf);first|apply ω0|apply ω1|apply ω2|refine τ3 rfl ?_|refine τ4 rfl ?_|refine ⟨rfl,?_⟩|apply τa|refine τb rfl ?_|refine ⟨⟨by kernel_rfl,by kernel_rfl⟩,?_⟩|refine ⟨by decide,?_⟩|apply τt|apply τf))
      (refine aw_draw 10 ?_ ?_ ?_ ?_; (· kernel_rfl); (· kernel_rfl); (· kernel_rfl))
      (repeat((conv=>whnf);first|apply ω0|apply ω1|apply ω2|refine τ3 rfl ?_|refine τ4 rfl ?_|refine ⟨rfl,?_⟩|apply τa|refine τb rfl ?_|refine ⟨⟨by kernel_rfl,by kernel_rfl⟩,?_⟩|refine ⟨by decide,?_⟩|apply τt|apply τf))
      refine ⟨⟨ixge (i := k) (rfl), ixlt (i := k) (rfl) (by omega)⟩, splitO_eq (b := .bp (0, s) (k * 4)) (congrArg (AV.bp (0, s)) (ixoK (i := k) c_cnd (rfl))) ?_⟩
      (conv => whnf)
      generalize hX : apure _ _ _ = X
      have hX2 : X = some (some (s = s), .ag (eC d[k]!)) := hX.symm.trans (apure_rowK eC_len (E := eC) (d := d) (tl := tl) (j := k) rfl rfl rfl rfl u_cnd c_cnd (by omega))
      clear hX; subst hX2
      refine ⟨rfl, ?_⟩
      (repeat((conv=>whnf);first|apply ω0|apply ω1|apply ω2|refine τ3 rfl ?_|refine τ4 rfl ?_|refine ⟨rfl,?_⟩|apply τa|refine τb rfl ?_|refine ⟨⟨by kernel_rfl,by kernel_rfl⟩,?_⟩|refine ⟨by decide,?_⟩|apply τt|apply τf))
      refine ⟨⟨ixge (i := k - 1) (hk1), ixlt (i := k - 1) (hk1) (by omega)⟩, splitO_eq (b := .bp (0, s) ((k - 1) * 4)) (congrArg (AV.bp (0, s)) (ixoK (i := k - 1) c_cnd (hk1))) ?_⟩
      (conv => whnf)
      generalize hX : apure _ _ _ = X
      have hX2 : X = some (some (s = s), .ag (eC d[k - 1]!)) := hX.symm.trans (apure_rowK eC_len (E := eC) (d := d) (tl := tl) (j := k - 1) rfl rfl rfl rfl u_cnd c_cnd (by omega))
      clear hX; subst hX2
      refine ⟨rfl, ?_⟩
      (repeat((conv=>whnf);first|apply ω0|apply ω1|apply ω2|refine τ3 rfl ?_|refine τ4 rfl ?_|refine ⟨rfl,?_⟩|apply τa|refine τb rfl ?_|refine ⟨⟨by kernel_rfl,by kernel_rfl⟩,?_⟩|refine ⟨by decide,?_⟩|apply τt|apply τf))
      intro c hc
      have hc2 : c = decide (d[k]! = d[k - 1]!) := hc.trans cndB
      clear hc
      cases c
      · have hne : ¬ d[k]! = d[k - 1]! := of_decide_eq_false hc2.symm
        (repeat((conv=>whnf);first|apply ω0|apply ω1|apply ω2|refine τ3 rfl ?_|refine τ4 rfl ?_|refine ⟨rfl,?_⟩|apply τa|refine τb rfl ?_|refine ⟨⟨by kernel_rfl,by kernel_rfl⟩,?_⟩|refine ⟨by decide,?_⟩|apply τt|apply τf))
        exact back (k + 1, nx1) ⟨by dsimp only; omega, hk, fun j q1 q2 => by dsimp only at q2; rcases Nat.lt_or_ge j k with q | q; exact h3 j q1 q; rw [show j = k by omega]; exact hne⟩ (by dsimp only; omega) (ele_tell _ _ rfl rfl (List.Sublist.refl _) .slnil (BxLe.refl _) trivial ⟨AVle.refl _, le_int (wrap_succ (by first | omega | (dsimp only; omega))), trivial⟩)
      · have heq : d[k]! = d[k - 1]! := of_decide_eq_true hc2.symm
        clear hc2
        have hU0 : cU d k = d.toList.take k := cU_whole (by omega) h3
        have hU1 : cU d (k + 1) = d.toList.take k := (cU_same (by omega) heq).trans hU0
        (repeat((conv=>whnf);first|apply ω0|apply ω2|refine τ3 rfl ?_|refine τ4 rfl ?_|refine ⟨rfl,?_⟩|apply τa|refine τb rfl ?_|refine ⟨⟨by kernel_rfl,by kernel_rfl⟩,?_⟩|refine ⟨by decide,?_⟩|apply τt|apply τf))
        refine aw_regionY (fun i => match i with | 1 => true | _ => false) 4 ?_
        (repeat((conv=>whnf);first|apply ω0|apply ω1|apply ω2|refine τ3 rfl ?_|refine τ4 rfl ?_|refine ⟨rfl,?_⟩|apply τa|refine τb rfl ?_|refine ⟨⟨by kernel_rfl,by kernel_rfl⟩,?_⟩|refine ⟨by decide,?_⟩|apply τt|apply τf))
        refine AOp.of_yields (yields_tailB (l := k) rfl rfl rfl Tryz.underlying45 Tryz.underlying51 (by omega) hcap (by omega)) ?_
        (repeat((conv=>whnf);first|apply ω0|apply ω1|apply ω2|refine τ3 rfl ?_|refine τ4 rfl ?_|refine ⟨rfl,?_⟩|apply τa|refine τb rfl ?_|refine ⟨⟨by kernel_rfl,by kernel_rfl⟩,?_⟩|refine ⟨by decide,?_⟩|apply τt|apply τf))
        refine aw_loop (fun y : Array Cnd × Nat × Nat × Nat => mk 61 [(0, .hs (0, s) 0 n cap), (3, int y.2.1), (4, .hs (0, s) (k * 4) (n - k) (cap - k)), (5, int y.2.2.1)] ⟨rowHC s y.1 tl, [], y.2.2.2, 1⟩) (fun y => y.1.size = n ∧ k ≤ y.2.1 ∧ 1 ≤ y.2.2.1 ∧ y.2.1 + 1 ≤ k + y.2.2.1 ∧ k + y.2.2.1 ≤ n ∧ (∀ j, k + y.2.2.1 ≤ j + 1 → y.1[j]! = d[j]!) ∧ cU d (k + y.2.2.1) = y.1.toList.take y.2.1) (fun y => n - y.2.2.1) ?_ ?_
        · exact ⟨(d, k, 1, nx1), ⟨hn, Nat.le_refl _, Nat.le_refl _, Nat.le_refl _, hk, fun _ _ => rfl, hU1⟩, ele_tell _ _ rfl rfl (List.Sublist.refl _) .slnil (BxLe.refl _) trivial ⟨AVle.refl _, AVle.refl _, AVle.of_eq (congrArg (fun c => AV.hs (0, s) (k * c) (n - k) (cap - k)) c_cnd), AVle.refl _, trivial⟩⟩
        · rintro ⟨e, q, k2, nx2⟩ ⟨p1, p2, p3, p4, p5, p6, p7⟩
          dsimp only at p1 p2 p3 p4 p5 p6 p7
          (repeat((conv=>whnf);first|apply ω0|apply ω1|apply ω2|refine τ3 rfl ?_|refine τ4 rfl ?_|refine ⟨rfl,?_⟩|apply τa|refine τb rfl ?_|refine ⟨⟨by kernel_rfl,by kernel_rfl⟩,?_⟩|refine ⟨by decide,?_⟩|apply τt|apply τf))
          intro c g2; cases c
          · have g2 := not_of g2
            try dsimp only at g2
            have hk2 : k + k2 = n := by omega
            rw [hk2] at p7
            have hq : q < n := by omega
            (repeat((conv=>whnf);first|apply ω0|apply ω2|refine τ3 rfl ?_|refine τ4 rfl ?_|refine ⟨rfl,?_⟩|apply τa|refine τb rfl ?_|refine ⟨⟨by kernel_rfl,by kernel_rfl⟩,?_⟩|refine ⟨by decide,?_⟩|apply τt|apply τf))
            refine aw_regionY (fun i => match i with | 1 => true | 0 => true | _ => false) 4 ?_
            (repeat((conv=>whnf);first|apply ω0|apply ω1|apply ω2|refine τ3 rfl ?_|refine τ4 rfl ?_|refine ⟨rfl,?_⟩|apply τa|refine τb rfl ?_|refine ⟨⟨by kernel_rfl,by kernel_rfl⟩,?_⟩|refine ⟨by decide,?_⟩|apply τt|apply τf))
            refine AOp.of_yields (yields_tailB (l := q) rfl rfl rfl Tryz.underlying45 Tryz.underlying51 (by omega) hcap (by omega)) ?_
            (repeat((conv=>whnf);first|apply ω0|apply ω1|apply ω2|refine τ3 rfl ?_|refine τ4 rfl ?_|refine ⟨rfl,?_⟩|apply τa|refine τb rfl ?_|refine ⟨⟨by kernel_rfl,by kernel_rfl⟩,?_⟩|refine ⟨by decide,?_⟩|apply τt|apply τf))
            obtain ⟨z, hz1, hz2, hz3⟩ := z_cnd
            refine aop_clearB (n := n - q) rfl rfl rfl (by omega) Tryz.underlying45 hz1 hz2 hz3 (by rfl) (by show q * Tryz.prog.cellsOf 51 + (n - q) * Tryz.prog.cellsOf 51 ≤ (rowK eC e tl).length; rw [rowK_len eC_len, c_cnd, p1]; omega) ?_
            refine AW.le (E' := mk 61 [(0, .hs (0, s) 0 n cap), (3, int q)] ⟨rowHC s (cU d n).toArray (List.replicate ((n - q) * 4) .any ++ tl), [], nx2, 1⟩) ?_ ?_
            · exact ele_tell [((0, s), .c (splice (rowK eC e tl) (q * Tryz.prog.cellsOf 51) (List.replicate ((n - q) * Tryz.prog.cellsOf 51) .any)))] [] rfl rfl (List.Sublist.refl _) .slnil ⟨rfl, own_eq (congrArg Own.c (by rw [c_cnd, p7, ← p1]; exact rowK_cut (by omega))), trivial⟩ trivial ⟨AVle.refl _, AVle.refl _, trivial⟩
            (repeat((conv=>whnf);first|apply ω0|apply ω2|refine τ3 rfl ?_|refine τ4 rfl ?_|refine ⟨rfl,?_⟩|apply τa|refine τb rfl ?_|refine ⟨⟨by kernel_rfl,by kernel_rfl⟩,?_⟩|refine ⟨by decide,?_⟩|apply τt|apply τf))
            refine aw_regionY (fun i => match i with | 1 => true | _ => false) 4 ?_
            (repeat((conv=>whnf);first|apply ω0|apply ω1|apply ω2|refine τ3 rfl ?_|refine τ4 rfl ?_|refine ⟨rfl,?_⟩|apply τa|refine τb rfl ?_|refine ⟨⟨by kernel_rfl,by kernel_rfl⟩,?_⟩|refine ⟨by decide,?_⟩|apply τt|apply τf))
            refine aop_cutB (l := q) rfl rfl rfl Tryz.underlying45 Tryz.underlying51 (by omega) (by omega) ?_
            (repeat((conv=>whnf);first|apply ω0|apply ω1|apply ω2|refine τ3 rfl ?_|refine τ4 rfl ?_|refine ⟨rfl,?_⟩|apply τa|refine τb rfl ?_|refine ⟨⟨by kernel_rfl,by kernel_rfl⟩,?_⟩|refine ⟨by decide,?_⟩|apply τt|apply τf))
            exact ret_is rfl ⟨_, _, AVle.refl _, hle_tell (nn := 1) (rowHC s (cU d n).toArray (List.replicate ((n - q) * 4) .any ++ tl)) [] rfl (List.Sublist.refl _) .slnil (BxLe.refl _) (PmEq.refl _), compQ_cut (by rw [p7]; simp; omega)⟩
          · have g2 := yes_of g2
            try dsimp only at g2
            have hk2 : k + k2 < n := by omega
            have hj1 : IntKind.i64.wrap ((k2 : Int) - 1) = ((k2 - 1 : Nat) : Int) := by rw [wrap_id (by omega) (by omega)]; omega
            (repeat((conv=>whnf);first|apply ω0|apply ω1|apply ω2|refine τ3 rfl ?_|refine τ4 rfl ?_|refine ⟨rfl,?_⟩|apply τa|refine τb rfl ?_|refine ⟨⟨by kernel_rfl,by kernel_rfl⟩,?_⟩|refine ⟨by decide,?_⟩|apply τt|apply τf))
            (refine aw_draw 10 ?_ ?_ ?_ ?_; (· kernel_rfl); (· kernel_rfl); (· kernel_rfl))
            (repeat((conv=>whnf);first|apply ω0|apply ω1|apply ω2|refine τ3 rfl ?_|refine τ4 rfl ?_|refine ⟨rfl,?_⟩|apply τa|refine τb rfl ?_|refine ⟨⟨by kernel_rfl,by kernel_rfl⟩,?_⟩|refine ⟨by decide,?_⟩|apply τt|apply τf))
            refine ⟨⟨ixge (i := k2) (rfl), ixlt (i := k2) (rfl) (by omega)⟩, splitO_eq (b := .bp (0, s) ((k + k2) * 4)) (congrArg (AV.bp (0, s)) (ixoS c_cnd (rfl))) ?_⟩
            (conv => whnf)
            generalize hX : apure _ _ _ = X
            have hX2 : X = some (some (s = s), .ag (eC e[k + k2]!)) := hX.symm.trans (apure_rowK eC_len (E := eC) (d := e) (tl := tl) (j := k + k2) rfl rfl rfl rfl u_cnd c_cnd (by omega))
            clear hX; subst hX2
            refine ⟨rfl, ?_⟩
            (repeat((conv=>whnf);first|apply ω0|apply ω1|apply ω2|refine τ3 rfl ?_|refine τ4 rfl ?_|refine ⟨rfl,?_⟩|apply τa|refine τb rfl ?_|refine ⟨⟨by kernel_rfl,by kernel_rfl⟩,?_⟩|refine ⟨by decide,?_⟩|apply τt|apply τf))
            refine ⟨⟨ixge (i := k2 - 1) (hj1), ixlt (i := k2 - 1) (hj1) (by omega)⟩, splitO_eq (b := .bp (0, s) ((k + (k2 - 1)) * 4)) (congrArg (AV.bp (0, s)) (ixoS c_cnd (hj1))) ?_⟩
            (conv => whnf)
            generalize hX : apure _ _ _ = X
            have hX2 : X = some (some (s = s), .ag (eC e[k + (k2 - 1)]!)) := hX.symm.trans (apure_rowK eC_len (E := eC) (d := e) (tl := tl) (j := k + (k2 - 1)) rfl rfl rfl rfl u_cnd c_cnd (by omega))
            clear hX; subst hX2
            refine ⟨rfl, ?_⟩
            (repeat((conv=>whnf);first|apply ω0|apply ω1|apply ω2|refine τ3 rfl ?_|refine τ4 rfl ?_|refine ⟨rfl,?_⟩|apply τa|refine τb rfl ?_|refine ⟨⟨by kernel_rfl,by kernel_rfl⟩,?_⟩|refine ⟨by decide,?_⟩|apply τt|apply τf))
            have e1 : e[k + k2]! = d[k + k2]! := p6 _ (by omega)
            have e2 : e[k + (k2 - 1)]! = d[k + k2 - 1]! := by rw [p6 _ (by omega)]; congr 1; omega
            intro c hc
            have hc2 : c = !decide (d[k + k2]! = d[k + k2 - 1]!) := by rw [← e1, ← e2]; exact hc.trans (congrArg (!·) cndB)
            clear hc
            cases c
            · have heq2 : d[k + k2]! = d[k + k2 - 1]! := by simpa using hc2
              have hU2 := (cU_same (by omega) heq2).trans p7
              (repeat((conv=>whnf);first|apply ω0|apply ω1|apply ω2|refine τ3 rfl ?_|refine τ4 rfl ?_|refine ⟨rfl,?_⟩|apply τa|refine τb rfl ?_|refine ⟨⟨by kernel_rfl,by kernel_rfl⟩,?_⟩|refine ⟨by decide,?_⟩|apply τt|apply τf))
              exact back (e, q, k2 + 1, nx2) ⟨p1, p2, by dsimp only; omega, by dsimp only; omega, by dsimp only; omega, fun j hj => p6 j (by dsimp only at hj; omega), hU2⟩ (by dsimp only; omega) (ele_tell _ _ rfl rfl (List.Sublist.refl _) .slnil (BxLe.refl _) trivial ⟨AVle.refl _, AVle.refl _, AVle.refl _, le_int (wrap_succ (by first | omega | (dsimp only; omega))), trivial⟩)
            · have hne : ¬ d[k + k2]! = d[k + k2 - 1]! := by simpa using hc2
              have hU2 := cU_next hne
              rw [p7, ← e1, ← setB_take (k := q) (x := e[k + k2]!) (by omega)] at hU2
              (repeat((conv=>whnf);first|apply ω0|apply ω2|refine τ3 rfl ?_|refine τ4 rfl ?_|refine ⟨rfl,?_⟩|apply τa|refine τb rfl ?_|refine ⟨⟨by kernel_rfl,by kernel_rfl⟩,?_⟩|refine ⟨by decide,?_⟩|apply τt|apply τf))
              refine aw_regionY (fun i => match i with | 0 => true | 2 => true | _ => false) 8 ?_
              (repeat((conv=>whnf);first|apply ω0|apply ω1|apply ω2|refine τ3 rfl ?_|refine τ4 rfl ?_|refine ⟨rfl,?_⟩|apply τa|refine τb rfl ?_|refine ⟨⟨by kernel_rfl,by kernel_rfl⟩,?_⟩|refine ⟨by decide,?_⟩|apply τt|apply τf))
              refine ⟨⟨ixge (i := k2) (rfl), ixlt (i := k2) (rfl) (by omega)⟩, splitO_eq (b := .bp (0, s) ((k + k2) * 4)) (congrArg (AV.bp (0, s)) (ixoS c_cnd (rfl))) ?_⟩
              (conv => whnf)
              refine AOp.of_yields (yields_rowK eC_len (E := eC) (d := e) (tl := tl) (j := k + k2) rfl rfl rfl rfl u_cnd c_cnd (by omega)) ?_
              (repeat((conv=>whnf);first|apply ω0|apply ω1|apply ω2|refine τ3 rfl ?_|refine τ4 rfl ?_|refine ⟨rfl,?_⟩|apply τa|refine τb rfl ?_|refine ⟨⟨by kernel_rfl,by kernel_rfl⟩,?_⟩|refine ⟨by decide,?_⟩|apply τt|apply τf))
              refine ⟨⟨ixge (i := q) (rfl), ixlt (i := q) (rfl) (by omega)⟩, splitO_eq (b := .bp (0, s) (q * 4)) (congrArg (AV.bp (0, s)) (ixoK c_cnd (rfl))) ?_⟩
              (conv => whnf)
              refine aop_storeK eC_len (E := eC) (d := e) (tl := tl) (j := q) (z := e[k + k2]!) rfl rfl rfl rfl rfl rfl rfl rfl (by kernel_rfl) c_cnd (by omega) ?_
              (repeat((conv=>whnf);first|apply ω0|apply ω1|apply ω2|refine τ3 rfl ?_|refine τ4 rfl ?_|refine ⟨rfl,?_⟩|apply τa|refine τb rfl ?_|refine ⟨⟨by kernel_rfl,by kernel_rfl⟩,?_⟩|refine ⟨by decide,?_⟩|apply τt|apply τf))
              exact back (e.setIfInBounds q e[k + k2]!, q + 1, k2 + 1, nx2) ⟨by simpa using p1, by dsimp only; omega, by dsimp only; omega, by dsimp only; omega, by dsimp only; omega, fun j hj => by
                dsimp only at hj ⊢
                rw [setB_get (by omega), if_neg (by omega)]
                exact p6 j (by omega), hU2⟩ (by dsimp only; omega) (ele_tell _ _ rfl rfl (List.Sublist.refl _) .slnil (BxLe.refl _) trivial ⟨AVle.refl _, le_int (wrap_succ (by first | omega | (dsimp only; omega))), AVle.refl _, le_int (wrap_succ (by first | omega | (dsimp only; omega))), trivial⟩)
end Go.Proofs.W

namespace Go.Proofs.W
open Go.Vl
set_option maxRecDepth 100000

def neverC (c : Cnd) : Bool := decide ((normC c).2 = 2)
def askC (c : Cnd) : Option Cnd := if (normC c).2 = 0 then some (normC c).1 else none
def asksOf (cs : List Cnd) : List Cnd := cs.filterMap askC
def ltC (a b : Cnd) : Bool := decide (ordC a b < 0)
def cmpt (L : List Cnd) : List Cnd := cU (Go.Sort.insertionSort ltC L.toArray 0 L.length) L.length
def normR (r : Rul) : Option Rul := if r.conds.any neverC then none else some ⟨r.name, r.act, cmpt (asksOf r.conds)⟩
def rulOpt : Option Rul → AV
  | none => .tup [rulA rul0, boolA false]
  | some n => .tup [rulA n, boolA true]
theorem askC_0 {c : Cnd} (h : (normC c).2 = 0) : askC c = some (normC c).1 := if_pos h
theorem askC_1 {c : Cnd} (h : (normC c).2 ≠ 0) : askC c = none := if_neg h
theorem asks_next {cs : List Cnd} {i : Nat} (hi : i < cs.length) : asksOf (cs.take (i + 1)) = asksOf (cs.take i) ++ (askC (cs.getD i cnd0)).toList := by
  unfold asksOf
  rw [take_getD cnd0 hi, List.filterMap_append]
  congr 1
theorem asks_len (cs : List Cnd) : (asksOf cs).length ≤ cs.length := List.length_filterMap_le _ _
theorem any_take {cs : List Cnd} (h : ∀ j, j < cs.length → neverC (cs.getD j cnd0) = false) : cs.any neverC = false := by
  rw [Bool.eq_false_iff]
  intro ha
  obtain ⟨c, hc, hb⟩ := List.any_eq_true.1 ha
  obtain ⟨j, hj, rfl⟩ := List.getElem_of_mem hc
  have := h j hj
  rw [show cs.getD j cnd0 = cs[j] by simp [List.getD, hj]] at this
  rw [this] at hb; cases hb
theorem any_at {cs : List Cnd} {i : Nat} (hi : i < cs.length) (h : neverC (cs.getD i cnd0) = true) : cs.any neverC = true := by
  refine List.any_eq_true.2 ⟨cs.getD i cnd0, ?_, h⟩
  simp [List.getD, hi]
theorem getD_okC {cs : List Cnd} (h : ∀ c ∈ cs, c.ok) {i : Nat} (hi : i < cs.length) : (cs.getD i cnd0).ok := h _ (by simp [List.getD, hi])
theorem gr_cnd : growOk Tryz.prog 51 = true := by kernel_rfl
theorem gb_cnd : Tryz.prog.bytesOf 51 = 32 := by kernel_rfl
def ruO (nx : Nat) (s : ByteArray) (k n : Int) (x : AV) : Vl.Id × Own := ((2, nx + 2), .c [strA s, int k, int n, x])
def ruZ (nx : Nat) : Vl.Id × Own := ((1, nx + 1), .c [strA ⟨#[]⟩, int 0, int 0, nilS 4])
def ruB (nx : Nat) (s : ByteArray) (k n : Int) (L : List Cnd) : Option (Nat × Nat × List AV) → List (Vl.Id × Own)
  | none => [ruO nx s k n (nilS 4), ruZ nx]
  | some (s1, cap, tl) => [ruO nx s k n (.hs (0, s1) 0 L.length cap), ruZ nx, ((0, s1), .c (rowK eC L.toArray tl))]
def ruI (L : List Cnd) : Option (Nat × Nat × List AV) → Prop
  | none => L = []
  | some (_, cap, tl) => 1 ≤ L.length ∧ L.length ≤ cap ∧ cap * 4 ≤ L.length * 4 + tl.length
theorem ordC_lt {a b : Cnd} : ordC a b < 0 ↔ a.arg < b.arg ∨ (a.arg = b.arg ∧ (a.op < b.op ∨ (a.op = b.op ∧ (a.mask < b.mask ∨ (a.mask = b.mask ∧ a.value < b.value))))) := by
  unfold ordC cmpN
  simp only [orL]
  repeat' split
  all_goals omega
theorem ltC_iff {a b : Cnd} : ltC a b = true ↔ a.arg < b.arg ∨ (a.arg = b.arg ∧ (a.op < b.op ∨ (a.op = b.op ∧ (a.mask < b.mask ∨ (a.mask = b.mask ∧ a.value < b.value))))) := by
  unfold ltC; rw [decide_eq_true_iff]; exact ordC_lt
theorem ltC_no {a b : Cnd} : ltC a b = false ↔ ¬ (a.arg < b.arg ∨ (a.arg = b.arg ∧ (a.op < b.op ∨ (a.op = b.op ∧ (a.mask < b.mask ∨ (a.mask = b.mask ∧ a.value < b.value)))))) := by
  rw [← ltC_iff, Bool.not_eq_true]
theorem swo_ltC : Go.Sort.SWO ltC := ⟨fun x => by rw [ltC_no]; omega, fun x y z => by rw [ltC_iff, ltC_iff, ltC_iff]; omega, fun x y z => by rw [ltC_no, ltC_no, ltC_no]; omega⟩
theorem ltC_tot {a b : Cnd} (h1 : ltC a b = false) (h2 : ltC b a = false) : a = b := by
  rw [ltC_no] at h1 h2
  obtain ⟨a1, a2, a3, a4⟩ := a
  obtain ⟨b1, b2, b3, b4⟩ := b
  dsimp only at h1 h2
  have e1 : a1 = b1 := by omega
  have e2 : a2 = b2 := by omega
  have e3 : a3 = b3 := by omega
  have e4 : a4 = b4 := by omega
  subst e1 e2 e3 e4; rfl
theorem hasC {c : Cnd} {i : Nat} (h : (i : Int) = ((normC c).2 : Int)) : (normC c).2 = i := by omega
theorem bx_out {nx s1 : Nat} {s : ByteArray} {k n : Int} {x y : AV} (h : AVle x y) {c d : List AV} (hc : c = d) : BxLe [ruO nx s k n x, ruZ nx, ((0, s1), .c c)] [ruO nx s k n y, ruZ nx, ((0, s1), .c d)] := by
  subst hc
  exact ⟨rfl, ⟨AVle.refl _, AVle.refl _, AVle.refl _, h, trivial⟩, BxLe.refl _⟩
theorem splice_cnd {l : List Cnd} {x : Cnd} {tl : List AV} (h : 4 ≤ tl.length) : splice (rowK eC l.toArray tl) (l.length * Tryz.prog.cellsOf 51) (eC x) = rowK eC (l ++ [x]).toArray (tl.drop 4) := by
  rw [c_cnd]; exact rowK_push eC_len h
theorem hs_len {i j : Vl.Id} {L : List Cnd} {x : Cnd} {cap : Nat} (h : i.2 = j.2) : AVle (.hs i 0 (L.length + 1) cap) (.hs j 0 (L ++ [x]).length cap) := by
  rw [List.length_append]; exact AVle.hs_nm h
theorem one_cnd {x : Cnd} {m : Nat} : eC x ++ List.replicate (m * Tryz.prog.cellsOf 51) AV.any = rowK eC #[x] (List.replicate (m * 4) .any) := by
  rw [c_cnd]; simp [rowK]
theorem grow_cnd {l : List Cnd} {x : Cnd} {tl : List AV} {m : Nat} : (rowK eC l.toArray tl).take (l.length * Tryz.prog.cellsOf 51) ++ eC x ++ List.replicate (m * Tryz.prog.cellsOf 51) .any = rowK eC (l ++ [x]).toArray (List.replicate (m * 4) .any) := by
  rw [c_cnd, rowK_take eC_len]; exact rowK_one
set_option maxHeartbeats 8000000 in
theorem rule16_spec (r : Rul) (hok : ∀ c ∈ r.conds, c.ok) (hl : r.conds.length ≤ 12) : Tells Tryz.prog 24 [rulA r] (rulOpt (normR r)) := by
  obtain ⟨s, ⟨k, n⟩, cs⟩ := r
  dsimp only at hok hl
  refine tells_of_aw Tryz.func24 rfl rfl fun nx => ?_
  (repeat((conv=>whnf);first|apply ω0|apply ω1|apply ω2|refine τ3 rfl ?_|refine τ4 rfl ?_|refine ⟨rfl,?_⟩|apply τa|refine τb rfl ?_|refine ⟨⟨by kernel_rfl,by kernel_rfl⟩,?_⟩|refine ⟨by decide,?_⟩|apply τt|apply τf))
  refine aw_loop (fun y : Nat × List Cnd × Option (Nat × Nat × List AV) × Nat => mk 47 [(2, .bp (1, nx + 1) 0), (4, .bp (2, nx + 2) 0), (15, cnds cs), (16, int cs.length), (17, int y.1)] ⟨ruB nx s k n y.2.1 y.2.2.1, [], y.2.2.2, 4⟩) (fun y => y.1 ≤ cs.length ∧ y.2.1 = asksOf (cs.take y.1) ∧ ruI y.2.1 y.2.2.1 ∧ ∀ j, j < y.1 → neverC (cs.getD j cnd0) = false) (fun y => cs.length - y.1) ?_ ?_
  · exact ⟨(0, [], none, nx + 3), ⟨Nat.zero_le _, rfl, rfl, fun j h => absurd h (Nat.not_lt_zero _)⟩, ele_tell (pm := []) [((2, nx + 2), .c [strA s, int k, int n, .os 0 0 (fun _ => .any) none]), ((1, nx + 1), .c [strA ⟨#[]⟩, int 0, int 0, .os 0 0 (fun _ => .any) none])] [] rfl rfl (.cons_cons _ (.cons_cons _ (.cons _ .slnil))) (List.Sublist.refl _) ⟨rfl, ⟨AVle.refl _, AVle.refl _, AVle.refl _, AVle.os_nil, trivial⟩, rfl, ⟨AVle.refl _, AVle.refl _, AVle.refl _, AVle.os_nil, trivial⟩, trivial⟩ trivial ⟨AVle.refl _, AVle.refl _, AVle.refl _, AVle.refl _, AVle.refl _, trivial⟩⟩
  · rintro ⟨i, L, md, nx1⟩ ⟨h1, hL, h2, h3⟩
    dsimp only at h1 hL h2 h3
    have hal := asks_len (cs.take i)
    rw [List.length_take, Nat.min_eq_left h1, ← hL] at hal
    (repeat((conv=>whnf);first|apply ω0|apply ω1|apply ω2|refine τ3 rfl ?_|refine τ4 rfl ?_|refine ⟨rfl,?_⟩|apply τa|refine τb rfl ?_|refine ⟨⟨by kernel_rfl,by kernel_rfl⟩,?_⟩|refine ⟨by decide,?_⟩|apply τt|apply τf))
    intro c g; cases c
    · have g := not_of g
      try dsimp only at g
      have hi : i = cs.length := by omega
      subst hi
      rw [List.take_length] at hL
      have hR : normR ⟨s, (k, n), cs⟩ = some ⟨s, (k, n), cmpt L⟩ := by
        unfold normR
        dsimp only
        rw [any_take h3, hL]; rfl
      rw [hR]
      rcases md with _ | ⟨s1, cap, tl⟩
      · obtain rfl : L = [] := h2
        (repeat((conv=>whnf);first|apply ω0|apply ω1|apply ω2|refine τ3 rfl ?_|refine τ4 rfl ?_|refine ⟨rfl,?_⟩|apply τa|refine τb rfl ?_|refine ⟨⟨by kernel_rfl,by kernel_rfl⟩,?_⟩|refine ⟨by decide,?_⟩|apply τt|apply τf))
        refine aop_tells rfl rfl (sortFunc_0 52) ⟨AVle.refl _, AVle.refl _, trivial⟩ fun nx2 => ?_
        (repeat((conv=>whnf);first|apply ω0|apply ω1|apply ω2|refine τ3 rfl ?_|refine τ4 rfl ?_|refine ⟨rfl,?_⟩|apply τa|refine τb rfl ?_|refine ⟨⟨by kernel_rfl,by kernel_rfl⟩,?_⟩|refine ⟨by decide,?_⟩|apply τt|apply τf))
        refine aop_tells rfl rfl compact_0 ⟨AVle.refl _, trivial⟩ fun nx2 => ?_
        (repeat((conv=>whnf);first|apply ω0|apply ω1|apply ω2|refine τ3 rfl ?_|refine τ4 rfl ?_|refine ⟨rfl,?_⟩|apply τa|refine τb rfl ?_|refine ⟨⟨by kernel_rfl,by kernel_rfl⟩,?_⟩|refine ⟨by decide,?_⟩|apply τt|apply τf))
        exact ret_tells_all rfl ⟨rfl, trivial⟩ (AVle.tups (cs := [_, _]) ⟨AVle.ags (cs := [_, _, _, _]) ⟨AVle.refl _, AVle.refl _, AVle.refl _, AVle.os_sl0, trivial⟩, AVle.refl _, trivial⟩)
      · obtain ⟨q1, q2, q3⟩ := h2
        (repeat((conv=>whnf);first|apply ω0|apply ω1|apply ω2|refine τ3 rfl ?_|refine τ4 rfl ?_|refine ⟨rfl,?_⟩|apply τa|refine τb rfl ?_|refine ⟨⟨by kernel_rfl,by kernel_rfl⟩,?_⟩|refine ⟨by decide,?_⟩|apply τt|apply τf))
        refine aop_callF (xs := [.hs (0, s1) 0 L.length cap, fn0 52]) [ruO nx s k n (.hs (0, s1) 0 L.length cap), ruZ nx] [] 4 rfl rfl rfl rfl ⟨AVle.refl _, AVle.refl _, trivial⟩ (sortFunc_cnd 52 ltC ordC order_spec (fun _ _ => rfl) L.toArray tl L.length (by simp) (by omega) s1 cap _) (BxLe.refl _) (PmEq.refl _) rfl fun r h' hq => ?_
        obtain ⟨nx2, nn2, rfl⟩ := hq
        have hds : (Go.Sort.insertionSort ltC L.toArray 0 L.length).size = L.length := by
          have := (Go.Sort.insertionSort_holds (lt := ltC) swo_ltC L.toArray 0 L.length (Nat.zero_le _) (by simp)).1.1
          simpa using this
        (repeat((conv=>whnf);first|apply ω0|apply ω1|apply ω2|refine τ3 rfl ?_|refine τ4 rfl ?_|refine ⟨rfl,?_⟩|apply τa|refine τb rfl ?_|refine ⟨⟨by kernel_rfl,by kernel_rfl⟩,?_⟩|refine ⟨by decide,?_⟩|apply τt|apply τf))
        refine aop_callF (xs := [.hs (0, s1) 0 L.length cap]) [ruO nx s k n (.hs (0, s1) 0 L.length cap), ruZ nx] [] 4 rfl rfl rfl rfl ⟨AVle.refl _, trivial⟩ (compact_cnd (Go.Sort.insertionSort ltC L.toArray 0 L.length) tl L.length hds (by omega) (by omega) s1 cap _ q2) (BxLe.refl _) (PmEq.refl _) rfl fun r h' hq => ?_
        obtain ⟨tl2, nx3, nn3, rfl, rfl⟩ := hq
        have hcl : (cmpt L).length ≤ cap := Nat.le_trans (cU_le _ _) q2
        (repeat((conv=>whnf);first|apply ω0|apply ω2|refine τ3 rfl ?_|refine τ4 rfl ?_|refine ⟨rfl,?_⟩|apply τa|refine τb rfl ?_|refine ⟨⟨by kernel_rfl,by kernel_rfl⟩,?_⟩|refine ⟨by decide,?_⟩|apply τt|apply τf))
        refine aw_freeze (n := 47) (nx := nx3) (nn := 4) (pm := []) (bx := [ruZ nx]) (L := [(2, .bp (1, nx + 1) 0), (4, .rp [strA s, int k, int n, cnds (cmpt L)])]) (df := some []) [((2, nx + 2), .c [strA s, int k, int n, .hs (0, s1) 0 (cmpt L).length cap]), ((0, s1), .c (rowK eC (cmpt L).toArray tl2))] rfl rfl rfl (.cons _ (.swap _ _ _)) (List.Sublist.refl _) ⟨Frz.refl _, (Frz.bp (.head _) rfl).trans (Frz.rp ⟨Frz.refl _, Frz.refl _, Frz.refl _, frz_rowK eC_len (fun _ => rfl) rfl (.tail _ (.head _)) hcl, trivial⟩), trivial⟩ ?_
        (repeat((conv=>whnf);first|apply ω0|apply ω1|apply ω2|refine τ3 rfl ?_|refine τ4 rfl ?_|refine ⟨rfl,?_⟩|apply τa|refine τb rfl ?_|refine ⟨⟨by kernel_rfl,by kernel_rfl⟩,?_⟩|refine ⟨by decide,?_⟩|apply τt|apply τf))
        exact ret_tells_all rfl ⟨rfl, trivial⟩ (AVle.refl _)
    · have g := yes_of g
      try dsimp only at g
      have hi : i < cs.length := by omega
      have hcs := cond_spec (cs.getD i cnd0) (getD_okC hok hi)
      have ha := asks_next hi
      have hnv : neverC (cs.getD i cnd0) = decide ((normC (cs.getD i cnd0)).2 = 2) := rfl
      have hak0 := askC_0 (c := cs.getD i cnd0)
      have hak1 := askC_1 (c := cs.getD i cnd0)
      generalize normC (cs.getD i cnd0) = N at hcs hnv hak0 hak1
      obtain ⟨⟨qa, qo, qm, qv⟩, st⟩ := N
      dsimp only at hnv hak0 hak1
      (repeat((conv=>whnf);first|apply ω0|apply ω1|apply ω2|refine τ3 rfl ?_|refine τ4 rfl ?_|refine ⟨rfl,?_⟩|apply τa|refine τb rfl ?_|refine ⟨⟨by kernel_rfl,by kernel_rfl⟩,?_⟩|refine ⟨by decide,?_⟩|apply τt|apply τf))
      refine ⟨⟨by first | omega | (dsimp only; omega), by first | omega | (dsimp only; omega)⟩, ?_⟩
      (repeat((conv=>whnf);first|apply ω0|apply ω1|apply ω2|refine τ3 rfl ?_|refine τ4 rfl ?_|refine ⟨rfl,?_⟩|apply τa|refine τb rfl ?_|refine ⟨⟨by kernel_rfl,by kernel_rfl⟩,?_⟩|refine ⟨by decide,?_⟩|apply τt|apply τf))
      refine aop_tells rfl rfl hcs ⟨AVle.refl _, trivial⟩ fun nx2 => ?_
      (repeat((conv=>whnf);first|apply ω0|apply ω1|apply ω2|refine τ3 rfl ?_|refine τ4 rfl ?_|refine ⟨rfl,?_⟩|apply τa|refine τb rfl ?_|refine ⟨⟨by kernel_rfl,by kernel_rfl⟩,?_⟩|refine ⟨by decide,?_⟩|apply τt|apply τf))
      intro c g2; cases c
      · have g2 : st ≠ 2 := fun h => by subst h; cases g2
        rw [decide_eq_false g2] at hnv
        have h3' : ∀ j, j < i + 1 → neverC (cs.getD j cnd0) = false := fun j hj => by
          rcases Nat.lt_or_ge j i with q | q
          · exact h3 j q
          · rw [show j = i by omega]; exact hnv
        (repeat((conv=>whnf);first|apply ω0|apply ω1|apply ω2|refine τ3 rfl ?_|refine τ4 rfl ?_|refine ⟨rfl,?_⟩|apply τa|refine τb rfl ?_|refine ⟨⟨by kernel_rfl,by kernel_rfl⟩,?_⟩|refine ⟨by decide,?_⟩|apply τt|apply τf))
        intro c g3; cases c
        · have g3 : st ≠ 0 := fun h => by subst h; cases g3
          rw [hak1 g3, ← hL] at ha
          (repeat((conv=>whnf);first|apply ω0|apply ω1|apply ω2|refine τ3 rfl ?_|refine τ4 rfl ?_|refine ⟨rfl,?_⟩|apply τa|refine τb rfl ?_|refine ⟨⟨by kernel_rfl,by kernel_rfl⟩,?_⟩|refine ⟨by decide,?_⟩|apply τt|apply τf))
          exact back (i + 1, L, md, _) ⟨hi, ha.symm.trans (List.append_nil _).symm |>.symm |> (fun e => by simpa using ha.symm), h2, h3'⟩ (by dsimp only; omega) (ele_tell (bx := ruB nx s k n L md) _ _ rfl rfl (.cons _ (.cons _ (List.Sublist.refl _))) (List.Sublist.refl _) (BxLe.refl _) trivial ⟨AVle.refl _, AVle.refl _, AVle.refl _, AVle.refl _, le_int (wrap_succ (by first | omega | (dsimp only; omega))), trivial⟩)
        · have g3 : st = 0 := by
            by_cases h : st = 0
            · exact h
            · exfalso
              have : ((st : Int) == 0) = false := beq_eq_false_iff_ne.2 (by omega)
              exact absurd (g3.trans this) (by decide)
          rw [hak0 g3, ← hL] at ha
          have ha : L ++ [⟨qa, qo, qm, qv⟩] = asksOf (cs.take (i + 1)) := ha.symm
          rcases md with _ | ⟨s1, cap, tl⟩
          · obtain rfl : L = [] := h2
            (repeat((conv=>whnf);first|apply ω0|apply ω2|refine τ3 rfl ?_|refine τ4 rfl ?_|refine ⟨rfl,?_⟩|apply τa|refine τb rfl ?_|refine ⟨⟨by kernel_rfl,by kernel_rfl⟩,?_⟩|refine ⟨by decide,?_⟩|apply τt|apply τf))
            refine aw_regionY (fun i => match i with | 0 => true | _ => false) 5 ?_
            (repeat((conv=>whnf);first|apply ω0|apply ω1|apply ω2|refine τ3 rfl ?_|refine τ4 rfl ?_|refine ⟨rfl,?_⟩|apply τa|refine τb rfl ?_|refine ⟨⟨by kernel_rfl,by kernel_rfl⟩,?_⟩|refine ⟨by decide,?_⟩|apply τt|apply τf))
            refine aop_appendB0 (m := 1) rfl rfl (.inr ⟨_, rfl⟩) Tryz.underlying45 gr_cnd c_cnd.symm (by decide) (oneRow_one rfl) (by rw [gb_cnd]; omega) (by omega) fun ncap hcap => ?_
            (repeat((conv=>whnf);first|apply ω0|apply ω1|apply ω2|refine τ3 rfl ?_|refine τ4 rfl ?_|refine ⟨rfl,?_⟩|apply τa|refine τb rfl ?_|refine ⟨⟨by kernel_rfl,by kernel_rfl⟩,?_⟩|refine ⟨by decide,?_⟩|apply τt|apply τf))
            exact back (i + 1, [⟨qa, qo, qm, qv⟩], some (nx2 + 1, ncap, List.replicate ((ncap - 1) * 4) .any), nx2 + 1 + 1) ⟨hi, ha, ⟨Nat.le_refl _, hcap, by simp; omega⟩, h3'⟩ (by dsimp only; omega) (ele_tellP (pm := []) (bx := [ruO nx s k n (.hs (0, nx2 + 1) 0 1 ncap), ruZ nx, ((0, nx2 + 1), .c (rowK eC #[⟨qa, qo, qm, qv⟩] (List.replicate ((ncap - 1) * 4) .any)))]) _ [ruO nx s k n (.hs (6, nx2 + 1) 0 1 ncap), ruZ nx, ((6, nx2 + 1), .c (eC ⟨qa, qo, qm, qv⟩ ++ List.replicate ((ncap - 1) * Tryz.prog.cellsOf 51) .any))] [] rfl rfl (List.perm_append_singleton _ _) (.cons _ (.cons _ (.cons_cons _ (.cons_cons _ (.cons_cons _ .slnil))))) .slnil ⟨rfl, ⟨AVle.refl _, AVle.refl _, AVle.refl _, AVle.hs_nm rfl, trivial⟩, rfl, OwnLe.refl _, rfl, own_eq (congrArg Own.c one_cnd), trivial⟩ trivial ⟨AVle.refl _, AVle.refl _, AVle.refl _, AVle.refl _, le_int (wrap_succ (by first | omega | (dsimp only; omega))), trivial⟩)
          · obtain ⟨q1, q2, q3⟩ := h2
            (repeat((conv=>whnf);first|apply ω0|apply ω2|refine τ3 rfl ?_|refine τ4 rfl ?_|refine ⟨rfl,?_⟩|apply τa|refine τb rfl ?_|refine ⟨⟨by kernel_rfl,by kernel_rfl⟩,?_⟩|refine ⟨by decide,?_⟩|apply τt|apply τf))
            refine aw_regionY (fun i => match i with | 0 => true | _ => false) 5 ?_
            (repeat((conv=>whnf);first|apply ω0|apply ω1|apply ω2|refine τ3 rfl ?_|refine τ4 rfl ?_|refine ⟨rfl,?_⟩|apply τa|refine τb rfl ?_|refine ⟨⟨by kernel_rfl,by kernel_rfl⟩,?_⟩|refine ⟨by decide,?_⟩|apply τt|apply τf))
            refine aop_appendB (m := 1) (szx := 4) (n := L.length) (cap := cap) (cs := rowK eC L.toArray tl) (i := (0, s1)) rfl rfl (.inr ⟨_, rfl⟩) Tryz.underlying45 gr_cnd (.inr c_cnd.symm) (by rfl) q2 (by rw [c_cnd, rowK_len eC_len]; simpa using q3) (oneRow_one rfl) (fun _ => by rw [gb_cnd]; omega) (fun _ => by omega) (fun hm => absurd hm (by decide)) (fun hm hfit => ?_) (fun hm hfit ncap hcap => ?_)
            · (repeat((conv=>whnf);first|apply ω0|apply ω1|apply ω2|refine τ3 rfl ?_|refine τ4 rfl ?_|refine ⟨rfl,?_⟩|apply τa|refine τb rfl ?_|refine ⟨⟨by kernel_rfl,by kernel_rfl⟩,?_⟩|refine ⟨by decide,?_⟩|apply τt|apply τf))
              (conv => whnf)
              refine back (i + 1, L ++ [(⟨qa, qo, qm, qv⟩ : Cnd)], some (s1, cap, tl.drop 4), nx2 + 1) ?_ (by dsimp only; omega) ?_
              · exact ⟨hi, ha, ⟨by simp, by simpa using hfit, by simp; omega⟩, h3'⟩
              · exact (ele_tell (pm := []) (bx := [ruO nx s k n (.hs (0, s1) 0 (L ++ [(⟨qa, qo, qm, qv⟩ : Cnd)]).length cap), ruZ nx, ((0, s1), .c (rowK eC (L ++ [(⟨qa, qo, qm, qv⟩ : Cnd)]).toArray (tl.drop 4)))]) [ruO nx s k n (.hs (0, s1) 0 (L.length + 1) cap), ruZ nx, ((0, s1), .c (splice (rowK eC L.toArray tl) (L.length * Tryz.prog.cellsOf 51) (eC ⟨qa, qo, qm, qv⟩)))] [] rfl rfl (.cons _ (.cons _ (.cons_cons _ (.cons_cons _ (.cons_cons _ .slnil))))) .slnil (bx_out (hs_len rfl) (splice_cnd (tl := tl) (by have := hfit; omega))) trivial ⟨AVle.refl _, AVle.refl _, AVle.refl _, AVle.refl _, le_int (wrap_succ (by first | omega | (dsimp only; omega))), trivial⟩)
            · (repeat((conv=>whnf);first|apply ω0|apply ω1|apply ω2|refine τ3 rfl ?_|refine τ4 rfl ?_|refine ⟨rfl,?_⟩|apply τa|refine τb rfl ?_|refine ⟨⟨by kernel_rfl,by kernel_rfl⟩,?_⟩|refine ⟨by decide,?_⟩|apply τt|apply τf))
              (conv => whnf)
              refine back (i + 1, L ++ [(⟨qa, qo, qm, qv⟩ : Cnd)], some (nx2 + 1, ncap, List.replicate ((ncap - (L.length + 1)) * 4) .any), nx2 + 1 + 1) ?_ (by dsimp only; omega) ?_
              · exact ⟨hi, ha, ⟨by simp, by simpa using hcap, by simp; omega⟩, h3'⟩
              · exact (ele_tellP (pm := []) (bx := [ruO nx s k n (.hs (0, nx2 + 1) 0 (L ++ [(⟨qa, qo, qm, qv⟩ : Cnd)]).length ncap), ruZ nx, ((0, nx2 + 1), .c (rowK eC (L ++ [(⟨qa, qo, qm, qv⟩ : Cnd)]).toArray (List.replicate ((ncap - (L.length + 1)) * 4) .any)))]) _ [ruO nx s k n (.hs (6, nx2 + 1) 0 (L.length + 1) ncap), ruZ nx, ((6, nx2 + 1), .c ((rowK eC L.toArray tl).take (L.length * Tryz.prog.cellsOf 51) ++ eC ⟨qa, qo, qm, qv⟩ ++ List.replicate ((ncap - (L.length + 1)) * Tryz.prog.cellsOf 51) .any))] [] rfl rfl (List.perm_append_singleton _ _) (.cons _ (.cons _ (.cons_cons _ (.cons_cons _ (.cons _ (.cons_cons _ .slnil)))))) .slnil ⟨rfl, ⟨AVle.refl _, AVle.refl _, AVle.refl _, hs_len rfl, trivial⟩, rfl, OwnLe.refl _, rfl, own_eq (congrArg Own.c grow_cnd), trivial⟩ trivial ⟨AVle.refl _, AVle.refl _, AVle.refl _, AVle.refl _, le_int (wrap_succ (by first | omega | (dsimp only; omega))), trivial⟩)
      · have g2 : st = 2 := by
          by_cases h : st = 2
          · exact h
          · exfalso
            have : ((st : Int) == 2) = false := beq_eq_false_iff_ne.2 (by omega)
            exact absurd (g2.trans this) (by decide)
        have hR : normR ⟨s, (k, n), cs⟩ = none := by
          unfold normR
          dsimp only
          rw [any_at hi (by rw [hnv]; exact decide_eq_true g2)]; rfl
        rw [hR]
        rcases md with _ | ⟨s1, cap, tl⟩
        all_goals
          (repeat((conv=>whnf);first|apply ω0|apply ω1|apply ω2|refine τ3 rfl ?_|refine τ4 rfl ?_|refine ⟨rfl,?_⟩|apply τa|refine τb rfl ?_|refine ⟨⟨by kernel_rfl,by kernel_rfl⟩,?_⟩|refine ⟨by decide,?_⟩|apply τt|apply τf))
          exact ret_tells_all rfl ⟨rfl, trivial⟩ (AVle.tups (cs := [_, _]) ⟨AVle.ags (cs := [_, _, _, _]) ⟨AVle.refl _, AVle.refl _, AVle.refl _, AVle.os_sl0, trivial⟩, AVle.refl _, trivial⟩)
end Go.Proofs.W

namespace Go.Proofs.W
open Go.Vl
set_option maxRecDepth 100000

def rulC4 (r : Rul) : List AV := [strA r.name, int r.act.1, int r.act.2, cnds r.conds]
theorem idxf_rulK (l : List Rul) (p : Rul → Bool) (f : Nat) (n : Rul) (hl : l.length ≤ 1000000000) (hp : ∀ i, i < l.length → Tells Tryz.prog f [rulA (l.getD i rul0), .rp (rulC4 n)] (boolA (p (l.getD i rul0)))) :
    Tells Tryz.prog 93 [slOf 4 rulA rul0 l, (.fn (.func f) [] [.rp (rulC4 n)])] (int (optI (l.findIdx? p))) := by
  refine tells_of_aw Tryz.func93 rfl rfl fun nx => ?_
  (repeat((conv=>whnf);first|apply ω0|apply ω1|apply ω2|refine τ3 rfl ?_|refine τ4 rfl ?_|refine ⟨rfl,?_⟩|apply τa|refine τb rfl ?_|refine ⟨⟨by kernel_rfl,by kernel_rfl⟩,?_⟩|refine ⟨by decide,?_⟩|apply τt|apply τf))
  refine aw_loop (fun s : Nat × Nat => mk 19 [(0, slOf 4 rulA rul0 l), (1, (.fn (.func f) [] [.rp (rulC4 n)])), (7, int l.length), (8, int s.1)] ⟨[], [], s.2, 0⟩) (fun s => s.1 ≤ l.length ∧ ∀ j, j < s.1 → p (l.getD j rul0) = false) (fun s => l.length - s.1) ?_ ?_
  · exact ⟨(0, nx), ⟨by simp, by intro j hj; simp at hj⟩, ele_mk rfl rfl ⟨AVle.refl _, AVle.refl _, AVle.refl _, AVle.refl _, trivial⟩⟩
  · rintro ⟨i, nx⟩ ⟨h1, h2⟩
    dsimp only at h1 h2
    (repeat((conv=>whnf);first|apply ω0|apply ω1|apply ω2|refine τ3 rfl ?_|refine τ4 rfl ?_|refine ⟨rfl,?_⟩|apply τa|refine τb rfl ?_|refine ⟨⟨by kernel_rfl,by kernel_rfl⟩,?_⟩|refine ⟨by decide,?_⟩|apply τt|apply τf))
    intro c h3; cases c
    · have h3 := not_of h3
      dsimp only at h3
      (repeat((conv=>whnf);first|apply ω0|apply ω1|apply ω2|refine τ3 rfl ?_|refine τ4 rfl ?_|refine ⟨rfl,?_⟩|apply τa|refine τb rfl ?_|refine ⟨⟨by kernel_rfl,by kernel_rfl⟩,?_⟩|refine ⟨by decide,?_⟩|apply τt|apply τf))
      refine ret_tells rfl (le_int ?_)
      rw [idx_none rul0 (fun j hj => h2 j (by omega))]; rfl
    · have h3 := yes_of h3
      dsimp only at h3
      have hi : i < l.length := by omega
      (repeat((conv=>whnf);first|apply ω0|apply ω1|apply ω2|refine τ3 rfl ?_|refine τ4 rfl ?_|refine ⟨rfl,?_⟩|apply τa|refine τb rfl ?_|refine ⟨⟨by kernel_rfl,by kernel_rfl⟩,?_⟩|refine ⟨by decide,?_⟩|apply τt|apply τf))
      refine ⟨⟨by dsimp only; omega, by dsimp only; omega⟩, ?_⟩
      (repeat((conv=>whnf);first|apply ω0|apply ω1|apply ω2|refine τ3 rfl ?_|refine τ4 rfl ?_|refine ⟨rfl,?_⟩|apply τa|refine τb rfl ?_|refine ⟨⟨by kernel_rfl,by kernel_rfl⟩,?_⟩|refine ⟨by decide,?_⟩|apply τt|apply τf))
      refine aop_tells rfl rfl (hp i hi) ⟨AVle.refl _, AVle.refl _, trivial⟩ fun nx' => ?_
      intro c h4; cases c
      · (repeat((conv=>whnf);first|apply ω0|apply ω1|apply ω2|refine τ3 rfl ?_|refine τ4 rfl ?_|refine ⟨rfl,?_⟩|apply τa|refine τb rfl ?_|refine ⟨⟨by kernel_rfl,by kernel_rfl⟩,?_⟩|refine ⟨by decide,?_⟩|apply τt|apply τf))
        refine back (i + 1, nx') ⟨by dsimp only; omega, fun j hj => ?_⟩ (by dsimp only; omega) (ele_mk rfl rfl ⟨AVle.refl _, AVle.refl _, AVle.refl _, le_int (wrap_succ (by dsimp only; omega)), trivial⟩)
        dsimp only at hj
        rcases Nat.lt_or_ge j i with h | h
        · exact h2 j h
        · obtain rfl : j = i := by omega
          exact h4.symm
      · (repeat((conv=>whnf);first|apply ω0|apply ω1|apply ω2|refine τ3 rfl ?_|refine τ4 rfl ?_|refine ⟨rfl,?_⟩|apply τa|refine τb rfl ?_|refine ⟨⟨by kernel_rfl,by kernel_rfl⟩,?_⟩|refine ⟨by decide,?_⟩|apply τt|apply τf))
        refine ret_tells rfl (le_int ?_)
        rw [idx_at rul0 hi h2 h4.symm]; rfl
theorem cntf_rulK (l : List Rul) (p : Rul → Bool) (f : Nat) (n : Rul) (hl : l.length ≤ 1000000000) (hp : ∀ i, i < l.length → Tells Tryz.prog f [rulA (l.getD i rul0), .rp (rulC4 n)] (boolA (p (l.getD i rul0)))) :
    Tells Tryz.prog 59 [slOf 4 rulA rul0 l, (.fn (.func f) [] [.rp (rulC4 n)])] (boolA (l.any p)) := by
  refine tells_of_aw Tryz.func59 rfl rfl fun nx => ?_
  (repeat((conv=>whnf);first|apply ω0|apply ω1|apply ω2|refine τ3 rfl ?_|refine τ4 rfl ?_|refine ⟨rfl,?_⟩|apply τa|refine τb rfl ?_|refine ⟨⟨by kernel_rfl,by kernel_rfl⟩,?_⟩|refine ⟨by decide,?_⟩|apply τt|apply τf))
  refine aop_tells rfl rfl (idxf_rulK l p f n hl hp) ⟨AVle.refl _, AVle.refl _, trivial⟩ fun nx' => ?_
  (repeat((conv=>whnf);first|apply ω0|apply ω1|apply ω2|refine τ3 rfl ?_|refine τ4 rfl ?_|refine ⟨rfl,?_⟩|apply τa|refine τb rfl ?_|refine ⟨⟨by kernel_rfl,by kernel_rfl⟩,?_⟩|refine ⟨by decide,?_⟩|apply τt|apply τf))
  intro c h; cases c
  all_goals
    (repeat((conv=>whnf);first|apply ω0|apply ω1|apply ω2|refine τ3 rfl ?_|refine τ4 rfl ?_|refine ⟨rfl,?_⟩|apply τa|refine τb rfl ?_|refine ⟨⟨by kernel_rfl,by kernel_rfl⟩,?_⟩|refine ⟨by decide,?_⟩|apply τt|apply τf))
    refine ret_tells rfl (le_bool ?_)
    rw [h, ← List.findIdx?_isSome]
    exact optI_nonneg _

/-- A rule that leaves another one nothing; whether one of a row does. -/
def hidR (n x : Rul) : Bool := decide (x.conds = []) || decide (x.conds = n.conds)
def hidden (l : List Rul) (n : Rul) : Bool := l.any (hidR n)
theorem hid1_spec (x n : Rul) (hx : x.conds.length ≤ 1000000) : Tells Tryz.prog 78 [rulA x, .rp [strA n.name, int n.act.1, int n.act.2, cnds n.conds]] (boolA (hidR n x)) := by
  refine tells_of_aw Tryz.func78 rfl rfl fun nx => ?_
  by_cases h : x.conds = []
  · have e : hidR n x = true := by unfold hidR; rw [h]; rfl
    rw [e]
    (repeat((conv=>whnf);first|apply ω0|apply ω1|apply ω2|refine τ3 rfl ?_|refine τ4 rfl ?_|refine ⟨rfl,?_⟩|apply τa|refine τb rfl ?_|refine ⟨⟨by kernel_rfl,by kernel_rfl⟩,?_⟩|refine ⟨by decide,?_⟩|apply τt|apply τf))
    intro c hc
    have hc2 : c = true := hc.trans (beq_iff_eq.2 (congrArg (fun l : List Cnd => Int.ofNat l.length) h))
    clear hc; subst hc2
    (repeat((conv=>whnf);first|apply ω0|apply ω1|apply ω2|refine τ3 rfl ?_|refine τ4 rfl ?_|refine ⟨rfl,?_⟩|apply τa|refine τb rfl ?_|refine ⟨⟨by kernel_rfl,by kernel_rfl⟩,?_⟩|refine ⟨by decide,?_⟩|apply τt|apply τf))
    exact ret_tells rfl (AVle.refl _)
  · have e : hidR n x = decide (x.conds = n.conds) := by unfold hidR; rw [decide_eq_false h]; rfl
    rw [e]
    (repeat((conv=>whnf);first|apply ω0|apply ω1|apply ω2|refine τ3 rfl ?_|refine τ4 rfl ?_|refine ⟨rfl,?_⟩|apply τa|refine τb rfl ?_|refine ⟨⟨by kernel_rfl,by kernel_rfl⟩,?_⟩|refine ⟨by decide,?_⟩|apply τt|apply τf))
    intro c hc
    have hne : ¬ Int.ofNat x.conds.length = 0 := fun hh => h (List.eq_nil_of_length_eq_zero (Int.ofNat.inj hh))
    have hc2 : c = false := hc.trans (beq_eq_false_iff_ne.2 hne)
    clear hc; subst hc2
    (repeat((conv=>whnf);first|apply ω0|apply ω1|apply ω2|refine τ3 rfl ?_|refine τ4 rfl ?_|refine ⟨rfl,?_⟩|apply τa|refine τb rfl ?_|refine ⟨⟨by kernel_rfl,by kernel_rfl⟩,?_⟩|refine ⟨by decide,?_⟩|apply τt|apply τf))
    refine aop_tells rfl rfl (equalC_spec x.conds n.conds hx) ⟨AVle.refl _, AVle.refl _, trivial⟩ fun nx2 => ?_
    intro c h9; cases c
    all_goals
      (repeat((conv=>whnf);first|apply ω0|apply ω1|apply ω2|refine τ3 rfl ?_|refine τ4 rfl ?_|refine ⟨rfl,?_⟩|apply τa|refine τb rfl ?_|refine ⟨⟨by kernel_rfl,by kernel_rfl⟩,?_⟩|refine ⟨by decide,?_⟩|apply τt|apply τf))
      exact ret_tells rfl (le_bool h9)
theorem hidden_spec (l : List Rul) (n : Rul) (hl : l.length ≤ 1000000) (hc : ∀ r ∈ l, r.conds.length ≤ 1000000) : Tells Tryz.prog 42 [ruls l, rulA n] (boolA (hidden l n)) := by
  refine tells_of_aw Tryz.func42 rfl rfl fun nx => ?_
  ((repeat((conv=>whnf);first|apply ω0|apply ω2|refine τ3 rfl ?_|refine τ4 rfl ?_|refine ⟨rfl,?_⟩|apply τa|refine τb rfl ?_|refine ⟨⟨by kernel_rfl,by kernel_rfl⟩,?_⟩|refine ⟨by decide,?_⟩|apply τt|apply τf)); refine aw_region ?_; (repeat((conv=>whnf);first|apply ω0|apply ω2|refine τ3 rfl ?_|refine τ4 rfl ?_|refine ⟨rfl,?_⟩|apply τa|refine τb rfl ?_|refine ⟨⟨by kernel_rfl,by kernel_rfl⟩,?_⟩|refine ⟨by decide,?_⟩|apply τt|apply τf)))
  refine AW.le (ele_freeze (L := [(0, ruls l), (3, .rp [strA n.name, int n.act.1, int n.act.2, cnds n.conds])]) (bx := []) (pm := []) (nn := 1) [((0, nx), .c [strA n.name, int n.act.1, int n.act.2, cnds n.conds])] rfl rfl (List.Sublist.refl _) .slnil ⟨Frz.refl _, Frz.bp (.head _) rfl, trivial⟩) ?_
  (repeat((conv=>whnf);first|apply ω0|apply ω1|apply ω2|refine τ3 rfl ?_|refine τ4 rfl ?_|refine ⟨rfl,?_⟩|apply τa|refine τb rfl ?_|refine ⟨⟨by kernel_rfl,by kernel_rfl⟩,?_⟩|refine ⟨by decide,?_⟩|apply τt|apply τf))
  refine aop_tells rfl rfl (cntf_rulK l (hidR n) 78 n (by omega) (fun i hi => hid1_spec _ _ (hc _ (by simp [List.getD, hi])))) ⟨AVle.refl _, AVle.refl _, trivial⟩ fun nx2 => ?_
  intro c h9; cases c
  all_goals
    (repeat((conv=>whnf);first|apply ω0|apply ω1|apply ω2|refine τ3 rfl ?_|refine τ4 rfl ?_|refine ⟨rfl,?_⟩|apply τa|refine τb rfl ?_|refine ⟨⟨by kernel_rfl,by kernel_rfl⟩,?_⟩|refine ⟨by decide,?_⟩|apply τt|apply τf))
    exact ret_tells rfl (le_bool h9)
end Go.Proofs.W

namespace Go.Proofs.W
open Go.Vl
set_option maxRecDepth 100000

theorem perm_part {seen : List Nat} {n : Nat} (hnd : seen.Nodup) (hlt : ∀ j ∈ seen, j < n) : ∃ post, (seen ++ post).Perm (List.range n) := by
  refine ⟨(List.range n).filter fun j => decide (j ∉ seen), ?_⟩
  refine (List.perm_ext_iff_of_nodup ?_ List.nodup_range).2 fun j => ?_
  · rw [List.nodup_append]
    refine ⟨hnd, List.nodup_range.filter _, fun a ha b hb hab => ?_⟩
    subst hab
    simp at hb
    exact hb.2 ha
  · simp only [List.mem_append, List.mem_filter, List.mem_range, decide_eq_true_eq]
    constructor
    · rintro (h | h)
      · exact hlt j h
      · exact h.1
    · intro h
      by_cases h1 : j ∈ seen
      · exact .inl h1
      · exact .inr ⟨h, h1⟩
theorem perm_len {seen : List Nat} {n : Nat} (hnd : seen.Nodup) (hlt : ∀ j ∈ seen, j < n) : seen.length ≤ n := by
  obtain ⟨post, h⟩ := perm_part hnd hlt
  have := h.length_eq
  simp at this
  omega
def keyAt (es : List (Value × AV)) (j : Nat) : Value := (es.getD j (.int .i64 0, .any)).1
theorem keyAt_some {es : List (Value × AV)} {k : Nat} {p : Value × AV} (h : es[k]? = some p) : keyAt es k = p.1 := by simp [keyAt, List.getD, h]
theorem keyAt_all (es : List (Value × AV)) : (List.range es.length).map (keyAt es) = es.map (·.1) := by
  refine List.ext_getElem (by simp) fun j h1 h2 => ?_
  have : j < es.length := by simpa using h1
  simp [keyAt, List.getD, this]
end Go.Proofs.W

namespace Go.Proofs
open Go.Shelf
shelf_lay_g SlLaysM.n6 Slgm 6 at Tryz 70 as Tryz.laysM6
end Go.Proofs
namespace Go.Proofs.W
open Go.Vl Go.Shelf
set_option maxRecDepth 100000

theorem keys_str (es : List (Value × AV)) (hky : ∀ p ∈ es, ∃ z, p.1 = .string z) : IterSet Tryz.prog 80 [] [.rp [.fm es]] (fun v : Value => [.v v]) (fun xs => xs.Perm (es.map (·.1))) := by
  intro i σ Cb Cp I J hc s0 nx nn h0
  refine ECall.wk (ecall_of_aw Tryz.func80 rfl rfl ?_)
  (repeat((conv=>whnf);first|apply ω0|apply ω2|refine τ3 rfl ?_|refine τ4 rfl ?_|refine ⟨rfl,?_⟩|apply τa|refine τb rfl ?_|refine ⟨⟨by kernel_rfl,by kernel_rfl⟩,?_⟩|refine ⟨by decide,?_⟩|apply τt|apply τf))
  refine aw_regionY (fun n => match n with | 0 => true | _ => false) 2 ?_
  (repeat((conv=>whnf);first|apply ω0|apply ω1|apply ω2|refine τ3 rfl ?_|refine τ4 rfl ?_|refine ⟨rfl,?_⟩|apply τa|refine τb rfl ?_|refine ⟨⟨by kernel_rfl,by kernel_rfl⟩,?_⟩|refine ⟨by decide,?_⟩|apply τt|apply τf))
  refine aop_rangeM rfl Tryz.underlying87 rfl ?_
  (repeat((conv=>whnf);first|apply ω0|apply ω1|apply ω2|refine τ3 rfl ?_|refine τ4 rfl ?_|refine ⟨rfl,?_⟩|apply τa|refine τb rfl ?_|refine ⟨⟨by kernel_rfl,by kernel_rfl⟩,?_⟩|refine ⟨by decide,?_⟩|apply τt|apply τf))
  refine aw_loop (fun y : List Nat × σ × Nat => mk 14 [(0, .yl i), (5, .bp (nn, nx) 0)] ⟨((nn, nx), .it es y.1) :: Cb y.2.1, Cp y.2.1, y.2.2, nn + 1⟩) (fun y => y.1.Nodup ∧ (∀ j ∈ y.1, j < es.length) ∧ I (y.1.map (keyAt es)) y.2.1) (fun y => es.length - y.1.length) ?_ ?_
  · exact ⟨([], s0, nx + 1), ⟨List.nodup_nil, (fun j (h : j ∈ []) => by cases h), h0⟩, ele_tell _ _ rfl rfl (List.Sublist.refl _) (List.Sublist.refl _) ⟨rfl, OwnLe.refl _, BxLe.refl _⟩ (PmEq.refl _) ⟨AVle.refl _, AVle.refl _, trivial⟩⟩
  · rintro ⟨seen, s, nx1⟩ ⟨h1, h2, h3⟩
    dsimp only at h1 h2 h3
    (repeat((conv=>whnf);first|apply ω0|apply ω2|refine τ3 rfl ?_|refine τ4 rfl ?_|refine ⟨rfl,?_⟩|apply τa|refine τb rfl ?_|refine ⟨⟨by kernel_rfl,by kernel_rfl⟩,?_⟩|refine ⟨by decide,?_⟩|apply τt|apply τf))
    refine aw_regionY (fun n => match n with | 0 => true | _ => false) 1 ?_
    refine aop_nextH (i := (nn, nx)) (es := es) (seen := seen) (R := Cb s) rfl rfl rfl (fun k p hk hn => ?_) (fun hall => ?_)
    · obtain ⟨z, hz⟩ := hky p (List.mem_of_getElem? hk)
      obtain ⟨key, val⟩ := p
      dsimp only at hz
      subst hz
      have hk2 : k < es.length := (List.getElem?_eq_some_iff.1 hk).1
      have hka : keyAt es k = .string z := keyAt_some hk
      obtain ⟨post, hperm⟩ := perm_left h1 h2 hk2 hn
      have hS : (seen.map (keyAt es) ++ (.string z) :: post.map (keyAt es)).Perm (es.map (·.1)) := by
        rw [← keyAt_all, ← hka]
        simpa using hperm.map (keyAt es)
      have hlen := hperm.length_eq
      have hnd : (seen ++ [k]).Nodup := by
        rw [List.nodup_append]
        exact ⟨h1, by simp, fun a ha b hb hab => by rw [List.mem_singleton] at hb; subst hb; subst hab; exact hn ha⟩
      have hlt : ∀ j ∈ seen ++ [k], j < es.length := fun j hj => by
        rcases List.mem_append.1 hj with h | h
        · exact h2 j h
        · rw [List.mem_singleton] at h; omega
      have hmk : (seen ++ [k]).map (keyAt es) = seen.map (keyAt es) ++ [.string z] := by rw [List.map_append, ← hka]; rfl
      have hlen2 : seen.length < es.length := by simp at hlen; omega
      (repeat((conv=>whnf);first|apply ω0|apply ω2|refine τ3 rfl ?_|refine τ4 rfl ?_|refine ⟨rfl,?_⟩|apply τa|refine τb rfl ?_|refine ⟨⟨by kernel_rfl,by kernel_rfl⟩,?_⟩|refine ⟨by decide,?_⟩|apply τt|apply τf))
      refine aw_regionY (fun n => match n with | 0 => true | _ => false) 1 ?_
      refine aop_entryH (i := (nn, nx)) (seen := seen) (k := k) (R := Cb s) rfl rfl rfl hk ?_
      (repeat((conv=>whnf);first|apply ω0|apply ω2|refine τ3 rfl ?_|refine τ4 rfl ?_|refine ⟨rfl,?_⟩|apply τa|refine τb rfl ?_|refine ⟨⟨by kernel_rfl,by kernel_rfl⟩,?_⟩|refine ⟨by decide,?_⟩|apply τt|apply τf))
      refine aw_regionY (fun n => match n with | 0 => true | _ => false) 3 ?_
      (repeat((conv=>whnf);first|apply ω0|apply ω1|apply ω2|refine τ3 rfl ?_|refine τ4 rfl ?_|refine ⟨rfl,?_⟩|apply τa|refine τb rfl ?_|refine ⟨⟨by kernel_rfl,by kernel_rfl⟩,?_⟩|refine ⟨by decide,?_⟩|apply τt|apply τf))
      refine aop_hand [((nn, nx), .it es (seen ++ [k]))] [] rfl rfl rfl (hc _ hS) rfl h3 ⟨AVle.refl _, trivial⟩ (fun s' nx' hI => ?_) (fun s' nx' hJ => ?_)
      · (repeat((conv=>whnf);first|apply ω0|apply ω1|apply ω2|refine τ3 rfl ?_|refine τ4 rfl ?_|refine ⟨rfl,?_⟩|apply τa|refine τb rfl ?_|refine ⟨⟨by kernel_rfl,by kernel_rfl⟩,?_⟩|refine ⟨by decide,?_⟩|apply τt|apply τf))
        exact back (seen ++ [k], s', nx') ⟨hnd, hlt, by dsimp only; rw [hmk]; exact hI⟩ (by simp; omega) (ele_tell _ _ rfl rfl (List.Sublist.refl _) (List.Sublist.refl _) (BxLe.refl _) (PmEq.refl _) ⟨AVle.refl _, AVle.refl _, trivial⟩)
      · (repeat((conv=>whnf);first|apply ω0|apply ω1|apply ω2|refine τ3 rfl ?_|refine τ4 rfl ?_|refine ⟨rfl,?_⟩|apply τa|refine τb rfl ?_|refine ⟨⟨by kernel_rfl,by kernel_rfl⟩,?_⟩|refine ⟨by decide,?_⟩|apply τt|apply τf))
        exact ret_is rfl ⟨_, ⟨Cb s', Cp s', nx', nn⟩, AVle.refl _, hle_tell _ _ rfl (.cons _ (List.Sublist.refl _)) (List.Sublist.refl _) (BxLe.refl _) (PmEq.refl _), _, s', hS, .inr ⟨_, _, _, rfl, hJ⟩, rfl, rfl⟩
    · (repeat((conv=>whnf);first|apply ω0|apply ω1|apply ω2|refine τ3 rfl ?_|refine τ4 rfl ?_|refine ⟨rfl,?_⟩|apply τa|refine τb rfl ?_|refine ⟨⟨by kernel_rfl,by kernel_rfl⟩,?_⟩|refine ⟨by decide,?_⟩|apply τt|apply τf))
      refine ret_is rfl ⟨_, ⟨Cb s, Cp s, nx1, nn⟩, AVle.refl _, hle_tell _ _ rfl (.cons _ (List.Sublist.refl _)) (List.Sublist.refl _) (BxLe.refl _) (PmEq.refl _), _, s, ?_, .inl h3, rfl, rfl⟩
      rw [← keyAt_all]
      exact (perm_full h1 h2 hall).map _
def rowV (l : List Value) (k : Nat) : AV := .v (l.getD k (.bool false))
theorem le_rowV {l : List Value} {x : Value} {f' : Nat → AV} {i : Option Vl.Id} (h : f' 0 = .v x) : AVle (.os 1 (l.length + 1) (appF l.length (rowV l) f') i) (.os 1 (l ++ [x]).length (rowV (l ++ [x])) i) := by
  rw [List.length_append]
  refine AVle.os_fun (appF_one (fun k hk => ?_) ?_)
  · simp [rowV, List.getD, List.getElem?_append_left hk, hk]
  · rw [h]; simp [rowV, List.getD]
theorem b_str : Tryz.prog.bytesOf 9 = 16 := by kernel_rfl
theorem mapsKeys_str (es : List (Value × AV)) : Tells Tryz.prog 44 [.fm es] (.fn (.func 80) [] [.rp [.fm es]]) := by
  refine tells_of_aw Tryz.func44 rfl rfl fun nx => ?_
  (repeat ((conv=>whnf);first|refine ω0 ?_|refine ω1 ?_|refine ω2 ?_|refine ω3 ?_|refine ω4 rfl ?_|refine ω5 rfl ?_|refine ω6 ?_|refine ω7 ?_|refine ⟨rfl,?_⟩|refine ⟨trivial,?_⟩|refine ⟨⟨rfl,Nat.le_of_ble_eq_true rfl⟩,?_⟩|refine ⟨⟨by kernel_rfl,by kernel_rfl⟩,?_⟩|refine ⟨by decide,?_⟩|refine lit_true ?_|refine lit_false ?_))
  refine AW.le (ele_freeze (L := [(2, .fn (.func 80) [] [.rp [.fm es]])]) (bx := []) (pm := []) (nn := 1) [((0, nx), .c [.fm es])] rfl rfl (List.Sublist.refl _) .slnil ⟨Frz.fn trivial ⟨Frz.bp (.head _) rfl, trivial⟩, trivial⟩) ?_
  (repeat((conv=>whnf);first|apply ω0|apply ω1|apply ω2|refine τ3 rfl ?_|refine τ4 rfl ?_|refine ⟨rfl,?_⟩|apply τa|refine τb rfl ?_|refine ⟨⟨by kernel_rfl,by kernel_rfl⟩,?_⟩|refine ⟨by decide,?_⟩|apply τt|apply τf))
  exact ret_tells rfl (AVle.refl _)
set_option maxHeartbeats 1000000 in
theorem appendSeq_str {it : FuncId} {es : List (Value × AV)} {S : List Value → Prop} (hit : IterSet Tryz.prog it [] [.rp [.fm es]] (fun v : Value => [.v v]) S) (hS : ∀ xs, S xs → xs.length ≤ 1000000 ∧ ∀ v ∈ xs, ∃ z, v = .string z) (nx : Nat) :
    ECall Tryz.prog 109 [.os 0 0 (fun _ => .any) none, .fn (.func it) [] [.rp [.fm es]]] ⟨[], [], nx, 0⟩ fun r h' => ∃ xs oi nx' nn', S xs ∧ (oi = none → xs = []) ∧ r = .os 1 xs.length (rowV xs) oi ∧ h' = ⟨[], pmOf oi (xs.length * 1), nx', nn'⟩ := by
  refine ECall.wk (ecall_of_aw Tryz.func109 rfl rfl ?_)
  (repeat((conv=>whnf);first|apply ω0|apply ω1|apply ω2|refine τ3 rfl ?_|refine τ4 rfl ?_|refine ⟨rfl,?_⟩|apply τa|refine τb rfl ?_|refine ⟨⟨by kernel_rfl,by kernel_rfl⟩,?_⟩|refine ⟨by decide,?_⟩|apply τt|apply τf))
  refine AW.le (E' := mk 13 [(2, .bp (0, nx) 0), (6, .fn (.func it) [] [.rp [.fm es]])] ⟨[((0, nx), .c [.os 1 0 (rowV []) none])], [], nx + 1, 1⟩) ?_ ?_
  · exact ele_tell _ _ rfl rfl (List.Sublist.refl _) .slnil ⟨rfl, ⟨AVle.os_nil, trivial⟩, trivial⟩ trivial ⟨AVle.refl _, AVle.refl _, trivial⟩
  refine aw_forS (σ := Nat × (Nat → AV) × Option Vl.Id) (α := Value) (e := fun v => [.v v]) (S := S) (first' := []) (caps' := [.rp [.fm es]]) (fun x => [((0, nx), .c [.os 1 x.1 x.2.1 x.2.2])]) (fun x => pmOf x.2.2 (x.1 * 1)) (fun pre x => x.1 = pre.length ∧ (∀ k, k < x.1 → x.2.1 k = rowV pre k) ∧ (x.2.2 = none → pre = [])) (0, rowV [], none) rfl rfl hit (LeL.refl _) (LeL.refl _) rfl rfl ⟨rfl, fun _ _ => rfl, fun _ => rfl⟩ (fun _ => rfl) ?_ ?_
  · rintro pre x post ⟨n, f, oi⟩ nx3 nn3 hx ⟨hp, hf, ho⟩
    dsimp only at hp hf ho
    subst hp
    obtain ⟨hlen, hty⟩ := hS _ hx
    obtain ⟨z, rfl⟩ := hty x (by simp)
    simp at hlen
    (repeat((conv=>whnf);first|apply ω0|apply ω2|refine τ3 rfl ?_|refine τ4 rfl ?_|refine ⟨rfl,?_⟩|apply τa|refine τb rfl ?_|refine ⟨⟨by kernel_rfl,by kernel_rfl⟩,?_⟩|refine ⟨by decide,?_⟩|apply τt|apply τf))
    refine aw_region ?_
    (repeat((conv=>whnf);first|apply ω0|apply ω2|refine τ3 rfl ?_|refine τ4 rfl ?_|refine ⟨rfl,?_⟩|apply τa|refine τb rfl ?_|refine ⟨⟨by kernel_rfl,by kernel_rfl⟩,?_⟩|refine ⟨by decide,?_⟩|apply τt|apply τf))
    refine aw_regionY (fun n => match n with | 0 => true | _ => false) 4 ?_
    (repeat((conv=>whnf);first|apply ω0|apply ω1|apply ω2|refine τ3 rfl ?_|refine τ4 rfl ?_|refine ⟨rfl,?_⟩|apply τa|refine τb rfl ?_|refine ⟨⟨by kernel_rfl,by kernel_rfl⟩,?_⟩|refine ⟨by decide,?_⟩|apply τt|apply τf))
    refine aop_append1 (e := 9) (c := 1) (pm := []) (n := pre.length) (oi := oi) (sz := 1) (f := f) rfl rfl (.inr ⟨_, rfl⟩) (by kernel_rfl) (by kernel_rfl) (by kernel_rfl) (.inr rfl) (by kernel_rfl) (List.append_nil _).symm (oneRow_one rfl) (by rw [b_str]; omega) (by omega) ?_
    (repeat((conv=>whnf);first|apply ω0|apply ω1|apply ω2|refine τ3 rfl ?_|refine τ4 rfl ?_|refine ⟨rfl,?_⟩|apply τa|refine τb rfl ?_|refine ⟨⟨by kernel_rfl,by kernel_rfl⟩,?_⟩|refine ⟨by decide,?_⟩|apply τt|apply τf))
    refine ⟨(pre.length + 1, _, some (nn3, nx3)), .inl ⟨rfl, by simp, fun k hk => ?_, fun h => by cases h⟩, rfl, rfl⟩
    refine appF_one (fun k hk => ?_) ?_ k hk
    · rw [hf k hk]; simp [rowV, List.getD, List.getElem?_append_left hk, hk]
    · simp [rowV, List.getD]; rfl
  · rintro xs ⟨n, f, oi⟩ nx3 nn3 hx ⟨hp, hf, ho⟩
    dsimp only at hp hf ho
    subst hp
    (repeat((conv=>whnf);first|apply ω0|apply ω1|apply ω2|refine τ3 rfl ?_|refine τ4 rfl ?_|refine ⟨rfl,?_⟩|apply τa|refine τb rfl ?_|refine ⟨⟨by kernel_rfl,by kernel_rfl⟩,?_⟩|refine ⟨by decide,?_⟩|apply τt|apply τf))
    refine ret_is rfl ⟨.os 1 xs.length (rowV xs) oi, ⟨[], pmOf oi (xs.length * 1), nx3, 0⟩, AVle.os_fun hf, ?_, xs, oi, nx3, 0, hx, ho, rfl, rfl⟩
    exact hle_tell [] _ rfl (List.nil_sublist _) (List.Sublist.refl _) trivial (PmEq.refl _)
theorem collect_str (es : List (Value × AV)) (hl : es.length ≤ 1000000) (hky : ∀ p ∈ es, ∃ z, p.1 = .string z) (nx : Nat) :
    ECall Tryz.prog 79 [.fn (.func 80) [] [.rp [.fm es]]] ⟨[], [], nx, 0⟩ (thawQ (fun n f => ∃ xs : List Value, xs.Perm (es.map (·.1)) ∧ n = xs.length ∧ ∀ k, k < n → f k = rowV xs k) 1) := by
  refine ecall_thaw (by decide) (fun n f ⟨xs, _, _, hf⟩ k hk c hc => ?_) ?_
  · rw [hf k hk] at hc
    obtain rfl : c = rowV xs k := by simpa [rowV, AV.cells] using hc
    exact Flat.v _
  refine ECall.wk (ecall_of_aw Tryz.func79 rfl rfl ?_)
  (repeat((conv=>whnf);first|apply ω0|apply ω1|apply ω2|refine τ3 rfl ?_|refine τ4 rfl ?_|refine ⟨rfl,?_⟩|apply τa|refine τb rfl ?_|refine ⟨⟨by kernel_rfl,by kernel_rfl⟩,?_⟩|refine ⟨by decide,?_⟩|apply τt|apply τf))
  refine aop_call rfl rfl (ECall.args (bs := [.os 0 0 (fun _ => .any) none, .fn (.func 80) [] [.rp [.fm es]]]) ⟨AVle.refl _, AVle.refl _, trivial⟩ (appendSeq_str (keys_str es hky) (fun xs hx => ⟨by have := hx.length_eq; simp at this; omega, fun v hv => ?_⟩) nx)) fun r h' hq => ?_
  · obtain ⟨p, hp, rfl⟩ := List.mem_map.1 (hx.mem_iff.1 hv)
    exact hky p hp
  obtain ⟨xs, oi, nx', nn', hS, ho, rfl, rfl⟩ := hq
  refine Named.same ?_
  (repeat((conv=>whnf);first|apply ω0|apply ω1|apply ω2|refine τ3 rfl ?_|refine τ4 rfl ?_|refine ⟨rfl,?_⟩|apply τa|refine τb rfl ?_|refine ⟨⟨by kernel_rfl,by kernel_rfl⟩,?_⟩|refine ⟨by decide,?_⟩|apply τt|apply τf))
  exact ret_is rfl ⟨_, _, AVle.refl _, HLe.refl _, xs.length, rowV xs, oi, nx', _, ⟨xs, hS, rfl, fun _ _ => rfl⟩, (fun h => by rw [ho h]; rfl), rfl, rfl⟩
def eA_str (z : List UInt8) : AV := .v (encStr z)
def rowH_str (s : Nat) (d : Array (List UInt8)) (tl : List AV) : List (Vl.Id × Own) := [((0, s), .c (rowG eA_str d tl))]
theorem sort_str_eqK (l : List (List UInt8)) : l.mergeSort (fun x y => decide (x ≤ y)) = sortBy Go.Sort.ltStr l := by
  unfold sortBy
  congr 1
  funext x y
  simp only [Go.Sort.ltStr]
  by_cases h : x ≤ y
  · rw [decide_eq_true h, decide_eq_false (List.not_lt.2 h)]; rfl
  · rw [decide_eq_false h, decide_eq_true (List.not_le.1 h)]; rfl
theorem ltStr_tot : ∀ x y : List UInt8, Go.Sort.ltStr x y = false → Go.Sort.ltStr y x = false → x = y := fun x y h1 h2 => by
  simp only [Go.Sort.ltStr, decide_eq_false_iff_not, List.not_lt] at h1 h2
  exact List.le_antisymm h2 h1
theorem sortS_str (d0 : Array (List UInt8)) (tl : List AV) (n : Nat) (hn : d0.size = n) (hsz : n ≤ 1000000) (s cap nx : Nat) :
    ECall Tryz.prog 70 [.hs (0, s) 0 n cap] ⟨rowH_str s d0 tl, [], nx, 1⟩ (fun r h' => ∃ nx' nn', h' = ⟨rowH_str s (sortBy Go.Sort.ltStr d0.toList).toArray tl, [], nx', nn'⟩) := by
  subst hn
  have h := ecall_sort1 (P := Tryz.prog) (enc := encStr) (d := d0) (d' := (sortBy Go.Sort.ltStr d0.toList).toArray) (tl := tl) (nm := 0) (s := s) (cap := cap) (nx := nx) (nn := 1) (f := 70) ⟨_, Tryz.func70, rfl, rfl⟩ (by simp [sortBy_length]) (fun w blk hH hb => by
    have k := AnyM.slices_Sort_string Tryz.laysM6 blk 0 cap d0.toList w hH hb (by simp; omega)
    rw [sort_str_eqK] at k
    exact k)
  exact h.mono fun r h' ⟨_, h2⟩ => ⟨nx, 1, h2⟩
theorem sort0_str (F : Nat → AV) : Tells Tryz.prog 70 [.os 1 0 F none] (.tup []) :=
  ecall_sort0 (nx := 0) ⟨_, Tryz.func70, rfl, rfl⟩ fun p cap w => AnyM.slices_Sort_string_none Tryz.laysM6 p cap w
def dec_str : Value → List UInt8
  | .string z => z.data.toList
  | _ => []
theorem sorted_str (es : List (Value × AV)) (zs : List (List UInt8)) (hz : es.map (·.1) = zs.map encStr) (hl : es.length ≤ 1000000) :
    Tells Tryz.prog 43 [.fn (.func 80) [] [.rp [.fm es]]] (slOf 1 eA_str [] (sortBy Go.Sort.ltStr zs)) := by
  have hky : ∀ p ∈ es, ∃ z, p.1 = encStr z := fun p hp => by
    have : p.1 ∈ zs.map encStr := hz ▸ List.mem_map_of_mem hp
    obtain ⟨z, _, h⟩ := List.mem_map.1 this
    exact ⟨z, h.symm⟩
  refine tells_of_aw Tryz.func43 rfl rfl fun nx => ?_
  (repeat((conv=>whnf);first|apply ω0|apply ω1|apply ω2|refine τ3 rfl ?_|refine τ4 rfl ?_|refine ⟨rfl,?_⟩|apply τa|refine τb rfl ?_|refine ⟨⟨by kernel_rfl,by kernel_rfl⟩,?_⟩|refine ⟨by decide,?_⟩|apply τt|apply τf))
  refine aop_call rfl rfl (collect_str es hl (fun p hp => let ⟨z, h⟩ := hky p hp; ⟨⟨z.toArray⟩, h⟩) nx) fun r h' hq => ?_
  obtain ⟨n, f, ⟨xs, hxp, hxn, hxf⟩, hq⟩ := hq
  obtain ⟨ys, rfl⟩ : ∃ ys : List (List UInt8), xs = ys.map encStr := by
    have hall : ∀ v ∈ xs, ∃ z, v = encStr z := fun v hv => by
      have hv2 := hxp.mem_iff.1 hv
      rw [hz] at hv2
      obtain ⟨z, _, h⟩ := List.mem_map.1 hv2
      exact ⟨z, h.symm⟩
    clear hxp hxn hxf hq
    induction xs with
    | nil => exact ⟨[], rfl⟩
    | cons x xs ih =>
      obtain ⟨z, rfl⟩ := hall x (by simp)
      obtain ⟨ys, rfl⟩ := ih fun v hv => hall v (by simp [hv])
      exact ⟨z :: ys, rfl⟩
  have hperm : ys.Perm zs := by
    rw [hz] at hxp
    have h2 := hxp.map dec_str
    rwa [List.map_map, List.map_map, show (dec_str ∘ encStr) = id from rfl, List.map_id, List.map_id] at h2
  have hsz : n ≤ 1000000 := by
    have := hxp.length_eq
    simp at this
    rw [hxn]; simp; omega
  rcases hq with ⟨rfl, hb, hp, rfl⟩ | ⟨s, cap, more, nx', nn', hcap, hmore, rfl, rfl⟩
  · have hys : ys = [] := by cases ys with | nil => rfl | cons y ys => simp at hxn
    subst hys
    have hzs : zs = [] := hperm.symm.eq_nil
    subst hzs
    rw [show sortBy Go.Sort.ltStr ([] : List (List UInt8)) = [] from List.eq_nil_of_length_eq_zero sortBy_length]
    obtain ⟨bx, pm, nxx, nnn⟩ := h'
    dsimp only at hb hp
    subst hb; subst hp
    refine Named.same ?_
    (repeat((conv=>whnf);first|apply ω0|apply ω1|apply ω2|refine τ3 rfl ?_|refine τ4 rfl ?_|refine ⟨rfl,?_⟩|apply τa|refine τb rfl ?_|refine ⟨⟨by kernel_rfl,by kernel_rfl⟩,?_⟩|refine ⟨by decide,?_⟩|apply τt|apply τf))
    refine aop_tells rfl rfl (sort0_str f) ⟨AVle.refl _, trivial⟩ fun nx2 => ?_
    (repeat((conv=>whnf);first|apply ω0|apply ω1|apply ω2|refine τ3 rfl ?_|refine τ4 rfl ?_|refine ⟨rfl,?_⟩|apply τa|refine τb rfl ?_|refine ⟨⟨by kernel_rfl,by kernel_rfl⟩,?_⟩|refine ⟨by decide,?_⟩|apply τt|apply τf))
    exact ret_tells rfl AVle.os_sl0
  · refine Named.same ?_
    have hcells : rowCells n f = ys.toArray.toList.map eA_str := by
      have key : ∀ m, m ≤ n → rowCells m f = (ys.take m).map eA_str := by
        intro m
        induction m with
        | zero => intro _; rfl
        | succ m ih =>
          intro hm
          have hm' : m < ys.length := by simp at hxn; omega
          have e : rowCells (m + 1) f = rowCells m f ++ (f m).cells := by unfold rowCells; rw [List.range_succ, List.flatMap_append]; simp
          rw [e, ih (by omega), hxf m (by omega), List.take_add_one, List.map_append]
          simp [rowV, List.getD, hm', AV.cells, eA_str]
      rw [key n (Nat.le_refl _), List.take_of_length_le (by simp at hxn; omega)]
    have hnn : ys.toArray.size = n := by simp at hxn; simp [hxn]
    rw [hcells]
    (repeat((conv=>whnf);first|apply ω0|apply ω2|refine τ3 rfl ?_|refine τ4 rfl ?_|refine ⟨rfl,?_⟩|apply τa|refine τb rfl ?_|refine ⟨⟨by kernel_rfl,by kernel_rfl⟩,?_⟩|refine ⟨by decide,?_⟩|apply τt|apply τf))
    refine AW.le (E' := mk 9 [(3, .hs (0, s) 0 n cap)] ⟨rowH_str s ys.toArray (List.replicate more .any), [], nx', 1⟩) (ele_tell _ _ rfl rfl (List.Sublist.refl _) .slnil (BxLe.refl _) trivial ⟨AVle.refl _, trivial⟩) ?_
    (repeat((conv=>whnf);first|apply ω0|apply ω1|apply ω2|refine τ3 rfl ?_|refine τ4 rfl ?_|refine ⟨rfl,?_⟩|apply τa|refine τb rfl ?_|refine ⟨⟨by kernel_rfl,by kernel_rfl⟩,?_⟩|refine ⟨by decide,?_⟩|apply τt|apply τf))
    refine aop_callF (xs := [.hs (0, s) 0 n cap]) [] [] 1 rfl rfl rfl rfl ⟨AVle.refl _, trivial⟩ (sortS_str ys.toArray _ n hnn hsz s cap _) (BxLe.refl _) (PmEq.refl _) rfl fun r h' hq => ?_
    obtain ⟨nx2, nn2, rfl⟩ := hq
    have hd : (sortBy Go.Sort.ltStr ys.toArray.toList).toArray.toList = sortBy Go.Sort.ltStr zs := by
      show sortBy Go.Sort.ltStr ys = _
      exact sortBy_of_perm Go.Sort.swo_ltStr ltStr_tot hperm
    generalize (sortBy Go.Sort.ltStr ys.toArray.toList).toArray = d' at hd ⊢
    have hdn : d'.size = n := by
      rw [← Array.length_toList, hd, sortBy_length, ← hperm.length_eq]
      simpa using hnn
    have hln : (sortBy Go.Sort.ltStr zs).length = n := by rw [← hd]; simpa using hdn
    (repeat((conv=>whnf);first|apply ω0|apply ω2|refine τ3 rfl ?_|refine τ4 rfl ?_|refine ⟨rfl,?_⟩|apply τa|refine τb rfl ?_|refine ⟨⟨by kernel_rfl,by kernel_rfl⟩,?_⟩|refine ⟨by decide,?_⟩|apply τt|apply τf))
    refine AW.le (ele_freeze (L := [(3, slOf 1 eA_str [] (sortBy Go.Sort.ltStr zs))]) (bx := []) (pm := []) (nn := 1) [((0, s), .c (rowG eA_str d' (List.replicate more .any)))] rfl rfl (List.Sublist.refl _) .slnil ⟨?_, trivial⟩) ?_
    · unfold slOf
      rw [hln]
      refine Frz.hs1 (.head _) hcap (by rw [rowG_len]; omega) (fun k _ => rfl) (fun k hk => ?_)
      unfold rowG
      rw [List.getElem?_append_left (by simpa [hdn] using hk), List.getElem?_map, ← hd]
      have : k < d'.size := by omega
      simp [List.getD, this]
    · (repeat((conv=>whnf);first|apply ω0|apply ω1|apply ω2|refine τ3 rfl ?_|refine τ4 rfl ?_|refine ⟨rfl,?_⟩|apply τa|refine τb rfl ?_|refine ⟨⟨by kernel_rfl,by kernel_rfl⟩,?_⟩|refine ⟨by decide,?_⟩|apply τt|apply τf))
      exact ret_tells rfl (AVle.refl _)
end Go.Proofs.W

namespace Go.Proofs.W
open Go.Vl
set_option maxRecDepth 100000

/- Rules in groups by their names: the pure side, and how a map of rows of one's own holds them. -/
def keyB (s t : ByteArray) : Bool := s.toList == t.toList
theorem keyB_eq {s t : ByteArray} : keyB s t = true ↔ s = t := by
  unfold keyB
  rw [beq_iff_eq, Lib.toList_data, Lib.toList_data]
  constructor
  · intro h
    obtain ⟨⟨a⟩⟩ := s
    obtain ⟨⟨b⟩⟩ := t
    simpa using h
  · rintro rfl; rfl
def gget : List (ByteArray × List Rul) → ByteArray → List Rul
  | [], _ => []
  | h :: H, s => if keyB s h.1 then h.2 else gget H s
def gadd : List (ByteArray × List Rul) → ByteArray → Rul → List (ByteArray × List Rul)
  | [], s, n => [(s, [n])]
  | h :: H, s, n => if keyB s h.1 then (h.1, h.2 ++ [n]) :: H else h :: gadd H s n
def gstep (H : List (ByteArray × List Rul)) (r : Rul) : List (ByteArray × List Rul) :=
  match normR r with
  | none => H
  | some n => if hidden (gget H r.name) n then H else gadd H r.name n
def groupsOf (rs : List Rul) : List (ByteArray × List Rul) := rs.foldl gstep []
theorem groupsOf_next {rs : List Rul} {i : Nat} (h : i < rs.length) : groupsOf (rs.take (i + 1)) = gstep (groupsOf (rs.take i)) (rs.getD i rul0) := by
  unfold groupsOf; rw [take_getD rul0 h, List.foldl_append]; rfl

def rulF (R : List Rul) (k : Nat) : AV := rulA (R.getD k rul0)
abbrev Grp := ByteArray × List Rul × Nat
def gE (g : Grp) : Value × AV := (.string g.1, .os 4 g.2.1.length (rulF g.2.1) (some (g.2.2, g.2.2)))
def gF (g : Grp) : Value × AV := (.string g.1, ruls g.2.1)
def gP (g : Grp) : Vl.Id × Nat := ((g.2.2, g.2.2), g.2.1.length * 4)
def strip (G : List Grp) : List (ByteArray × List Rul) := G.map fun g => (g.1, g.2.1)
theorem gE_fit (G : List Grp) : keysFit .string (G.map gE) = true := by simp [keysFit, gE, keyFit]
theorem gF_fit (G : List Grp) : keysFit .string (G.map gF) = true := by simp [keysFit, gF, keyFit]
theorem alook_none {s : ByteArray} {e : Grp → Value × AV} (he : ∀ g, (e g).1 = .string g.1) : ∀ {G : List Grp}, (∀ g ∈ G, keyB s g.1 = false) → alook (.string s) (G.map e) = none
  | [], _ => rfl
  | g :: G, h => by
    have h0 : (s.toList == g.1.toList) = false := h g (.head _)
    show (bif keyIs (.string s) (e g).1 then _ else alook (.string s) (G.map e)) = none
    rw [he g]
    show (bif s.toList == g.1.toList then _ else alook (.string s) (G.map e)) = none
    rw [h0]
    exact alook_none he fun g' hg => h g' (.tail _ hg)
theorem alook_at {s : ByteArray} {e : Grp → Value × AV} (he : ∀ g, (e g).1 = .string g.1) {l : List Rul} {st : Nat} {G2 : List Grp} : ∀ {G1 : List Grp}, (∀ g ∈ G1, keyB s g.1 = false) → alook (.string s) ((G1 ++ (s, l, st) :: G2).map e) = some (e (s, l, st)).2
  | [], _ => by
    show (bif keyIs (.string s) (e (s, l, st)).1 then _ else _) = _
    rw [he]
    show (bif s.toList == s.toList then _ else _) = _
    rw [beq_self_eq_true]; rfl
  | g :: G, h => by
    have h0 : (s.toList == g.1.toList) = false := h g (.head _)
    show (bif keyIs (.string s) (e g).1 then _ else alook (.string s) ((G ++ (s, l, st) :: G2).map e)) = _
    rw [he g]
    show (bif s.toList == g.1.toList then _ else _) = _
    rw [h0]
    exact alook_at he fun g' hg => h g' (.tail _ hg)
theorem aput_none {s : ByteArray} {v : AV} : ∀ {G : List Grp}, (∀ g ∈ G, keyB s g.1 = false) → aput (.string s) v (G.map gE) = G.map gE ++ [(.string s, v)]
  | [], _ => rfl
  | g :: G, h => by
    have h0 : (s.toList == g.1.toList) = false := h g (.head _)
    show (bif s.toList == g.1.toList then _ else gE g :: aput (.string s) v (G.map gE)) = _
    rw [h0, aput_none fun g' hg => h g' (.tail _ hg)]; rfl
theorem aput_at {s : ByteArray} {v : AV} {l : List Rul} {st : Nat} {G2 : List Grp} : ∀ {G1 : List Grp}, (∀ g ∈ G1, keyB s g.1 = false) → aput (.string s) v ((G1 ++ (s, l, st) :: G2).map gE) = G1.map gE ++ (.string s, v) :: G2.map gE
  | [], _ => by
    show (bif s.toList == s.toList then _ else _) = _
    rw [beq_self_eq_true]; rfl
  | g :: G, h => by
    have h0 : (s.toList == g.1.toList) = false := h g (.head _)
    show (bif s.toList == g.1.toList then _ else gE g :: aput (.string s) v ((G ++ (s, l, st) :: G2).map gE)) = _
    rw [h0, aput_at fun g' hg => h g' (.tail _ hg)]; rfl
theorem gget_none {s : ByteArray} : ∀ {G : List Grp}, (∀ g ∈ G, keyB s g.1 = false) → gget (strip G) s = []
  | [], _ => rfl
  | g :: G, h => by
    show (if keyB s g.1 = true then _ else gget (strip G) s) = _
    rw [if_neg (by rw [h g (.head _)]; decide)]
    exact gget_none fun g' hg => h g' (.tail _ hg)
theorem gget_at {s : ByteArray} {l : List Rul} {st : Nat} {G2 : List Grp} : ∀ {G1 : List Grp}, (∀ g ∈ G1, keyB s g.1 = false) → gget (strip (G1 ++ (s, l, st) :: G2)) s = l
  | [], _ => if_pos (keyB_eq.2 rfl)
  | g :: G, h => by
    show (if keyB s g.1 = true then _ else gget (strip (G ++ _)) s) = _
    rw [if_neg (by rw [h g (.head _)]; decide)]
    exact gget_at fun g' hg => h g' (.tail _ hg)
theorem gadd_none {s : ByteArray} {n : Rul} {st : Nat} : ∀ {G : List Grp}, (∀ g ∈ G, keyB s g.1 = false) → gadd (strip G) s n = strip (G ++ [(s, [n], st)])
  | [], _ => rfl
  | g :: G, h => by
    show (if keyB s g.1 = true then _ else _ :: gadd (strip G) s n) = _
    rw [if_neg (by rw [h g (.head _)]; decide), gadd_none (st := st) fun g' hg => h g' (.tail _ hg)]; rfl
theorem gadd_at {s : ByteArray} {n : Rul} {l : List Rul} {st st' : Nat} {G2 : List Grp} : ∀ {G1 : List Grp}, (∀ g ∈ G1, keyB s g.1 = false) → gadd (strip (G1 ++ (s, l, st) :: G2)) s n = strip (G1 ++ (s, l ++ [n], st') :: G2)
  | [], _ => if_pos (keyB_eq.2 rfl)
  | g :: G, h => by
    show (if keyB s g.1 = true then _ else _ :: gadd (strip (G ++ (s, l, st) :: G2)) s n) = _
    rw [if_neg (by rw [h g (.head _)]; decide), gadd_at (st' := st') fun g' hg => h g' (.tail _ hg)]; rfl
/-- A name has a group, or none. -/
theorem grp_cases (s : ByteArray) : ∀ (G : List Grp), (∀ g ∈ G, keyB s g.1 = false) ∨ ∃ G1 l st G2, G = G1 ++ (s, l, st) :: G2 ∧ ∀ g ∈ G1, keyB s g.1 = false
  | [] => .inl (by simp)
  | g :: G => by
    cases hk : keyB s g.1 with
    | true =>
      obtain ⟨t, l, st⟩ := g
      obtain rfl : s = t := keyB_eq.1 hk
      exact .inr ⟨[], l, st, G, rfl, by simp⟩
    | false =>
      rcases grp_cases s G with h | ⟨G1, l, st, G2, rfl, h⟩
      · exact .inl fun g' hg => by rcases List.mem_cons.1 hg with rfl | hg; exact hk; exact h g' hg
      · exact .inr ⟨g :: G1, l, st, G2, rfl, fun g' hg => by rcases List.mem_cons.1 hg with rfl | hg; exact hk; exact h g' hg⟩
theorem permGet_at {s : ByteArray} {l : List Rul} {st : Nat} {G2 : List Grp} : ∀ {G1 : List Grp}, ((G1 ++ (s, l, st) :: G2).map (·.2.2)).Nodup → permGet st ((G1 ++ (s, l, st) :: G2).map gP) = some (st, l.length * 4)
  | [], _ => by
    show (bif Nat.beq st st then _ else _) = _
    rw [Nat.beq_refl]; rfl
  | g :: G, h => by
    simp only [List.cons_append, List.map_cons, List.nodup_cons] at h
    have h0 : Nat.beq g.2.2 st = false := by
      cases hb : Nat.beq g.2.2 st with
      | false => rfl
      | true => exact absurd (by simp [Nat.eq_of_beq_eq_true hb]) h.1
    show (bif Nat.beq g.2.2 st then _ else permGet st ((G ++ (s, l, st) :: G2).map gP)) = _
    rw [h0]
    exact permGet_at h.2
theorem permErase_at {s : ByteArray} {l : List Rul} {st : Nat} {G2 : List Grp} : ∀ {G1 : List Grp}, ((G1 ++ (s, l, st) :: G2).map (·.2.2)).Nodup → permErase st ((G1 ++ (s, l, st) :: G2).map gP) = (G1 ++ G2).map gP
  | [], _ => by
    show (bif Nat.beq st st then _ else _) = _
    rw [Nat.beq_refl]; rfl
  | g :: G, h => by
    simp only [List.cons_append, List.map_cons, List.nodup_cons] at h
    have h0 : Nat.beq g.2.2 st = false := by
      cases hb : Nat.beq g.2.2 st with
      | false => rfl
      | true => exact absurd (by simp [Nat.eq_of_beq_eq_true hb]) h.1
    show (bif Nat.beq g.2.2 st then _ else gP g :: permErase st ((G ++ (s, l, st) :: G2).map gP)) = _
    rw [h0, permErase_at h.2]; rfl
theorem MpLe.app : ∀ {a b c d : List (Value × AV)}, MpLe a b → MpLe c d → MpLe (a ++ c) (b ++ d)
  | [], [], _, _, _, h => h
  | _ :: _, _ :: _, _, _, h, k => ⟨h.1, h.2.1, MpLe.app h.2.2 k⟩
  | [], _ :: _, _, _, h, _ => h.elim
  | _ :: _, [], _, _, h, _ => h.elim
theorem mp_none {s : ByteArray} {n : Rul} {st : Nat} {v : AV} {G : List Grp} (h : ∀ g ∈ G, keyB s g.1 = false) (hv : AVle v (.os 4 1 (rulF [n]) (some (st, st)))) : OwnLe (.mp (aput (.string s) v (G.map gE))) (.mp ((G ++ [(s, [n], st)]).map gE)) := by
  rw [aput_none h, List.map_append]
  exact MpLe.app (MpLe.refl _) ⟨rfl, hv, trivial⟩
theorem mp_at {s : ByteArray} {l l' : List Rul} {st st' : Nat} {v : AV} {G1 G2 : List Grp} (h : ∀ g ∈ G1, keyB s g.1 = false) (hv : AVle v (.os 4 l'.length (rulF l') (some (st', st')))) : OwnLe (.mp (aput (.string s) v ((G1 ++ (s, l, st) :: G2).map gE))) (.mp ((G1 ++ (s, l', st') :: G2).map gE)) := by
  rw [aput_at h, List.map_append]
  exact MpLe.app (MpLe.refl _) ⟨rfl, hv, MpLe.refl _⟩
theorem mp_frz : ∀ (G : List Grp), MpLe (G.map gE) (G.map gF)
  | [] => trivial
  | g :: G => ⟨rfl, AVle.os_sl, mp_frz G⟩
theorem aw_nodup {P : Program} {c : Code} {E : Env} {Q : AExit → Env → Prop} (h : (E.h.pm.map (·.1.2)).Nodup → AW P c E Q) : AW P c E Q := by
  have h2 := h
  unfold AW at h2 ⊢
  intro ro X M w0 a w g g0 hg hs
  refine h2 ?_ ro X M w0 a w g g0 hg hs
  have := hs.hok.nodup
  unfold Heap.ids at this
  rw [List.map_append] at this
  have h3 := (List.nodup_append.1 this).2.1
  have : ((E.h.pm.map (·.1.2)).map (fun i => g[i]?)).Nodup := h3
  exact (List.pairwise_map.1 this).imp fun h e => h (congrArg (fun i => g[i]?) e)
theorem ele_tellG {E : Env} {n : Nat} {bx : List (Vl.Id × Own)} {pm pm' : List (Vl.Id × Nat)} {nx nn : Nat} {L : List (Nat × AV)} (bx' : List (Vl.Id × Own)) (hn : E.n = n) (hx : E.h.nx = nx) (hb : bx'.Sublist E.h.bx) (hp : E.h.pm = pm') (hq : (pm.map (fun p => (p.1.2, p.2))).Perm (pm'.map (fun p => (p.1.2, p.2))))
    (eb : BxLe bx' bx) (hL : LeT E.t L) : ELe E (mk n L ⟨bx, pm, nx, nn⟩ E.df) := by
  subst hp
  refine ELe.trans (ele_tell (bx := bx) (pm := E.h.pm) (nn := nn) (L := L) bx' E.h.pm hn hx hb (List.Sublist.refl _) eb (PmEq.refl _) hL) ?_
  exact ele_like (E := mk n L ⟨bx, E.h.pm, nx, nn⟩ E.df) (h' := ⟨bx, pm, nx, nn⟩) ⟨.refl _, hq, rfl⟩
theorem le_catR {L : List Rul} {c : Rul} {f' : Nat → AV} {i j : Vl.Id} (hf : f' 0 = rulA c := by rfl) (h : i.2 = j.2 := by rfl) : AVle (.os 4 (L.length + 1) (appF L.length (rulF L) f') (some i)) (.os 4 (L ++ [c]).length (rulF (L ++ [c])) (some j)) := by
  rw [List.length_append]
  refine (AVle.os_fun (appF_one (fun k hk => ?_) ?_)).trans (AVle.os_nm h)
  · simp [rulF, List.getD, List.getElem?_append_left hk, hk]
  · rw [hf]; simp [rulF, List.getD]
end Go.Proofs.W

namespace Go.Proofs.W
open Go.Vl
set_option maxRecDepth 100000

def cutL (d : A2) (l : List Rul) : List Rul := (l.reverse.dropWhile fun r => decide (r.act = d)).reverse
def keysOf (H : List (ByteArray × List Rul)) : List (List UInt8) := sortBy Go.Sort.ltStr (H.map fun h => h.1.data.toList)
def outR (d : A2) (H : List (ByteArray × List Rul)) (N : List (List UInt8)) : List Rul := N.flatMap fun nm => cutL d (gget H ⟨nm.toArray⟩)
def normP (p : Pol) : Pol := ⟨p.dflt, p.x32, outR p.dflt (groupsOf p.rules) (keysOf (groupsOf p.rules))⟩
def pol0 : Pol := ⟨(0, 0), false, []⟩
def normA (p : Pol) : AV := if rightP p then .tup [polA (normP p), int 0] else .tup [polA pol0, int 13]
theorem cutL_none {d : A2} : cutL d [] = [] := rfl
theorem cutL_snoc {d : A2} {l : List Rul} {r : Rul} : cutL d (l ++ [r]) = if r.act = d then cutL d l else l ++ [r] := by
  unfold cutL
  rw [List.reverse_append]
  show (List.dropWhile _ (r :: l.reverse)).reverse = _
  by_cases h : r.act = d
  · rw [List.dropWhile_cons, if_pos (by simpa using h), if_pos h]
  · rw [List.dropWhile_cons, if_neg (by simpa using h), if_neg h]; simp
theorem take_last {l : List Rul} {m : Nat} (h0 : 0 < m) (h : m ≤ l.length) : l.take m = l.take (m - 1) ++ [l.getD (m - 1) rul0] := by
  obtain ⟨k, rfl⟩ : ∃ k, m = k + 1 := ⟨m - 1, by omega⟩
  exact take_getD rul0 (by omega)
def zpolL : List AV := [int 0, int 0, boolA false, .os 0 0 (fun _ => .any) none]
def polC (p : Pol) : List AV := [int p.dflt.1, int p.dflt.2, boolA p.x32, ruls p.rules]
theorem rightP_conds {p : Pol} (h : rightP p = true) : p.rules.length ≤ 500 ∧ ∀ r ∈ p.rules, r.conds.length ≤ 6 := by
  unfold rightP at h
  simp only [Bool.and_eq_true, decide_eq_true_eq, Bool.not_eq_true', List.any_eq_false] at h
  refine ⟨h.2.1, fun r hr => ?_⟩
  have : rightR r = true := by have := h.2.2 r hr; simpa using this
  unfold rightR at this
  simp only [Bool.and_eq_true, decide_eq_true_eq] at this
  exact this.2.2.1
theorem normR_conds {r n : Rul} (h : normR r = some n) : n.conds.length ≤ r.conds.length ∧ n.name = r.name ∧ n.act = r.act := by
  unfold normR at h
  split at h
  · cases h
  · cases h
    exact ⟨Nat.le_trans (cU_le _ _) (asks_len _), rfl, rfl⟩
theorem strip_len {G : List Grp} : (strip G).length = G.length := by simp [strip]
theorem gr_rul : growOk Tryz.prog 47 = true := by kernel_rfl
theorem gc_rul : Tryz.prog.cellsOf 47 = 4 := by kernel_rfl
theorem gb_rul : Tryz.prog.bytesOf 47 = 56 := by kernel_rfl
theorem perm_at {s : ByteArray} {l : List Rul} {n : Rul} {st st' nm : Nat} {G1 G2 : List Grp} (hnd : ((G1 ++ (s, l, st) :: G2).map (·.2.2)).Nodup) :
    (((G1 ++ (s, l ++ [n], st') :: G2).map gP).map (fun p => (p.1.2, p.2))).Perm ((((nm, st'), (l.length + 1) * Tryz.prog.cellsOf 47) :: permErase st ((G1 ++ (s, l, st) :: G2).map gP)).map (fun p => (p.1.2, p.2))) := by
  rw [permErase_at hnd, gc_rul, List.map_append, List.map_cons, List.map_append, List.map_append, List.map_cons, List.map_cons, List.map_append]
  refine List.perm_middle.trans (.of_eq ?_)
  simp [gP]
theorem one_rul (r : Rul) : (rulA r).cells.all isOne = true := rfl
theorem le_catL {R l : List Rul} {m : Nat} {i j : Vl.Id} (hm : m ≤ l.length) (h : i.2 = j.2) : AVle (.os 4 (R.length + m) (appF R.length (rulF R) (rulF l)) (some i)) (.os 4 (R ++ l.take m).length (rulF (R ++ l.take m)) (some j)) := by
  rw [List.length_append, List.length_take, Nat.min_eq_left hm]
  refine (AVle.os_fun (fun k hk => ?_)).trans (AVle.os_nm h)
  unfold appF
  by_cases hk2 : k < R.length
  · rw [show Nat.blt k R.length = true from Nat.ble_eq_true_of_le hk2]
    simp [rulF, List.getD, List.getElem?_append_left hk2]
  · rw [show Nat.blt k R.length = false from by cases hb : Nat.blt k R.length with | false => rfl | true => exact absurd (Nat.le_of_ble_eq_true hb) (by omega)]
    simp only [rulF, List.getD, cond_false]
    rw [List.getElem?_append_right (by omega), List.getElem?_take, if_pos (by omega)]
theorem app_eq {a b c d : List Rul} (h : a = b) (k : c = d) : a ++ c = b ++ d := by rw [h, k]
theorem splitV_eq {a b : AV} {K : AV → Prop} (h : a = b) (hk : splitV b K) : splitV a K := h ▸ hk
set_option maxHeartbeats 8000000 in
theorem policy16_spec (p : Pol) (hp : p.ok) : Tells Tryz.prog 19 [polA p] (normA p) := by
  have hr := pright_spec p hp
  cases hb : rightP p with
  | false =>
    rw [hb] at hr
    unfold normA
    rw [hb, if_neg (by decide)]
    refine tells_of_aw Tryz.func19 rfl rfl fun nx => ?_
    (repeat((conv=>whnf);first|apply ω0|apply ω1|apply ω2|refine τ3 rfl ?_|refine τ4 rfl ?_|refine ⟨rfl,?_⟩|apply τa|refine τb rfl ?_|refine ⟨⟨by kernel_rfl,by kernel_rfl⟩,?_⟩|refine ⟨by decide,?_⟩|apply τt|apply τf))
    refine aop_tells rfl rfl hr ⟨AVle.refl _, trivial⟩ fun nx2 => ?_
    (repeat((conv=>whnf);first|apply ω0|apply ω1|apply ω2|refine τ3 rfl ?_|refine τ4 rfl ?_|refine ⟨rfl,?_⟩|apply τa|refine τb rfl ?_|refine ⟨⟨by kernel_rfl,by kernel_rfl⟩,?_⟩|refine ⟨by decide,?_⟩|apply τt|apply τf))
    exact ret_tells_all rfl ⟨rfl, trivial⟩ (AVle.tups (cs := [_, _]) ⟨AVle.ags (cs := [_, _, _, _]) ⟨AVle.refl _, AVle.refl _, AVle.refl _, AVle.os_sl0, trivial⟩, AVle.refl _, trivial⟩)
  | true =>
    rw [hb] at hr
    obtain ⟨hl, hc6⟩ := rightP_conds hb
    unfold normA
    rw [hb, if_pos rfl]
    refine tells_of_aw Tryz.func19 rfl rfl fun nx => ?_
    (repeat((conv=>whnf);first|apply ω0|apply ω1|apply ω2|refine τ3 rfl ?_|refine τ4 rfl ?_|refine ⟨rfl,?_⟩|apply τa|refine τb rfl ?_|refine ⟨⟨by kernel_rfl,by kernel_rfl⟩,?_⟩|refine ⟨by decide,?_⟩|apply τt|apply τf))
    refine aop_tells rfl rfl hr ⟨AVle.refl _, trivial⟩ fun nx2 => ?_
    (repeat((conv=>whnf);first|apply ω0|apply ω1|apply ω2|refine τ3 rfl ?_|refine τ4 rfl ?_|refine ⟨rfl,?_⟩|apply τa|refine τb rfl ?_|refine ⟨⟨by kernel_rfl,by kernel_rfl⟩,?_⟩|refine ⟨by decide,?_⟩|apply τt|apply τf))
    refine aw_loop (fun y : Nat × List Grp × Nat => mk 94 [(1, .bp (0, nx) 0), (2, .bp (1, nx + 1) 0), (4, .om (2, nx2)), (19, ruls p.rules), (20, int p.rules.length), (21, int y.1)] ⟨[((2, nx2), .mp (y.2.1.map gE)), ((1, nx + 1), .c zpolL), ((0, nx), .c (polC p))], y.2.1.map gP, y.2.2, 3⟩)
      (fun y => y.1 ≤ p.rules.length ∧ strip y.2.1 = groupsOf (p.rules.take y.1) ∧ y.2.1.length ≤ y.1 ∧ ∀ g ∈ y.2.1, g.2.1.length ≤ y.1 ∧ ∀ r ∈ g.2.1, r.conds.length ≤ 6) (fun y => p.rules.length - y.1) ?_ ?_
    · exact ⟨(0, [], nx2 + 1), ⟨Nat.zero_le _, rfl, Nat.le_refl _, by simp⟩, ele_tell _ _ rfl rfl (List.Sublist.refl _) (List.Sublist.refl _) (BxLe.refl _) trivial ⟨AVle.refl _, AVle.refl _, AVle.refl _, AVle.refl _, AVle.refl _, AVle.refl _, trivial⟩⟩
    · rintro ⟨i, G, nx3⟩ ⟨h1, h2, h3, h4⟩
      dsimp only at h1 h2 h3 h4
      (repeat((conv=>whnf);first|apply ω0|apply ω1|apply ω2|refine τ3 rfl ?_|refine τ4 rfl ?_|refine ⟨rfl,?_⟩|apply τa|refine τb rfl ?_|refine ⟨⟨by kernel_rfl,by kernel_rfl⟩,?_⟩|refine ⟨by decide,?_⟩|apply τt|apply τf))
      intro c g; cases c
      · have g := not_of g
        try dsimp only at g
        have hi : i = p.rules.length := by omega
        subst hi
        rw [List.take_length] at h2
        (repeat((conv=>whnf);first|apply ω0|apply ω2|refine τ3 rfl ?_|refine τ4 rfl ?_|refine ⟨rfl,?_⟩|apply τa|refine τb rfl ?_|refine ⟨⟨by kernel_rfl,by kernel_rfl⟩,?_⟩|refine ⟨by decide,?_⟩|apply τt|apply τf))
        refine AW.le (E' := mk 94 [(1, .bp (0, nx) 0), (2, .bp (1, nx + 1) 0), (4, .om (2, nx2))] ⟨[((2, nx2), .mp (G.map gF)), ((1, nx + 1), .c zpolL), ((0, nx), .c (polC p))], [], nx3, 3⟩) (ele_tell _ [] rfl rfl (List.Sublist.refl _) (List.nil_sublist _) ⟨rfl, mp_frz G, BxLe.refl _⟩ trivial ⟨AVle.refl _, AVle.refl _, AVle.refl _, trivial⟩) ?_
        refine aw_freeze (n := 94) (nx := nx3) (nn := 3) (pm := []) (bx := [((1, nx + 1), .c zpolL), ((0, nx), .c (polC p))]) (L := [(1, .bp (0, nx) 0), (2, .bp (1, nx + 1) 0), (4, .fm (G.map gF))]) (df := some []) [((2, nx2), .mp (G.map gF))] rfl rfl rfl (.refl _) (List.Sublist.refl _) ⟨Frz.refl _, Frz.refl _, Frz.om (.head _), trivial⟩ ?_
        have hzs : (G.map gF).map (·.1) = (G.map fun g : Grp => g.1.data.toList).map encStr := by
          rw [List.map_map, List.map_map]; rfl
        have hsort := sorted_str (G.map gF) (G.map fun g : Grp => g.1.data.toList) hzs (by rw [List.length_map]; omega)
        have hkeys : keysOf (groupsOf p.rules) = sortBy Go.Sort.ltStr (G.map fun g : Grp => g.1.data.toList) := by
          rw [← h2]; unfold keysOf strip; rw [List.map_map]; rfl
        have hNl : (sortBy Go.Sort.ltStr (G.map fun g : Grp => g.1.data.toList)).length ≤ 500 := by rw [sortBy_length, List.length_map]; omega
        have hNm : ∀ z, z ∈ sortBy Go.Sort.ltStr (G.map fun g : Grp => g.1.data.toList) → ∃ g ∈ G, g.1.data.toList = z := fun z hz => by
          rw [sortBy_mem] at hz
          obtain ⟨g, hg, h⟩ := List.mem_map.1 hz
          exact ⟨g, hg, h⟩
        unfold normP
        rw [hkeys, ← h2]
        generalize sortBy Go.Sort.ltStr (G.map fun g : Grp => g.1.data.toList) = N at hsort hNl hNm ⊢
        (repeat((conv=>whnf);first|apply ω0|apply ω1|apply ω2|refine τ3 rfl ?_|refine τ4 rfl ?_|refine ⟨rfl,?_⟩|apply τa|refine τb rfl ?_|refine ⟨⟨by kernel_rfl,by kernel_rfl⟩,?_⟩|refine ⟨by decide,?_⟩|apply τt|apply τf))
        intro c hc
        subst hc
        (repeat((conv=>whnf);first|apply ω0|apply ω1|apply ω2|refine τ3 rfl ?_|refine τ4 rfl ?_|refine ⟨rfl,?_⟩|apply τa|refine τb rfl ?_|refine ⟨⟨by kernel_rfl,by kernel_rfl⟩,?_⟩|refine ⟨by decide,?_⟩|apply τt|apply τf))
        refine aop_tells rfl rfl (mapsKeys_str (G.map gF)) ⟨AVle.refl _, trivial⟩ fun nx4 => ?_
        (repeat((conv=>whnf);first|apply ω0|apply ω1|apply ω2|refine τ3 rfl ?_|refine τ4 rfl ?_|refine ⟨rfl,?_⟩|apply τa|refine τb rfl ?_|refine ⟨⟨by kernel_rfl,by kernel_rfl⟩,?_⟩|refine ⟨by decide,?_⟩|apply τt|apply τf))
        refine aop_tells rfl rfl hsort ⟨AVle.refl _, trivial⟩ fun nx5 => ?_
        (repeat((conv=>whnf);first|apply ω0|apply ω1|apply ω2|refine τ3 rfl ?_|refine τ4 rfl ?_|refine ⟨rfl,?_⟩|apply τa|refine τb rfl ?_|refine ⟨⟨by kernel_rfl,by kernel_rfl⟩,?_⟩|refine ⟨by decide,?_⟩|apply τt|apply τf))
        refine aw_loop (fun y : Nat × List Rul × Option Nat × Nat => mk 94 [(1, .bp (0, nx) 0), (2, .bp (1, nx + 1) 0), (4, .fm (G.map gF)), (9, .bp (3, nx3) 0), (58, slOf 1 eA_str [] N), (59, int N.length), (60, int y.1)] ⟨[((3, nx3), .c [int p.dflt.1, int p.dflt.2, boolA p.x32, .os 4 y.2.1.length (rulF y.2.1) (nmd y.2.2.1)]), ((1, nx + 1), .c zpolL), ((0, nx), .c (polC p))], pmOf (nmd y.2.2.1) (y.2.1.length * 4), y.2.2.2, 4⟩)
          (fun y => y.1 ≤ N.length ∧ (y.2.2.1 = none → y.2.1 = []) ∧ y.2.1 = outR p.dflt (strip G) (N.take y.1) ∧ y.2.1.length ≤ y.1 * 500) (fun y => N.length - y.1) ?_ ?_
        · exact ⟨(0, [], none, nx5), ⟨Nat.zero_le _, fun _ => rfl, rfl, Nat.zero_le _⟩, ele_tell (pm := []) (bx := [((3, nx3), .c [int p.dflt.1, int p.dflt.2, boolA p.x32, .os 4 0 (rulF []) none]), ((1, nx + 1), .c zpolL), ((0, nx), .c (polC p))]) _ _ rfl rfl (List.Sublist.refl _) (List.Sublist.refl _) ⟨rfl, ⟨AVle.refl _, AVle.refl _, AVle.refl _, AVle.os_nil, trivial⟩, BxLe.refl _⟩ trivial ⟨AVle.refl _, AVle.refl _, AVle.refl _, AVle.refl _, AVle.refl _, AVle.refl _, AVle.refl _, trivial⟩⟩
        · rintro ⟨j, R, oi, nx6⟩ ⟨k1, k2, k3, k4⟩
          dsimp only at k1 k2 k3 k4
          (repeat((conv=>whnf);first|apply ω0|apply ω1|apply ω2|refine τ3 rfl ?_|refine τ4 rfl ?_|refine ⟨rfl,?_⟩|apply τa|refine τb rfl ?_|refine ⟨⟨by kernel_rfl,by kernel_rfl⟩,?_⟩|refine ⟨by decide,?_⟩|apply τt|apply τf))
          intro c gg; cases c
          · have gg := not_of gg
            try dsimp only at gg
            have hj : j = N.length := by omega
            subst hj
            rw [List.take_length] at k3
            rw [← k3]
            (repeat((conv=>whnf);first|apply ω0|apply ω1|apply ω2|refine τ3 rfl ?_|refine τ4 rfl ?_|refine ⟨rfl,?_⟩|apply τa|refine τb rfl ?_|refine ⟨⟨by kernel_rfl,by kernel_rfl⟩,?_⟩|refine ⟨by decide,?_⟩|apply τt|apply τf))
            exact ret_tells_all rfl ⟨rfl, trivial⟩ (AVle.tups (cs := [_, _]) ⟨AVle.ags (cs := [_, _, _, _]) ⟨AVle.refl _, AVle.refl _, AVle.refl _, AVle.os_sl, trivial⟩, AVle.refl _, trivial⟩)
          · have gg := yes_of gg
            try dsimp only at gg
            have hj : j < N.length := by omega
            have hNj : N.getD j [] ∈ N := by simp [List.getD, hj]
            rcases grp_cases ⟨(N.getD j []).toArray⟩ G with hno | ⟨G1, l, st, G2, hG, hno⟩
            · exfalso
              obtain ⟨g, hg, hge⟩ := hNm _ hNj
              have := hno g hg
              rw [Bool.eq_false_iff] at this
              exact this (keyB_eq.2 (by rw [← hge]))
            have hlk := alook_at (e := gF) (fun _ => rfl) (l := l) (st := st) (G2 := G2) hno
            have hgl := (h4 (⟨(N.getD j []).toArray⟩, l, st) (by rw [hG]; simp)).1
            dsimp only at hgl
            have hgg : gget (strip G) ⟨(N.getD j []).toArray⟩ = l := by rw [hG]; exact gget_at hno
            have hout : outR p.dflt (strip G) (N.take (j + 1)) = outR p.dflt (strip G) (N.take j) ++ cutL p.dflt l := by
              unfold outR
              rw [take_getD [] hj, List.flatMap_append]
              simp only [List.flatMap_cons, List.flatMap_nil, List.append_nil]
              rw [hgg]
            rw [← hG] at hlk
            (repeat((conv=>whnf);first|apply ω0|apply ω1|apply ω2|refine τ3 rfl ?_|refine τ4 rfl ?_|refine ⟨rfl,?_⟩|apply τa|refine τb rfl ?_|refine ⟨⟨by kernel_rfl,by kernel_rfl⟩,?_⟩|refine ⟨by decide,?_⟩|apply τt|apply τf))
            refine ⟨⟨by first | omega | (dsimp only; omega), by first | omega | (dsimp only; omega)⟩, ?_⟩
            (repeat((conv=>whnf);first|apply ω0|apply ω1|apply ω2|refine τ3 rfl ?_|refine τ4 rfl ?_|refine ⟨rfl,?_⟩|apply τa|refine τb rfl ?_|refine ⟨by decide,?_⟩|apply τt|apply τf))
            refine ⟨gF_fit G, splitO_eq (b := ruls l) (congrArg (fun o : Option AV => o.getD (.os 0 0 (fun _ => .any) none)) hlk) ?_⟩
            (repeat((conv=>whnf);first|apply ω0|apply ω1|apply ω2|refine τ3 rfl ?_|refine τ4 rfl ?_|refine ⟨rfl,?_⟩|apply τa|refine τb rfl ?_|refine ⟨by decide,?_⟩|apply τt|apply τf))
            refine aw_loop (fun y : Nat × Nat => mk 94 [(1, .bp (0, nx) 0), (2, .bp (1, nx + 1) 0), (4, .fm (G.map gF)), (9, .bp (3, nx3) 0), (58, slOf 1 eA_str [] N), (59, int N.length), (60, int j), (12, .sl 4 y.1 (rulF l))] ⟨[((3, nx3), .c [int p.dflt.1, int p.dflt.2, boolA p.x32, .os 4 R.length (rulF R) (nmd oi)]), ((1, nx + 1), .c zpolL), ((0, nx), .c (polC p))], pmOf (nmd oi) (R.length * 4), nx6, 4⟩)
              (fun y => y.1 ≤ l.length ∧ cutL p.dflt l = cutL p.dflt (l.take y.1)) (fun y => y.1) ?_ ?_
            · exact ⟨(l.length, 0), ⟨Nat.le_refl _, by rw [List.take_length]⟩, ele_tell _ _ rfl rfl (List.Sublist.refl _) (List.Sublist.refl _) (BxLe.refl _) (PmEq.refl _) ⟨AVle.refl _, AVle.refl _, AVle.refl _, AVle.refl _, AVle.refl _, AVle.refl _, AVle.refl _, AVle.refl _, trivial⟩⟩
            · rintro ⟨m, zz⟩ ⟨hml, hcut⟩
              dsimp only at hml hcut
              have hlm : (l.take m).length = m := by rw [List.length_take]; omega
              by_cases hm0 : 0 < m
              · have hd : decide ((m : Int) > 0) = true := decide_eq_true (by omega)
                have hm1 : IntKind.i64.wrap ((m : Int) - 1) = ((m - 1 : Nat) : Int) := by rw [wrap_id (by omega) (by omega)]; omega
                rw [take_last hm0 hml, cutL_snoc] at hcut
                (repeat((conv=>whnf);first|apply ω0|apply ω1|apply ω2|refine τ3 rfl ?_|refine τ4 rfl ?_|refine ⟨rfl,?_⟩|apply τa|refine τb rfl ?_|refine ⟨⟨by kernel_rfl,by kernel_rfl⟩,?_⟩|refine ⟨by decide,?_⟩|apply τt|apply τf))
                (refine aw_draw 15 ?_ ?_ ?_ ?_; (· kernel_rfl); (· kernel_rfl); (· kernel_rfl))
                (repeat((conv=>whnf);first|apply ω0|apply ω1|apply ω2|refine τ3 rfl ?_|refine τ4 rfl ?_|refine ⟨rfl,?_⟩|apply τa|refine τb rfl ?_|refine ⟨⟨by kernel_rfl,by kernel_rfl⟩,?_⟩|refine ⟨by decide,?_⟩|apply τt|apply τf))
                (conv => whnf)
                refine lit_eq hd ?_
                (repeat((conv=>whnf);first|apply ω0|apply ω1|apply ω2|refine τ3 rfl ?_|refine τ4 rfl ?_|refine ⟨rfl,?_⟩|apply τa|refine τb rfl ?_|refine ⟨⟨by kernel_rfl,by kernel_rfl⟩,?_⟩|refine ⟨by decide,?_⟩|apply τt|apply τf))
                refine ⟨⟨ixge (i := m - 1) hm1, ixlt (i := m - 1) hm1 (by omega)⟩, splitO_eq (b := .rp (rulA (l.getD (m - 1) rul0)).cells) (congrArg (fun z : Int => AV.rp (rulF l z.toNat).cells) hm1) ?_⟩
                (repeat((conv=>whnf);first|apply ω0|apply ω1|apply ω2|refine τ3 rfl ?_|refine τ4 rfl ?_|refine ⟨rfl,?_⟩|apply τa|refine τb rfl ?_|refine ⟨⟨by kernel_rfl,by kernel_rfl⟩,?_⟩|refine ⟨by decide,?_⟩|apply τt|apply τf))
                intro c hc
                have hc2 : c = decide ((l.getD (m - 1) rul0).act = p.dflt) := hc.trans act_eqb
                clear hc
                cases c
                · have hne : ¬ (l.getD (m - 1) rul0).act = p.dflt := of_decide_eq_false hc2.symm
                  rw [if_neg hne, ← take_last hm0 hml] at hcut
                  have hct := hcut
                  clear hc2
                  (repeat((conv=>whnf);first|apply ω0|apply ω2|refine τ3 rfl ?_|refine τ4 rfl ?_|refine ⟨rfl,?_⟩|apply τa|refine τb rfl ?_|refine ⟨⟨by kernel_rfl,by kernel_rfl⟩,?_⟩|refine ⟨by decide,?_⟩|apply τt|apply τf))
                  refine aw_regionY (fun i => match i with | 0 => true | _ => false) 4 ?_
                  (repeat((conv=>whnf);first|apply ω0|apply ω1|apply ω2|refine τ3 rfl ?_|refine τ4 rfl ?_|refine ⟨rfl,?_⟩|apply τa|refine τb rfl ?_|refine ⟨⟨by kernel_rfl,by kernel_rfl⟩,?_⟩|refine ⟨by decide,?_⟩|apply τt|apply τf))
                  rcases oi with _ | o1
                  · obtain rfl := k2 rfl
                    refine AOp.any (aop_append (e := 47) (n := 0) (oi := none) (sz := 4) (f := rulF []) (m := m) (szx := 4) (f' := rulF l) rfl rfl (.inl rfl) Tryz.underlying33 gr_rul (.inl ⟨rfl, rfl⟩) (.inr gc_rul.symm) (fun i h => by cases h) (fun k _ => one_rul _) (fun _ => by rw [gb_rul]; omega) (fun _ => by omega) (fun hm => ?_) (fun hm => ?_))
                    · subst hm
                      (repeat((conv=>whnf);first|apply ω0|apply ω1|apply ω2|refine τ3 rfl ?_|refine τ4 rfl ?_|refine ⟨rfl,?_⟩|apply τa|refine τb rfl ?_|refine ⟨⟨by kernel_rfl,by kernel_rfl⟩,?_⟩|refine ⟨by decide,?_⟩|apply τt|apply τf))
                      exact back (j + 1, [], none, nx6) ⟨hj, fun _ => rfl, by rw [hout]; exact (List.append_nil _).symm.trans (app_eq k3 hct.symm), by dsimp only; omega⟩ (by dsimp only; omega) (ele_tell _ _ rfl rfl (List.Sublist.refl _) (List.Sublist.refl _) (BxLe.refl _) trivial ⟨AVle.refl _, AVle.refl _, AVle.refl _, AVle.refl _, AVle.refl _, AVle.refl _, le_int (wrap_succ (by first | omega | (dsimp only; omega))), trivial⟩)
                    · (repeat((conv=>whnf);first|apply ω0|apply ω1|apply ω2|refine τ3 rfl ?_|refine τ4 rfl ?_|refine ⟨rfl,?_⟩|apply τa|refine τb rfl ?_|refine ⟨⟨by kernel_rfl,by kernel_rfl⟩,?_⟩|refine ⟨by decide,?_⟩|apply τt|apply τf))
                      exact back (j + 1, l.take m, some nx6, nx6 + 1) ⟨hj, (fun h => by cases h), by rw [hout]; exact app_eq k3 hct.symm, by dsimp only; rw [hlm]; omega⟩ (by dsimp only; omega) (ele_tell (pm := [((0, nx6), (l.take m).length * 4)]) (bx := [((3, nx3), .c [int p.dflt.1, int p.dflt.2, boolA p.x32, .os 4 (l.take m).length (rulF (l.take m)) (some (0, nx6))]), ((1, nx + 1), .c zpolL), ((0, nx), .c (polC p))]) _ _ rfl rfl (List.Sublist.refl _) (List.Sublist.refl _) ⟨rfl, ⟨AVle.refl _, AVle.refl _, AVle.refl _, le_catL (R := []) hml rfl, trivial⟩, BxLe.refl _⟩ ⟨rfl, show (0 + m) * Tryz.prog.cellsOf 47 = (l.take m).length * 4 by rw [hlm, gc_rul, Nat.zero_add], trivial⟩ ⟨AVle.refl _, AVle.refl _, AVle.refl _, AVle.refl _, AVle.refl _, AVle.refl _, le_int (wrap_succ (by first | omega | (dsimp only; omega))), trivial⟩)
                  · refine AOp.any (aop_append (e := 47) (n := R.length) (oi := some (0, o1)) (sz := 4) (f := rulF R) (m := m) (szx := 4) (f' := rulF l) rfl rfl (.inl rfl) Tryz.underlying33 gr_rul (.inr gc_rul.symm) (.inr gc_rul.symm) (fun i h => by cases h; rw [gc_rul]; rfl) (fun k _ => one_rul _) (fun _ => by rw [gb_rul]; omega) (fun _ => by omega) (fun hm => ?_) (fun hm => ?_))
                    · subst hm
                      (repeat((conv=>whnf);first|apply ω0|apply ω1|apply ω2|refine τ3 rfl ?_|refine τ4 rfl ?_|refine ⟨rfl,?_⟩|apply τa|refine τb rfl ?_|refine ⟨⟨by kernel_rfl,by kernel_rfl⟩,?_⟩|refine ⟨by decide,?_⟩|apply τt|apply τf))
                      exact back (j + 1, R, some o1, nx6) ⟨hj, (fun h => by cases h), by rw [hout]; exact (List.append_nil _).symm.trans (app_eq k3 hct.symm), by dsimp only; omega⟩ (by dsimp only; omega) (ele_tell _ _ rfl rfl (List.Sublist.refl _) (List.Sublist.refl _) (BxLe.refl _) (PmEq.refl _) ⟨AVle.refl _, AVle.refl _, AVle.refl _, AVle.refl _, AVle.refl _, AVle.refl _, le_int (wrap_succ (by first | omega | (dsimp only; omega))), trivial⟩)
                    · (repeat((conv=>whnf);first|apply ω0|apply ω1|apply ω2|refine τ3 rfl ?_|refine τ4 rfl ?_|refine ⟨rfl,?_⟩|apply τa|refine τb rfl ?_|refine ⟨⟨by kernel_rfl,by kernel_rfl⟩,?_⟩|refine ⟨by decide,?_⟩|apply τt|apply τf))
                      exact back (j + 1, R ++ l.take m, some nx6, nx6 + 1) ⟨hj, (fun h => by cases h), by rw [hout]; exact app_eq k3 hct.symm, by dsimp only; rw [List.length_append, hlm]; omega⟩ (by dsimp only; omega) (ele_tell (pm := [((0, nx6), (R ++ l.take m).length * 4)]) (bx := [((3, nx3), .c [int p.dflt.1, int p.dflt.2, boolA p.x32, .os 4 (R ++ l.take m).length (rulF (R ++ l.take m)) (some (0, nx6))]), ((1, nx + 1), .c zpolL), ((0, nx), .c (polC p))]) _ _ rfl rfl (List.Sublist.refl _) (List.Sublist.refl _) ⟨rfl, ⟨AVle.refl _, AVle.refl _, AVle.refl _, le_catL hml rfl, trivial⟩, BxLe.refl _⟩ ⟨rfl, by rw [List.length_append, hlm, gc_rul], trivial⟩ ⟨AVle.refl _, AVle.refl _, AVle.refl _, AVle.refl _, AVle.refl _, AVle.refl _, le_int (wrap_succ (by first | omega | (dsimp only; omega))), trivial⟩)
                · have heq : (l.getD (m - 1) rul0).act = p.dflt := of_decide_eq_true hc2.symm
                  rw [if_pos heq] at hcut
                  clear hc2
                  (repeat((conv=>whnf);first|apply ω0|apply ω1|apply ω2|refine τ3 rfl ?_|refine τ4 rfl ?_|refine ⟨rfl,?_⟩|apply τa|refine τb rfl ?_|refine ⟨⟨by kernel_rfl,by kernel_rfl⟩,?_⟩|refine ⟨by decide,?_⟩|apply τt|apply τf))
                  refine ⟨⟨ixge (i := m - 1) hm1, Int.le_of_lt (ixlt (i := m - 1) hm1 (by omega))⟩, ?_⟩
                  (repeat((conv=>whnf);first|apply ω0|apply ω1|apply ω2|refine τ3 rfl ?_|refine τ4 rfl ?_|refine ⟨rfl,?_⟩|apply τa|refine τb rfl ?_|refine ⟨⟨by kernel_rfl,by kernel_rfl⟩,?_⟩|refine ⟨by decide,?_⟩|apply τt|apply τf))
                  exact back (m - 1, 0) ⟨by dsimp only; omega, hcut⟩ (by dsimp only; omega) (ele_tell _ _ rfl rfl (List.Sublist.refl _) (List.Sublist.refl _) (BxLe.refl _) (PmEq.refl _) ⟨AVle.refl _, AVle.refl _, AVle.refl _, AVle.refl _, AVle.refl _, AVle.refl _, AVle.refl _, AVle.of_eq (congrArg (fun z : Int => AV.sl 4 z.toNat (rulF l)) hm1), trivial⟩)
              · have hd : decide ((m : Int) > 0) = false := decide_eq_false (by omega)
                have hm00 : m = 0 := by omega
                have hct : cutL p.dflt l = l.take m := by rw [hcut, hm00]; rfl
                (repeat((conv=>whnf);first|apply ω0|apply ω1|apply ω2|refine τ3 rfl ?_|refine τ4 rfl ?_|refine ⟨rfl,?_⟩|apply τa|refine τb rfl ?_|refine ⟨⟨by kernel_rfl,by kernel_rfl⟩,?_⟩|refine ⟨by decide,?_⟩|apply τt|apply τf))
                (refine aw_draw 15 ?_ ?_ ?_ ?_; (· kernel_rfl); (· kernel_rfl); (· kernel_rfl))
                (repeat((conv=>whnf);first|apply ω0|apply ω1|apply ω2|refine τ3 rfl ?_|refine τ4 rfl ?_|refine ⟨rfl,?_⟩|apply τa|refine τb rfl ?_|refine ⟨⟨by kernel_rfl,by kernel_rfl⟩,?_⟩|refine ⟨by decide,?_⟩|apply τt|apply τf))
                (conv => whnf)
                refine lit_eq hd ?_
                (repeat((conv=>whnf);first|apply ω0|apply ω2|refine τ3 rfl ?_|refine τ4 rfl ?_|refine ⟨rfl,?_⟩|apply τa|refine τb rfl ?_|refine ⟨⟨by kernel_rfl,by kernel_rfl⟩,?_⟩|refine ⟨by decide,?_⟩|apply τt|apply τf))
                refine aw_regionY (fun i => match i with | 0 => true | _ => false) 4 ?_
                (repeat((conv=>whnf);first|apply ω0|apply ω1|apply ω2|refine τ3 rfl ?_|refine τ4 rfl ?_|refine ⟨rfl,?_⟩|apply τa|refine τb rfl ?_|refine ⟨⟨by kernel_rfl,by kernel_rfl⟩,?_⟩|refine ⟨by decide,?_⟩|apply τt|apply τf))
                rcases oi with _ | o1
                · obtain rfl := k2 rfl
                  refine AOp.any (aop_append (e := 47) (n := 0) (oi := none) (sz := 4) (f := rulF []) (m := m) (szx := 4) (f' := rulF l) rfl rfl (.inl rfl) Tryz.underlying33 gr_rul (.inl ⟨rfl, rfl⟩) (.inr gc_rul.symm) (fun i h => by cases h) (fun k _ => one_rul _) (fun _ => by rw [gb_rul]; omega) (fun _ => by omega) (fun hm => ?_) (fun hm => ?_))
                  · subst hm
                    (repeat((conv=>whnf);first|apply ω0|apply ω1|apply ω2|refine τ3 rfl ?_|refine τ4 rfl ?_|refine ⟨rfl,?_⟩|apply τa|refine τb rfl ?_|refine ⟨⟨by kernel_rfl,by kernel_rfl⟩,?_⟩|refine ⟨by decide,?_⟩|apply τt|apply τf))
                    exact back (j + 1, [], none, nx6) ⟨hj, fun _ => rfl, by rw [hout]; exact (List.append_nil _).symm.trans (app_eq k3 hct.symm), by dsimp only; omega⟩ (by dsimp only; omega) (ele_tell _ _ rfl rfl (List.Sublist.refl _) (List.Sublist.refl _) (BxLe.refl _) trivial ⟨AVle.refl _, AVle.refl _, AVle.refl _, AVle.refl _, AVle.refl _, AVle.refl _, le_int (wrap_succ (by first | omega | (dsimp only; omega))), trivial⟩)
                  · (repeat((conv=>whnf);first|apply ω0|apply ω1|apply ω2|refine τ3 rfl ?_|refine τ4 rfl ?_|refine ⟨rfl,?_⟩|apply τa|refine τb rfl ?_|refine ⟨⟨by kernel_rfl,by kernel_rfl⟩,?_⟩|refine ⟨by decide,?_⟩|apply τt|apply τf))
                    exact back (j + 1, l.take m, some nx6, nx6 + 1) ⟨hj, (fun h => by cases h), by rw [hout]; exact app_eq k3 hct.symm, by dsimp only; rw [hlm]; omega⟩ (by dsimp only; omega) (ele_tell (pm := [((0, nx6), (l.take m).length * 4)]) (bx := [((3, nx3), .c [int p.dflt.1, int p.dflt.2, boolA p.x32, .os 4 (l.take m).length (rulF (l.take m)) (some (0, nx6))]), ((1, nx + 1), .c zpolL), ((0, nx), .c (polC p))]) _ _ rfl rfl (List.Sublist.refl _) (List.Sublist.refl _) ⟨rfl, ⟨AVle.refl _, AVle.refl _, AVle.refl _, le_catL (R := []) hml rfl, trivial⟩, BxLe.refl _⟩ ⟨rfl, show (0 + m) * Tryz.prog.cellsOf 47 = (l.take m).length * 4 by rw [hlm, gc_rul, Nat.zero_add], trivial⟩ ⟨AVle.refl _, AVle.refl _, AVle.refl _, AVle.refl _, AVle.refl _, AVle.refl _, le_int (wrap_succ (by first | omega | (dsimp only; omega))), trivial⟩)
                · refine AOp.any (aop_append (e := 47) (n := R.length) (oi := some (0, o1)) (sz := 4) (f := rulF R) (m := m) (szx := 4) (f' := rulF l) rfl rfl (.inl rfl) Tryz.underlying33 gr_rul (.inr gc_rul.symm) (.inr gc_rul.symm) (fun i h => by cases h; rw [gc_rul]; rfl) (fun k _ => one_rul _) (fun _ => by rw [gb_rul]; omega) (fun _ => by omega) (fun hm => ?_) (fun hm => ?_))
                  · subst hm
                    (repeat((conv=>whnf);first|apply ω0|apply ω1|apply ω2|refine τ3 rfl ?_|refine τ4 rfl ?_|refine ⟨rfl,?_⟩|apply τa|refine τb rfl ?_|refine ⟨⟨by kernel_rfl,by kernel_rfl⟩,?_⟩|refine ⟨by decide,?_⟩|apply τt|apply τf))
                    exact back (j + 1, R, some o1, nx6) ⟨hj, (fun h => by cases h), by rw [hout]; exact (List.append_nil _).symm.trans (app_eq k3 hct.symm), by dsimp only; omega⟩ (by dsimp only; omega) (ele_tell _ _ rfl rfl (List.Sublist.refl _) (List.Sublist.refl _) (BxLe.refl _) (PmEq.refl _) ⟨AVle.refl _, AVle.refl _, AVle.refl _, AVle.refl _, AVle.refl _, AVle.refl _, le_int (wrap_succ (by first | omega | (dsimp only; omega))), trivial⟩)
                  · (repeat((conv=>whnf);first|apply ω0|apply ω1|apply ω2|refine τ3 rfl ?_|refine τ4 rfl ?_|refine ⟨rfl,?_⟩|apply τa|refine τb rfl ?_|refine ⟨⟨by kernel_rfl,by kernel_rfl⟩,?_⟩|refine ⟨by decide,?_⟩|apply τt|apply τf))
                    exact back (j + 1, R ++ l.take m, some nx6, nx6 + 1) ⟨hj, (fun h => by cases h), by rw [hout]; exact app_eq k3 hct.symm, by dsimp only; rw [List.length_append, hlm]; omega⟩ (by dsimp only; omega) (ele_tell (pm := [((0, nx6), (R ++ l.take m).length * 4)]) (bx := [((3, nx3), .c [int p.dflt.1, int p.dflt.2, boolA p.x32, .os 4 (R ++ l.take m).length (rulF (R ++ l.take m)) (some (0, nx6))]), ((1, nx + 1), .c zpolL), ((0, nx), .c (polC p))]) _ _ rfl rfl (List.Sublist.refl _) (List.Sublist.refl _) ⟨rfl, ⟨AVle.refl _, AVle.refl _, AVle.refl _, le_catL hml rfl, trivial⟩, BxLe.refl _⟩ ⟨rfl, by rw [List.length_append, hlm, gc_rul], trivial⟩ ⟨AVle.refl _, AVle.refl _, AVle.refl _, AVle.refl _, AVle.refl _, AVle.refl _, le_int (wrap_succ (by first | omega | (dsimp only; omega))), trivial⟩)
      · have g := yes_of g
        try dsimp only at g
        have hi : i < p.rules.length := by omega
        have hmem : p.rules.getD i rul0 ∈ p.rules := by simp [List.getD, hi]
        have hrs := rule16_spec (p.rules.getD i rul0) (hp.2 _ hmem).2.2 (by have := hc6 _ hmem; omega)
        have hgn := groupsOf_next hi
        have hnl := hc6 _ hmem
        rw [← h2] at hgn
        refine aw_nodup fun hnd => ?_
        have hnd : (G.map (·.2.2)).Nodup := by
          have : ((G.map gP).map (·.1.2)).Nodup := hnd
          rwa [List.map_map] at this
        (repeat((conv=>whnf);first|apply ω0|apply ω1|apply ω2|refine τ3 rfl ?_|refine τ4 rfl ?_|refine ⟨rfl,?_⟩|apply τa|refine τb rfl ?_|refine ⟨⟨by kernel_rfl,by kernel_rfl⟩,?_⟩|refine ⟨by decide,?_⟩|apply τt|apply τf))
        refine ⟨⟨by first | omega | (dsimp only; omega), by first | omega | (dsimp only; omega)⟩, ?_⟩
        (repeat((conv=>whnf);first|apply ω0|apply ω1|apply ω2|refine τ3 rfl ?_|refine τ4 rfl ?_|refine ⟨rfl,?_⟩|apply τa|refine τb rfl ?_|refine ⟨⟨by kernel_rfl,by kernel_rfl⟩,?_⟩|refine ⟨by decide,?_⟩|apply τt|apply τf))
        cases hN : normR (p.rules.getD i rul0) with
        | none =>
          rw [hN] at hrs
          have hgn : groupsOf (p.rules.take (i + 1)) = strip G := by rw [hgn]; unfold gstep; rw [hN]
          refine aop_tells rfl rfl hrs ⟨AVle.refl _, trivial⟩ fun nx4 => ?_
          (repeat((conv=>whnf);first|apply ω0|apply ω1|apply ω2|refine τ3 rfl ?_|refine τ4 rfl ?_|refine ⟨rfl,?_⟩|apply τa|refine τb rfl ?_|refine ⟨⟨by kernel_rfl,by kernel_rfl⟩,?_⟩|refine ⟨by decide,?_⟩|apply τt|apply τf))
          exact back (i + 1, G, nx4 + 1) ⟨hi, hgn.symm, by dsimp only; omega, fun g hg => ⟨by have := (h4 g hg).1; dsimp only; omega, (h4 g hg).2⟩⟩ (by dsimp only; omega) (ele_tell _ _ rfl rfl (.cons _ (.cons _ (List.Sublist.refl _))) (List.Sublist.refl _) (BxLe.refl _) (PmEq.refl _) ⟨AVle.refl _, AVle.refl _, AVle.refl _, AVle.refl _, AVle.refl _, le_int (wrap_succ (by first | omega | (dsimp only; omega))), trivial⟩)
        | some n =>
          rw [hN] at hrs
          obtain ⟨hn1, hn2, hn3⟩ := normR_conds hN
          rcases grp_cases (p.rules.getD i rul0).name G with hno | ⟨G1, l, st, G2, hG, hno⟩
          · have hgn : groupsOf (p.rules.take (i + 1)) = gadd (strip G) (p.rules.getD i rul0).name n := by
              rw [hgn]; unfold gstep; rw [hN]
              dsimp only
              rw [gget_none hno]; rfl
            have hlk := alook_none (e := gE) (fun _ => rfl) hno
            have hhd := hidden_spec [] n (by decide) (by simp)
            refine aop_tells rfl rfl hrs ⟨AVle.refl _, trivial⟩ fun nx4 => ?_
            (repeat((conv=>whnf);first|apply ω0|apply ω1|apply ω2|refine τ3 rfl ?_|refine τ4 rfl ?_|refine ⟨rfl,?_⟩|apply τa|refine τb rfl ?_|refine ⟨by decide,?_⟩|apply τt|apply τf))
            refine ⟨⟨rfl, gE_fit G⟩, splitO_eq (b := .os 0 0 (fun _ => .any) none) (congrArg (fun o : Option AV => o.getD (.os 0 0 (fun _ => .any) none)) hlk) ?_⟩
            (repeat((conv=>whnf);first|apply ω0|apply ω1|apply ω2|refine τ3 rfl ?_|refine τ4 rfl ?_|refine ⟨rfl,?_⟩|apply τa|refine τb rfl ?_|refine ⟨by decide,?_⟩|apply τt|apply τf))
            refine splitO_eq (b := rulA n) rfl ?_
            (repeat((conv=>whnf);first|apply ω0|apply ω1|apply ω2|refine τ3 rfl ?_|refine τ4 rfl ?_|refine ⟨rfl,?_⟩|apply τa|refine τb rfl ?_|refine ⟨by decide,?_⟩|apply τt|apply τf))
            refine aop_tells rfl rfl hhd ⟨AVle.os_sl0, AVle.refl _, trivial⟩ fun nx5 => ?_
            intro c hc
            have hc2 : c = false := hc
            clear hc; subst hc2
            (repeat((conv=>whnf);first|apply ω0|apply ω1|apply ω2|refine τ3 rfl ?_|refine τ4 rfl ?_|refine ⟨rfl,?_⟩|apply τa|refine τb rfl ?_|refine ⟨by decide,?_⟩|apply τt|apply τf))
            refine aw_mixN 10 _ (fun i => match i with | 9 => true | _ => false) (fun i => match i with | 6 => true | _ => false) [0, 1, 2, 3, 4, 5, 6, 7, 8, 9] (by kernel_rfl) (by kernel_rfl) (HB.refl _) ?_
            (repeat((conv=>whnf);first|apply ω0|apply ω1|apply ω2|refine τ3 rfl ?_|refine τ4 rfl ?_|refine ⟨rfl,?_⟩|apply τa|refine τb rfl ?_|refine ⟨by decide,?_⟩|apply τt|apply τf))
            refine ⟨lookR (alook (.string (p.rules.getD i rul0).name) (G.map gE)) (.os 0 0 (fun _ => .any) none) false, pure_apure rfl (C := some (nx2 = nx2 ∧ keysFit .string (G.map gE) = true)) rfl ⟨rfl, gE_fit G⟩, splitV_eq (b := .os 0 0 (fun _ => .any) none) (congrArg (fun o : Option AV => o.getD (.os 0 0 (fun _ => .any) none)) hlk) ?_⟩
            (repeat((conv=>whnf);first|apply ω0|apply ω1|apply ω2|refine τ3 rfl ?_|refine τ4 rfl ?_|refine ⟨rfl,?_⟩|apply τa|refine τb rfl ?_|refine ⟨by decide,?_⟩|apply τt|apply τf))
            refine splitV_eq (b := rulA n) rfl ?_
            (repeat((conv=>whnf);first|apply ω0|apply ω1|apply ω2|refine τ3 rfl ?_|refine τ4 rfl ?_|refine ⟨rfl,?_⟩|apply τa|refine τb rfl ?_|refine ⟨by decide,?_⟩|apply τt|apply τf))
            refine ⟨_, eff_append (e := 47) (n := 0) (oi := none) (sz := 0) (f := fun _ => .any) (m := 1) (szx := 4) (HB.refl _) rfl rfl rfl (.inr ⟨_, rfl⟩) Tryz.underlying33 gr_rul (.inl ⟨rfl, rfl⟩) (.inr gc_rul.symm) (fun i h => by cases h) (oneRow_one rfl) (fun _ => by rw [gb_rul]; omega) (fun _ => by omega), fun r h' hr => ?_⟩
            rcases hr with ⟨hr, -⟩ | ⟨-, rfl, rfl⟩
            · exact absurd hr (by decide)
            (repeat((conv=>whnf);first|apply ω0|apply ω1|apply ω2|refine τ3 rfl ?_|refine τ4 rfl ?_|refine ⟨rfl,?_⟩|apply τa|refine τb rfl ?_|refine ⟨by decide,?_⟩|apply τt|apply τf))
            refine ⟨⟨rfl, gE_fit G⟩, ?_⟩
            (repeat((conv=>whnf);first|apply ω0|apply ω1|apply ω2|refine τ3 rfl ?_|refine τ4 rfl ?_|refine ⟨rfl,?_⟩|apply τa|refine τb rfl ?_|refine ⟨by decide,?_⟩|apply τt|apply τf))
            refine forceM_intro ?_
            (repeat((conv=>whnf);first|apply ω0|apply ω1|apply ω2|refine τ3 rfl ?_|refine τ4 rfl ?_|refine ⟨rfl,?_⟩|apply τa|refine τb rfl ?_|refine ⟨by decide,?_⟩|apply τt|apply τf))
            exact back (i + 1, G ++ [((p.rules.getD i rul0).name, [n], nx5)], nx5 + 1) ⟨hi, (hgn.trans (gadd_none hno)).symm, by simp; omega, fun g hg => by
              rcases List.mem_append.1 hg with hg | hg
              · exact ⟨by have := (h4 g hg).1; dsimp only; omega, (h4 g hg).2⟩
              · rw [List.mem_singleton.1 hg]
                exact ⟨by simp, fun r hr => by rw [List.mem_singleton.1 hr]; omega⟩⟩ (by dsimp only; omega) (ele_tellG (bx := [((2, nx2), .mp ((G ++ [((p.rules.getD i rul0).name, [n], nx5)]).map gE)), ((1, nx + 1), .c zpolL), ((0, nx), .c (polC p))]) _ rfl rfl (.cons _ (.cons _ (List.Sublist.refl _))) rfl (by rw [List.map_append]; exact (List.perm_append_singleton _ _).map _ |>.trans (.of_eq (by rw [gc_rul]; rfl))) ⟨rfl, mp_none hno (le_catR (L := [])), BxLe.refl _⟩ ⟨AVle.refl _, AVle.refl _, AVle.refl _, AVle.refl _, AVle.refl _, le_int (wrap_succ (by first | omega | (dsimp only; omega))), trivial⟩)
          · subst hG
            have hlk := alook_at (e := gE) (fun _ => rfl) (l := l) (st := st) (G2 := G2) hno
            have hgl := h4 ((p.rules.getD i rul0).name, l, st) (by simp)
            dsimp only at hgl
            have hhd := hidden_spec l n (by omega) (fun r hr => by have := hgl.2 r hr; omega)
            have hgg : gget (strip (G1 ++ ((p.rules.getD i rul0).name, l, st) :: G2)) (p.rules.getD i rul0).name = l := gget_at hno
            unfold gstep at hgn
            rw [hN] at hgn
            dsimp only at hgn
            rw [hgg] at hgn
            refine aop_tells rfl rfl hrs ⟨AVle.refl _, trivial⟩ fun nx4 => ?_
            (repeat((conv=>whnf);first|apply ω0|apply ω1|apply ω2|refine τ3 rfl ?_|refine τ4 rfl ?_|refine ⟨rfl,?_⟩|apply τa|refine τb rfl ?_|refine ⟨by decide,?_⟩|apply τt|apply τf))
            refine ⟨⟨rfl, gE_fit _⟩, splitO_eq (b := .os 4 l.length (rulF l) (some (st, st))) (congrArg (fun o : Option AV => o.getD (.os 0 0 (fun _ => .any) none)) hlk) ?_⟩
            (repeat((conv=>whnf);first|apply ω0|apply ω1|apply ω2|refine τ3 rfl ?_|refine τ4 rfl ?_|refine ⟨rfl,?_⟩|apply τa|refine τb rfl ?_|refine ⟨by decide,?_⟩|apply τt|apply τf))
            refine splitO_eq (b := rulA n) rfl ?_
            (repeat((conv=>whnf);first|apply ω0|apply ω1|apply ω2|refine τ3 rfl ?_|refine τ4 rfl ?_|refine ⟨rfl,?_⟩|apply τa|refine τb rfl ?_|refine ⟨by decide,?_⟩|apply τt|apply τf))
            refine aop_tells rfl rfl hhd ⟨AVle.os_sl, AVle.refl _, trivial⟩ fun nx5 => ?_
            intro c hh; cases c
            · have hh : hidden l n = false := hh.symm
              rw [hh, if_neg (by decide)] at hgn
              (repeat((conv=>whnf);first|apply ω0|apply ω1|apply ω2|refine τ3 rfl ?_|refine τ4 rfl ?_|refine ⟨rfl,?_⟩|apply τa|refine τb rfl ?_|refine ⟨by decide,?_⟩|apply τt|apply τf))
              refine aw_mixN 10 _ (fun i => match i with | 9 => true | _ => false) (fun i => match i with | 6 => true | _ => false) [0, 1, 2, 3, 4, 5, 6, 7, 8, 9] (by kernel_rfl) (by kernel_rfl) (HB.refl _) ?_
              (repeat((conv=>whnf);first|apply ω0|apply ω1|apply ω2|refine τ3 rfl ?_|refine τ4 rfl ?_|refine ⟨rfl,?_⟩|apply τa|refine τb rfl ?_|refine ⟨by decide,?_⟩|apply τt|apply τf))
              refine ⟨lookR (alook (.string (p.rules.getD i rul0).name) ((G1 ++ ((p.rules.getD i rul0).name, l, st) :: G2).map gE)) (.os 0 0 (fun _ => .any) none) false, pure_apure rfl (C := some (nx2 = nx2 ∧ keysFit .string ((G1 ++ ((p.rules.getD i rul0).name, l, st) :: G2).map gE) = true)) rfl ⟨rfl, gE_fit _⟩, splitV_eq (b := .os 4 l.length (rulF l) (some (st, st))) (congrArg (fun o : Option AV => o.getD (.os 0 0 (fun _ => .any) none)) hlk) ?_⟩
              (repeat((conv=>whnf);first|apply ω0|apply ω1|apply ω2|refine τ3 rfl ?_|refine τ4 rfl ?_|refine ⟨rfl,?_⟩|apply τa|refine τb rfl ?_|refine ⟨by decide,?_⟩|apply τt|apply τf))
              refine splitV_eq (b := rulA n) rfl ?_
              (repeat((conv=>whnf);first|apply ω0|apply ω1|apply ω2|refine τ3 rfl ?_|refine τ4 rfl ?_|refine ⟨rfl,?_⟩|apply τa|refine τb rfl ?_|refine ⟨by decide,?_⟩|apply τt|apply τf))
              refine ⟨_, eff_append (e := 47) (n := l.length) (oi := some (st, st)) (sz := 4) (f := rulF l) (m := 1) (szx := 4) (HB.refl _) rfl rfl rfl (.inr ⟨_, rfl⟩) Tryz.underlying33 gr_rul (.inr gc_rul.symm) (.inr gc_rul.symm) (fun i h => by cases h; rw [gc_rul]; exact permGet_at hnd) (oneRow_one rfl) (fun _ => by rw [gb_rul]; omega) (fun _ => by omega), fun r h' hr => ?_⟩
              rcases hr with ⟨hr, -⟩ | ⟨-, rfl, rfl⟩
              · exact absurd hr (by decide)
              (repeat((conv=>whnf);first|apply ω0|apply ω1|apply ω2|refine τ3 rfl ?_|refine τ4 rfl ?_|refine ⟨rfl,?_⟩|apply τa|refine τb rfl ?_|refine ⟨by decide,?_⟩|apply τt|apply τf))
              refine ⟨⟨rfl, gE_fit _⟩, ?_⟩
              (repeat((conv=>whnf);first|apply ω0|apply ω1|apply ω2|refine τ3 rfl ?_|refine τ4 rfl ?_|refine ⟨rfl,?_⟩|apply τa|refine τb rfl ?_|refine ⟨by decide,?_⟩|apply τt|apply τf))
              refine forceM_intro ?_
              (repeat((conv=>whnf);first|apply ω0|apply ω1|apply ω2|refine τ3 rfl ?_|refine τ4 rfl ?_|refine ⟨rfl,?_⟩|apply τa|refine τb rfl ?_|refine ⟨by decide,?_⟩|apply τt|apply τf))
              exact back (i + 1, G1 ++ ((p.rules.getD i rul0).name, l ++ [n], nx5) :: G2, nx5 + 1) ⟨hi, (hgn.trans (gadd_at hno)).symm, by simp at h3 ⊢; omega, fun g hg => by
                rcases List.mem_append.1 hg with hg | hg
                · have := h4 g (List.mem_append_left _ hg); exact ⟨by have := this.1; dsimp only; omega, this.2⟩
                · rcases List.mem_cons.1 hg with rfl | hg
                  · exact ⟨by simp; omega, fun r hr => by
                      rcases List.mem_append.1 hr with hr | hr
                      · exact hgl.2 r hr
                      · rw [List.mem_singleton.1 hr]; omega⟩
                  · have := h4 g (List.mem_append_right _ (.tail _ hg)); exact ⟨by have := this.1; dsimp only; omega, this.2⟩⟩ (by dsimp only; omega) (ele_tellG (bx := [((2, nx2), .mp ((G1 ++ ((p.rules.getD i rul0).name, l ++ [n], nx5) :: G2).map gE)), ((1, nx + 1), .c zpolL), ((0, nx), .c (polC p))]) _ rfl rfl (.cons _ (.cons _ (List.Sublist.refl _))) rfl (perm_at hnd) ⟨rfl, mp_at hno le_catR, BxLe.refl _⟩ ⟨AVle.refl _, AVle.refl _, AVle.refl _, AVle.refl _, AVle.refl _, le_int (wrap_succ (by first | omega | (dsimp only; omega))), trivial⟩)
            · have hh : hidden l n = true := hh.symm
              rw [hh, if_pos rfl] at hgn
              (repeat((conv=>whnf);first|apply ω0|apply ω1|apply ω2|refine τ3 rfl ?_|refine τ4 rfl ?_|refine ⟨rfl,?_⟩|apply τa|refine τb rfl ?_|refine ⟨by decide,?_⟩|apply τt|apply τf))
              exact back (i + 1, G1 ++ ((p.rules.getD i rul0).name, l, st) :: G2, nx5) ⟨hi, hgn.symm, by dsimp only; omega, fun g hg => ⟨by have := (h4 g hg).1; dsimp only; omega, (h4 g hg).2⟩⟩ (by dsimp only; omega) (ele_tell _ _ rfl rfl (.cons _ (.cons _ (List.Sublist.refl _))) (List.Sublist.refl _) (BxLe.refl _) (PmEq.refl _) ⟨AVle.refl _, AVle.refl _, AVle.refl _, AVle.refl _, AVle.refl _, le_int (wrap_succ (by first | omega | (dsimp only; omega))), trivial⟩)
end Go.Proofs.W

namespace Go.Proofs.W
open Go.Vl
set_option maxRecDepth 100000

theorem normC_state (c : Cnd) : (normC c).2 = 0 ∨ (normC c).2 = 1 ∨ (normC c).2 = 2 := by
  unfold normC formC underC overC bitsC isC asC
  repeat' split
  all_goals simp
theorem formC_ok {c : Cnd} (ho : c.ok) : (normC c).1.ok := by
  obtain ⟨o1, o2⟩ := ho
  unfold normC formC underC overC bitsC isC asC cnd0 Cnd.ok
  repeat' split
  all_goals (refine ⟨?_, ?_⟩ <;> dsimp only <;> omega)
end Go.Proofs.W

namespace Go.Proofs.W
open Go.Vl
set_option maxRecDepth 100000

/- The plain laws of normal forms. -/
theorem pair_same {α : Type} {R : α → α → Prop} (hi : ∀ x, ¬ R x x) (ht : ∀ x y z, R x y → R y z → R x z) : ∀ {l l' : List α}, l.Pairwise R → l'.Pairwise R → (∀ x, x ∈ l ↔ x ∈ l') → l = l'
  | [], [], _, _, _ => rfl
  | [], y :: l', _, _, h => absurd ((h y).2 (.head _)) (by simp)
  | x :: l, [], _, _, h => absurd ((h x).1 (.head _)) (by simp)
  | x :: l, y :: l', h1, h2, h => by
    rw [List.pairwise_cons] at h1 h2
    have hxy : x = y := by
      rcases List.mem_cons.1 ((h x).1 (.head _)) with e | e
      · exact e
      · rcases List.mem_cons.1 ((h y).2 (.head _)) with e' | e'
        · exact e'.symm
        · exact absurd (ht _ _ _ (h1.1 _ e') (h2.1 _ e)) (hi x)
    subst hxy
    have hnx : ∀ {m : List α}, (∀ z ∈ m, R x z) → x ∉ m := fun hm hx => hi x (hm x hx)
    rw [pair_same hi ht h1.2 h2.2 fun z => ?_]
    constructor
    · intro hz
      rcases List.mem_cons.1 ((h z).1 (.tail _ hz)) with e | e
      · subst e; exact absurd hz (hnx h1.1)
      · exact e
    · intro hz
      rcases List.mem_cons.1 ((h z).2 (.tail _ hz)) with e | e
      · subst e; exact absurd hz (hnx h2.1)
      · exact e
def RC (a b : Cnd) : Prop := ltC a b = true
theorem RC_irr (x : Cnd) : ¬ RC x x := by unfold RC; rw [swo_ltC.irrefl]; decide
theorem RC_tr (x y z : Cnd) (h : RC x y) (k : RC y z) : RC x z := swo_ltC.trans x y z h k
/-- A sorted row, each run once. -/
theorem cU_spec {d : Array Cnd} : ∀ {m : Nat}, m ≤ d.size → (∀ i j, i < j → j < m → ltC d[j]! d[i]! = false) → (cU d m).Pairwise RC ∧ ∀ x, x ∈ cU d m ↔ ∃ j, j < m ∧ d[j]! = x
  | 0, _, _ => ⟨List.Pairwise.nil, fun x => by simp [cU]⟩
  | m + 1, hm, hs => by
    obtain ⟨h1, h2⟩ := cU_spec (m := m) (by omega) fun i j a b => hs i j a (by omega)
    by_cases hc : m = 0 ∨ d[m]! ≠ d[m - 1]!
    · rw [cU, if_pos hc]
      refine ⟨?_, fun x => ?_⟩
      · rw [List.pairwise_append]
        refine ⟨h1, List.pairwise_singleton _ _, fun a ha b hb => ?_⟩
        rw [List.mem_singleton] at hb
        subst hb
        obtain ⟨j, hj, rfl⟩ := (h2 a).1 ha
        cases hlt : ltC d[j]! d[m]! with
        | true => exact hlt
        | false =>
          exfalso
          have h3 := hs (m - 1) m (by omega) (by omega)
          have h4 : ltC d[m - 1]! d[m]! = false := by
            rcases Nat.lt_or_ge j (m - 1) with q | q
            · exact swo_ltC.ntrans _ _ _ (hs j (m - 1) q (by omega)) hlt
            · rw [show m - 1 = j by omega]; exact hlt
          rcases hc with hc | hc
          · omega
          · exact hc (ltC_tot h3 h4)
      · rw [List.mem_append, h2, List.mem_singleton]
        constructor
        · rintro (⟨j, hj, rfl⟩ | rfl)
          · exact ⟨j, by omega, rfl⟩
          · exact ⟨m, by omega, rfl⟩
        · rintro ⟨j, hj, rfl⟩
          rcases Nat.lt_or_ge j m with q | q
          · exact .inl ⟨j, q, rfl⟩
          · exact .inr (by rw [show j = m by omega])
    · rw [cU, if_neg hc]
      refine ⟨h1, fun x => ?_⟩
      rw [h2]
      constructor
      · rintro ⟨j, hj, rfl⟩; exact ⟨j, by omega, rfl⟩
      · rintro ⟨j, hj, rfl⟩
        rcases Nat.lt_or_ge j m with q | q
        · exact ⟨j, q, rfl⟩
        · have hj' : j = m := by omega
          subst hj'
          have : j ≠ 0 := fun h => hc (.inl h)
          exact ⟨j - 1, by omega, by by_cases he : d[j]! = d[j - 1]!; exact he.symm; exact absurd (.inr he) hc⟩
theorem cmpt_spec (L : List Cnd) : (cmpt L).Pairwise RC ∧ ∀ x, x ∈ cmpt L ↔ x ∈ L := by
  have h := Go.Sort.insertionSort_holds (lt := ltC) swo_ltC L.toArray 0 L.length (Nat.zero_le _) (by simp)
  have hsz : (Go.Sort.insertionSort ltC L.toArray 0 L.length).size = L.length := by have := h.1.1; simpa using this
  obtain ⟨h1, h2⟩ := cU_spec (d := Go.Sort.insertionSort ltC L.toArray 0 L.length) (m := L.length) (by omega) fun i j a b => h.2 i j (Nat.zero_le _) a b
  refine ⟨h1, fun x => (h2 x).trans ?_⟩
  have hp := h.1.2.2.mem_iff (a := x)
  clear h h1 h2
  generalize Go.Sort.insertionSort ltC L.toArray 0 L.length = d at hsz hp ⊢
  have e1 : (d.extract 0 L.length).toList = d.toList := by rw [← hsz]; simp
  have e2 : (L.toArray.extract 0 L.length).toList = L := by simp
  rw [e1, e2] at hp
  rw [← hp, List.mem_iff_getElem]
  constructor
  · rintro ⟨j, hj, rfl⟩
    have hj' : j < d.size := by omega
    exact ⟨j, by simpa using hj', by simp [hj']⟩
  · rintro ⟨j, hj, rfl⟩
    have hj' : j < d.size := by simpa using hj
    exact ⟨j, by omega, by simp [hj']⟩
theorem cmpt_eq {L L' : List Cnd} (h : ∀ x, x ∈ L ↔ x ∈ L') : cmpt L = cmpt L' :=
  pair_same RC_irr RC_tr (cmpt_spec L).1 (cmpt_spec L').1 fun x => ((cmpt_spec L).2 x).trans ((h x).trans ((cmpt_spec L').2 x).symm)
theorem cmpt_idem (L : List Cnd) : cmpt (cmpt L) = cmpt L := cmpt_eq fun x => (cmpt_spec L).2 x
theorem cmpt_nil : cmpt [] = [] := rfl
theorem cmpt_le (L : List Cnd) : (cmpt L).length ≤ L.length := cU_le _ _
/-- Rules whose conditions are the same ones have one normal form. -/
theorem normR_mem {r r' : Rul} (hn : r.name = r'.name) (ha : r.act = r'.act) (h : ∀ x, x ∈ r.conds ↔ x ∈ r'.conds) : normR r = normR r' := by
  unfold normR
  have e1 : r.conds.any neverC = r'.conds.any neverC := by
    rw [Bool.eq_iff_iff, List.any_eq_true, List.any_eq_true]
    exact ⟨fun ⟨x, hx, hb⟩ => ⟨x, (h x).1 hx, hb⟩, fun ⟨x, hx, hb⟩ => ⟨x, (h x).2 hx, hb⟩⟩
  have e2 : cmpt (asksOf r.conds) = cmpt (asksOf r'.conds) := cmpt_eq fun x => by
    unfold asksOf
    rw [List.mem_filterMap, List.mem_filterMap]
    exact ⟨fun ⟨y, hy, hb⟩ => ⟨y, (h y).1 hy, hb⟩, fun ⟨y, hy, hb⟩ => ⟨y, (h y).2 hy, hb⟩⟩
  rw [e1, e2, hn, ha]
theorem rightC_1 {arg : Int} {op : Int} {v : Nat} (h0 : 0 ≤ arg) (h5 : arg ≤ 5) (h1 : 1 ≤ op) (h7 : op ≤ 7) : rightC ⟨arg, op, 0, v⟩ = true := rightC_iff.2 ⟨h0, h5, h1, h7, .inr rfl⟩
theorem normC_1 {arg : Int} {v : Nat} (h0 : 0 ≤ arg) (h5 : arg ≤ 5) : normC ⟨arg, 1, 0, v⟩ = (⟨arg, 1, 0, v⟩, 0) := by
  unfold normC; rw [if_pos (rightC_1 h0 h5 (by decide) (by decide))]; simp [formC]
theorem normC_3 {arg : Int} {v : Nat} (h0 : 0 ≤ arg) (h5 : arg ≤ 5) (hv : ¬ v = 0) (hv1 : ¬ v = 1) : normC ⟨arg, 3, 0, v⟩ = (⟨arg, 3, 0, v⟩, 0) := by
  unfold normC; rw [if_pos (rightC_1 h0 h5 (by decide) (by decide))]; simp [formC, underC, hv, hv1, asC]
theorem normC_6 {arg : Int} {v : Nat} (h0 : 0 ≤ arg) (h5 : arg ≤ 5) (hv : ¬ v = 0) (hv1 : ¬ v = 18446744073709551615) : normC ⟨arg, 6, 0, v⟩ = (⟨arg, 6, 0, v⟩, 0) := by
  unfold normC; rw [if_pos (rightC_1 h0 h5 (by decide) (by decide))]; simp [formC, overC, hv, hv1, asC]
theorem under_again {c : Cnd} {v : Nat} (h0 : 0 ≤ c.arg) (h5 : c.arg ≤ 5) (h : (underC c v).2 = 0) : rightC (underC c v).1 = true ∧ normC (underC c v).1 = ((underC c v).1, 0) := by
  unfold underC at h ⊢
  by_cases e0 : v = 0
  · rw [if_pos e0] at h; simp [isC] at h
  · rw [if_neg e0] at h ⊢
    by_cases e1 : v = 1
    · rw [if_pos e1]; exact ⟨rightC_1 h0 h5 (by decide) (by decide), normC_1 h0 h5⟩
    · rw [if_neg e1]; exact ⟨rightC_1 h0 h5 (by decide) (by decide), normC_3 h0 h5 e0 e1⟩
theorem over_again {c : Cnd} {v : Nat} (h0 : 0 ≤ c.arg) (h5 : c.arg ≤ 5) (h : (overC c v).2 = 0) : rightC (overC c v).1 = true ∧ normC (overC c v).1 = ((overC c v).1, 0) := by
  unfold overC at h ⊢
  by_cases e0 : v = 0
  · rw [if_pos e0] at h; simp [isC] at h
  · rw [if_neg e0] at h ⊢
    by_cases e1 : v = 18446744073709551615
    · rw [if_pos e1]; exact ⟨rightC_1 h0 h5 (by decide) (by decide), normC_1 h0 h5⟩
    · rw [if_neg e1]; exact ⟨rightC_1 h0 h5 (by decide) (by decide), normC_6 h0 h5 e0 e1⟩
/-- A condition's normal form asks as it stands. -/
theorem normC_again {c : Cnd} (h : (normC c).2 = 0) : rightC (normC c).1 = true ∧ normC (normC c).1 = ((normC c).1, 0) := by
  have hr : rightC c = true := by
    cases hr : rightC c with
    | true => rfl
    | false =>
      unfold normC at h
      rw [hr, if_neg (by decide)] at h
      simp [isC] at h
  have hrc := rightC_iff.1 hr
  have e : normC c = formC c := if_pos hr
  by_cases e3 : c.op = 3
  · have e2 : formC c = underC c c.value := if_pos e3
    rw [e, e2] at h ⊢; exact under_again hrc.1 hrc.2.1 h
  by_cases e6 : c.op = 6
  · have e2 : formC c = overC c c.value := by unfold formC; rw [if_neg e3, if_pos e6]
    rw [e, e2] at h ⊢; exact over_again hrc.1 hrc.2.1 h
  by_cases e7 : c.op = 7
  · have e2 : formC c = bitsC c := by unfold formC; rw [if_neg e3, if_neg e6, if_pos e7]
    rw [e, e2] at h ⊢
    unfold bitsC at h ⊢
    by_cases b0 : clrB c.value c.mask ≠ 0
    · rw [if_pos b0] at h; simp [isC] at h
    · rw [if_neg b0] at h ⊢
      by_cases b1 : c.mask = 0
      · rw [if_pos b1] at h; simp [isC] at h
      · rw [if_neg b1] at h ⊢
        by_cases b2 : c.mask = 18446744073709551615
        · rw [if_pos b2]; exact ⟨rightC_1 hrc.1 hrc.2.1 (by decide) (by decide), normC_1 hrc.1 hrc.2.1⟩
        · rw [if_neg b2]
          refine ⟨hr, ?_⟩
          rw [e, e2]; unfold bitsC; rw [if_neg b0, if_neg b1, if_neg b2]
  by_cases e4 : c.op = 4
  · by_cases v : c.value = 18446744073709551615
    · have e2 : formC c = isC true := by unfold formC; rw [if_neg e3, if_neg e6, if_neg e7, if_pos e4, if_pos v]
      rw [e, e2] at h; simp [isC] at h
    · have e2 : formC c = underC c (c.value + 1) := by unfold formC; rw [if_neg e3, if_neg e6, if_neg e7, if_pos e4, if_neg v]
      rw [e, e2] at h ⊢; exact under_again hrc.1 hrc.2.1 h
  by_cases e5 : c.op = 5
  · by_cases v : c.value = 18446744073709551615
    · have e2 : formC c = isC false := by unfold formC; rw [if_neg e3, if_neg e6, if_neg e7, if_neg e4, if_pos e5, if_pos v]
      rw [e, e2] at h; simp [isC] at h
    · have e2 : formC c = overC c (c.value + 1) := by unfold formC; rw [if_neg e3, if_neg e6, if_neg e7, if_neg e4, if_pos e5, if_neg v]
      rw [e, e2] at h ⊢; exact over_again hrc.1 hrc.2.1 h
  have e2 : formC c = (c, 0) := by unfold formC; rw [if_neg e3, if_neg e6, if_neg e7, if_neg e4, if_neg e5]
  rw [e, e2]
  exact ⟨hr, e.trans e2⟩
theorem asks_again {cs : List Cnd} {x : Cnd} (h : x ∈ asksOf cs) : rightC x = true ∧ neverC x = false ∧ askC x = some x := by
  unfold asksOf at h
  obtain ⟨c, hc, hx⟩ := List.mem_filterMap.1 h
  unfold askC at hx
  split at hx
  · rename_i h0
    cases hx
    obtain ⟨h1, h2⟩ := normC_again h0
    refine ⟨h1, ?_, ?_⟩
    · unfold neverC; rw [h2]; rfl
    · unfold askC; rw [h2]; rfl
  · cases hx
/-- A rule's normal form is one; and it is right where the rule is. -/
theorem normR_again {r n : Rul} (h : normR r = some n) : normR n = some n ∧ (rightR r = true → rightR n = true) ∧ ((∀ c ∈ r.conds, c.ok) → ∀ c ∈ n.conds, c.ok) := by
  have hc := normR_conds h
  unfold normR at h
  split at h
  · cases h
  · cases h
    have hm : ∀ x, x ∈ cmpt (asksOf r.conds) → rightC x = true ∧ neverC x = false ∧ askC x = some x := fun x hx => asks_again (((cmpt_spec _).2 x).1 hx)
    refine ⟨?_, fun hr => ?_, fun ho x hx => ?_⟩
    · unfold normR
      dsimp only
      have e1 : (cmpt (asksOf r.conds)).any neverC = false := by
        rw [List.any_eq_false]
        intro x hx; rw [(hm x hx).2.1]; decide
      have e2 : asksOf (cmpt (asksOf r.conds)) = cmpt (asksOf r.conds) := by
        generalize cmpt (asksOf r.conds) = l at hm
        unfold asksOf
        induction l with
        | nil => rfl
        | cons x l ih =>
          rw [List.filterMap_cons, (hm x (.head _)).2.2]
          dsimp only
          rw [ih fun y hy => hm y (.tail _ hy)]
      rw [e1, e2, cmpt_idem]; rfl
    · unfold rightR at hr ⊢
      simp only [Bool.and_eq_true, decide_eq_true_eq] at hr ⊢
      refine ⟨hr.1, hr.2.1, Nat.le_trans hc.1 hr.2.2.1, ?_⟩
      rw [Bool.not_eq_true', List.any_eq_false]
      intro x hx; rw [(hm x hx).1]; decide
    · have hx2 := ((cmpt_spec _).2 x).1 hx
      unfold asksOf at hx2
      obtain ⟨c, hc, hy⟩ := List.mem_filterMap.1 hx2
      unfold askC at hy
      split at hy
      · cases hy; exact formC_ok (ho c hc)
      · cases hy
end Go.Proofs.W
