import Derived.Test.YtibmfgeambbpaaaGreatDoorE
import Derived.Test.YtibmfgeambbpaaaGreatDoorD
import Derived.Test.YtibmfgeambbpaaaGreatDoorC
set_option linter.unusedVariables false
set_option linter.unusedSimpArgs false
namespace Go.Proofs.W
open Go.Vl
set_option maxRecDepth 100000

theorem cnd_eqb {c d : Cnd} : (c.arg == d.arg && (c.op == d.op && ((c.mask : Int) == (d.mask : Int) && ((c.value : Int) == (d.value : Int) && true)))) = decide (c = d) := by
  rw [Bool.eq_iff_iff]
  simp only [Bool.and_eq_true, beq_iff_eq, decide_eq_true_eq, and_true]
  obtain ⟨a1, a2, a3, a4⟩ := c
  obtain ⟨b1, b2, b3, b4⟩ := d
  simp
  omega
theorem eq_of_get {α : Type} {a b : List α} {d : α} (hl : a.length = b.length) (h : ∀ j, j < a.length → a.getD j d = b.getD j d) : a = b := by
  refine List.ext_getElem hl fun j h1 h2 => ?_
  have := h j h1
  simpa [List.getD, h1, h2] using this
theorem equalC_spec (a b : List Cnd) (ha : a.length ≤ 1000000) : Tells Tryz.prog 30 [cnds a, cnds b] (boolA (decide (a = b))) := by
  refine tells_of_aw Tryz.func30 rfl rfl fun nx => ?_
  (repeat((conv=>whnf);first|apply ω0|apply ω1|apply ω2|refine τ3 rfl ?_|refine τ4 rfl ?_|refine ⟨rfl,?_⟩|apply τa|refine τb rfl ?_|refine ⟨⟨by kernel_rfl,by kernel_rfl⟩,?_⟩|refine ⟨by decide,?_⟩|apply τt|apply τf))
  intro c g1; cases c
  rotate_left
  · have g1 : ((a.length : Nat) : Int) ≠ ((b.length : Nat) : Int) := fct_n1.1 g1
    (repeat((conv=>whnf);first|apply ω0|apply ω1|apply ω2|refine τ3 rfl ?_|refine τ4 rfl ?_|refine ⟨rfl,?_⟩|apply τa|refine τb rfl ?_|refine ⟨⟨by kernel_rfl,by kernel_rfl⟩,?_⟩|refine ⟨by decide,?_⟩|apply τt|apply τf))
    exact ret_tells rfl (le_bool (by rw [eq_comm]; exact decide_eq_false (fun h => g1 (by rw [h]))))
  have g1 : ((a.length : Nat) : Int) = ((b.length : Nat) : Int) := fct_n0.1 g1
  have hl : a.length = b.length := by omega
  (repeat((conv=>whnf);first|apply ω0|apply ω1|apply ω2|refine τ3 rfl ?_|refine τ4 rfl ?_|refine ⟨rfl,?_⟩|apply τa|refine τb rfl ?_|refine ⟨⟨by kernel_rfl,by kernel_rfl⟩,?_⟩|refine ⟨by decide,?_⟩|apply τt|apply τf))
  refine aw_loop (fun s : Nat × Nat => mk 26 [(0, cnds a), (1, cnds b), (12, int a.length), (13, int s.1)] ⟨[], [], s.2, 0⟩) (fun s => s.1 ≤ a.length ∧ ∀ j, j < s.1 → a.getD j cnd0 = b.getD j cnd0) (fun s => a.length - s.1) ?_ ?_
  · exact ⟨(0, nx), ⟨Nat.zero_le _, fun j h => absurd h (Nat.not_lt_zero _)⟩, ele_mk rfl rfl ⟨AVle.refl _, AVle.refl _, AVle.refl _, AVle.refl _, trivial⟩⟩
  · rintro ⟨i, nx2⟩ ⟨h3, h4⟩
    dsimp only at h3 h4
    (repeat((conv=>whnf);first|apply ω0|apply ω1|apply ω2|refine τ3 rfl ?_|refine τ4 rfl ?_|refine ⟨rfl,?_⟩|apply τa|refine τb rfl ?_|refine ⟨⟨by kernel_rfl,by kernel_rfl⟩,?_⟩|refine ⟨by decide,?_⟩|apply τt|apply τf))
    intro c h5; cases c
    · have h6 := not_of h5
      dsimp only at h6
      obtain rfl : i = a.length := by omega
      have he := eq_of_get hl h4
      (repeat((conv=>whnf);first|apply ω0|apply ω1|apply ω2|refine τ3 rfl ?_|refine τ4 rfl ?_|refine ⟨rfl,?_⟩|apply τa|refine τb rfl ?_|refine ⟨⟨by kernel_rfl,by kernel_rfl⟩,?_⟩|refine ⟨by decide,?_⟩|apply τt|apply τf))
      exact ret_tells rfl (le_bool (by rw [eq_comm]; exact decide_eq_true he))
    · have h6 := yes_of h5
      dsimp only at h6
      have hi : i < a.length := by omega
      (repeat((conv=>whnf);first|apply ω0|apply ω1|apply ω2|refine τ3 rfl ?_|refine τ4 rfl ?_|refine ⟨rfl,?_⟩|apply τa|refine τb rfl ?_|refine ⟨⟨by kernel_rfl,by kernel_rfl⟩,?_⟩|refine ⟨by decide,?_⟩|apply τt|apply τf))
      (refine aw_draw 9 ?_ ?_ ?_ ?_; (· kernel_rfl); (· kernel_rfl); (· kernel_rfl))
      (repeat((conv=>whnf);first|apply ω0|apply ω1|apply ω2|refine τ3 rfl ?_|refine τ4 rfl ?_|refine ⟨rfl,?_⟩|apply τa|refine τb rfl ?_|refine ⟨⟨by kernel_rfl,by kernel_rfl⟩,?_⟩|refine ⟨by decide,?_⟩|apply τt|apply τf))
      refine ⟨⟨by dsimp only; omega, by dsimp only; omega⟩, ?_⟩
      (repeat((conv=>whnf);first|apply ω0|apply ω1|apply ω2|refine τ3 rfl ?_|refine τ4 rfl ?_|refine ⟨rfl,?_⟩|apply τa|refine τb rfl ?_|refine ⟨⟨by kernel_rfl,by kernel_rfl⟩,?_⟩|refine ⟨by decide,?_⟩|apply τt|apply τf))
      refine ⟨⟨by dsimp only; omega, by dsimp only; omega⟩, ?_⟩
      (repeat((conv=>whnf);first|apply ω0|apply ω1|apply ω2|refine τ3 rfl ?_|refine τ4 rfl ?_|refine ⟨rfl,?_⟩|apply τa|refine τb rfl ?_|refine ⟨⟨by kernel_rfl,by kernel_rfl⟩,?_⟩|refine ⟨by decide,?_⟩|apply τt|apply τf))
      intro c hc
      have hc2 : c = !decide (a.getD i cnd0 = b.getD i cnd0) := hc.trans (congrArg (!·) cnd_eqb)
      cases c
      · have he : a.getD i cnd0 = b.getD i cnd0 := by simpa using hc2
        (repeat((conv=>whnf);first|apply ω0|apply ω1|apply ω2|refine τ3 rfl ?_|refine τ4 rfl ?_|refine ⟨rfl,?_⟩|apply τa|refine τb rfl ?_|refine ⟨⟨by kernel_rfl,by kernel_rfl⟩,?_⟩|refine ⟨by decide,?_⟩|apply τt|apply τf))
        refine back (i + 1, nx2) ⟨by dsimp only; omega, fun j hj => ?_⟩ (by dsimp only; omega) (ele_mk rfl rfl ⟨AVle.refl _, AVle.refl _, AVle.refl _, le_int (wrap_succ (by dsimp only; omega)), trivial⟩)
        dsimp only at hj
        rcases Nat.lt_or_ge j i with h | h
        · exact h4 j h
        · obtain rfl : j = i := by omega
          exact he
      · have he : ¬ a.getD i cnd0 = b.getD i cnd0 := by simpa using hc2
        (repeat((conv=>whnf);first|apply ω0|apply ω1|apply ω2|refine τ3 rfl ?_|refine τ4 rfl ?_|refine ⟨rfl,?_⟩|apply τa|refine τb rfl ?_|refine ⟨⟨by kernel_rfl,by kernel_rfl⟩,?_⟩|refine ⟨by decide,?_⟩|apply τt|apply τf))
        exact ret_tells rfl (le_bool (by rw [eq_comm]; exact decide_eq_false (fun h => he (by rw [h]))))
def sameR (a b : Rul) : Bool := (a.name.data.toList == b.name.data.toList) && (decide (a.act = b.act) && decide (a.conds = b.conds))
theorem act_eqb {a b : A2} : (a.1 == b.1 && (a.2 == b.2 && true)) = decide (a = b) := by
  rw [Bool.eq_iff_iff]
  simp only [Bool.and_eq_true, beq_iff_eq, decide_eq_true_eq, and_true]
  exact (Prod.ext_iff).symm
theorem same1_spec (a b : Rul) (ha : a.conds.length ≤ 1000000) : Tells Tryz.prog 29 [rulA a, rulA b] (boolA (sameR a b)) := by
  have he := equalC_spec a.conds b.conds ha
  have hs : sameR a b = ((a.name.toList == b.name.toList) && (decide (a.act = b.act) && decide (a.conds = b.conds))) := by unfold sameR; rw [Lib.toList_data, Lib.toList_data]
  rw [hs]
  have hact := act_eqb (a := a.act) (b := b.act)
  generalize decide (a.conds = b.conds) = b3 at he ⊢
  generalize decide (a.act = b.act) = b2 at hact ⊢
  obtain ⟨n1, ⟨k1, m1⟩, c1⟩ := a
  obtain ⟨n2, ⟨k2, m2⟩, c2⟩ := b
  dsimp only at hact he ⊢
  refine tells_of_aw Tryz.func29 rfl rfl fun nx => ?_
  (repeat((conv=>whnf);first|apply ω0|apply ω1|apply ω2|refine τ3 rfl ?_|refine τ4 rfl ?_|refine ⟨rfl,?_⟩|apply τa|refine τb rfl ?_|refine ⟨⟨by kernel_rfl,by kernel_rfl⟩,?_⟩|refine ⟨by decide,?_⟩|apply τt|apply τf))
  intro c t1; cases c
  · (repeat((conv=>whnf);first|apply ω0|apply ω1|apply ω2|refine τ3 rfl ?_|refine τ4 rfl ?_|refine ⟨rfl,?_⟩|apply τa|refine τb rfl ?_|refine ⟨⟨by kernel_rfl,by kernel_rfl⟩,?_⟩|refine ⟨by decide,?_⟩|apply τt|apply τf))
    exact ret_tells rfl (le_bool (by rw [← t1]; rfl))
  (repeat((conv=>whnf);first|apply ω0|apply ω1|apply ω2|refine τ3 rfl ?_|refine τ4 rfl ?_|refine ⟨rfl,?_⟩|apply τa|refine τb rfl ?_|refine ⟨⟨by kernel_rfl,by kernel_rfl⟩,?_⟩|refine ⟨by decide,?_⟩|apply τt|apply τf))
  intro c hc
  have hc2 : c = b2 := hc.trans hact
  cases c
  · (repeat((conv=>whnf);first|apply ω0|apply ω1|apply ω2|refine τ3 rfl ?_|refine τ4 rfl ?_|refine ⟨rfl,?_⟩|apply τa|refine τb rfl ?_|refine ⟨⟨by kernel_rfl,by kernel_rfl⟩,?_⟩|refine ⟨by decide,?_⟩|apply τt|apply τf))
    exact ret_tells rfl (le_bool (by rw [← t1, ← hc2]; rfl))
  (repeat((conv=>whnf);first|apply ω0|apply ω1|apply ω2|refine τ3 rfl ?_|refine τ4 rfl ?_|refine ⟨rfl,?_⟩|apply τa|refine τb rfl ?_|refine ⟨⟨by kernel_rfl,by kernel_rfl⟩,?_⟩|refine ⟨by decide,?_⟩|apply τt|apply τf))
  refine aop_tells rfl rfl he ⟨AVle.refl _, AVle.refl _, trivial⟩ fun nx1 => ?_
  intro d hd
  cases d
  · (repeat((conv=>whnf);first|apply ω0|apply ω1|apply ω2|refine τ3 rfl ?_|refine τ4 rfl ?_|refine ⟨rfl,?_⟩|apply τa|refine τb rfl ?_|refine ⟨⟨by kernel_rfl,by kernel_rfl⟩,?_⟩|refine ⟨by decide,?_⟩|apply τt|apply τf))
    exact ret_tells rfl (le_bool (by rw [← t1, ← hc2, ← hd]; rfl))
  · (repeat((conv=>whnf);first|apply ω0|apply ω1|apply ω2|refine τ3 rfl ?_|refine τ4 rfl ?_|refine ⟨rfl,?_⟩|apply τa|refine τb rfl ?_|refine ⟨⟨by kernel_rfl,by kernel_rfl⟩,?_⟩|refine ⟨by decide,?_⟩|apply τt|apply τf))
    exact ret_tells rfl (le_bool (by rw [← t1, ← hc2, ← hd]; rfl))
def sameL (a b : List Rul) : Bool := decide (a.length = b.length) && (List.range a.length).all fun j => sameR (a.getD j rul0) (b.getD j rul0)
set_option maxHeartbeats 1000000 in
theorem equalF_spec (a b : List Rul) (ha : a.length ≤ 1000000) (hc : ∀ r ∈ a, r.conds.length ≤ 1000000) : Tells Tryz.prog 28 [ruls a, ruls b, fn0 29] (boolA (sameL a b)) := by
  refine tells_of_aw Tryz.func28 rfl rfl fun nx => ?_
  (repeat((conv=>whnf);first|apply ω0|apply ω1|apply ω2|refine τ3 rfl ?_|refine τ4 rfl ?_|refine ⟨rfl,?_⟩|apply τa|refine τb rfl ?_|refine ⟨⟨by kernel_rfl,by kernel_rfl⟩,?_⟩|refine ⟨by decide,?_⟩|apply τt|apply τf))
  intro c g1; cases c
  rotate_left
  · have g1 : ((a.length : Nat) : Int) ≠ ((b.length : Nat) : Int) := fct_n1.1 g1
    have hne : ¬ a.length = b.length := fun h => g1 (by rw [h])
    (repeat((conv=>whnf);first|apply ω0|apply ω1|apply ω2|refine τ3 rfl ?_|refine τ4 rfl ?_|refine ⟨rfl,?_⟩|apply τa|refine τb rfl ?_|refine ⟨⟨by kernel_rfl,by kernel_rfl⟩,?_⟩|refine ⟨by decide,?_⟩|apply τt|apply τf))
    exact ret_tells rfl (le_bool (by unfold sameL; rw [decide_eq_false hne]; rfl))
  have g1 : ((a.length : Nat) : Int) = ((b.length : Nat) : Int) := fct_n0.1 g1
  have hl : a.length = b.length := by omega
  (repeat((conv=>whnf);first|apply ω0|apply ω1|apply ω2|refine τ3 rfl ?_|refine τ4 rfl ?_|refine ⟨rfl,?_⟩|apply τa|refine τb rfl ?_|refine ⟨⟨by kernel_rfl,by kernel_rfl⟩,?_⟩|refine ⟨by decide,?_⟩|apply τt|apply τf))
  refine aw_loop (fun s : Nat × Nat => mk 32 [(1, ruls b), (2, fn0 29), (15, ruls a), (16, int a.length), (17, int s.1)] ⟨[], [], s.2, 0⟩) (fun s => s.1 ≤ a.length ∧ ∀ j, j < s.1 → sameR (a.getD j rul0) (b.getD j rul0) = true) (fun s => a.length - s.1) ?_ ?_
  · exact ⟨(0, nx), ⟨Nat.zero_le _, fun j h => absurd h (Nat.not_lt_zero _)⟩, ele_mk rfl rfl ⟨AVle.refl _, AVle.refl _, AVle.refl _, AVle.refl _, AVle.refl _, trivial⟩⟩
  · rintro ⟨i, nx2⟩ ⟨h3, h4⟩
    dsimp only at h3 h4
    (repeat((conv=>whnf);first|apply ω0|apply ω1|apply ω2|refine τ3 rfl ?_|refine τ4 rfl ?_|refine ⟨rfl,?_⟩|apply τa|refine τb rfl ?_|refine ⟨⟨by kernel_rfl,by kernel_rfl⟩,?_⟩|refine ⟨by decide,?_⟩|apply τt|apply τf))
    intro c h5; cases c
    · have h6 := not_of h5
      dsimp only at h6
      obtain rfl : i = a.length := by omega
      (repeat((conv=>whnf);first|apply ω0|apply ω1|apply ω2|refine τ3 rfl ?_|refine τ4 rfl ?_|refine ⟨rfl,?_⟩|apply τa|refine τb rfl ?_|refine ⟨⟨by kernel_rfl,by kernel_rfl⟩,?_⟩|refine ⟨by decide,?_⟩|apply τt|apply τf))
      refine ret_tells rfl (le_bool ?_)
      unfold sameL
      rw [decide_eq_true hl, Bool.true_and, eq_comm, List.all_eq_true]
      intro j hj
      exact h4 j (List.mem_range.1 hj)
    · have h6 := yes_of h5
      dsimp only at h6
      have hi : i < a.length := by omega
      have hcall := same1_spec (a.getD i rul0) (b.getD i rul0) (hc _ (by simp [List.getD, hi]))
      (repeat((conv=>whnf);first|apply ω0|apply ω1|apply ω2|refine τ3 rfl ?_|refine τ4 rfl ?_|refine ⟨rfl,?_⟩|apply τa|refine τb rfl ?_|refine ⟨⟨by kernel_rfl,by kernel_rfl⟩,?_⟩|refine ⟨by decide,?_⟩|apply τt|apply τf))
      refine ⟨⟨by dsimp only; omega, by dsimp only; omega⟩, ?_⟩
      (repeat((conv=>whnf);first|apply ω0|apply ω1|apply ω2|refine τ3 rfl ?_|refine τ4 rfl ?_|refine ⟨rfl,?_⟩|apply τa|refine τb rfl ?_|refine ⟨⟨by kernel_rfl,by kernel_rfl⟩,?_⟩|refine ⟨by decide,?_⟩|apply τt|apply τf))
      refine ⟨⟨by dsimp only; omega, by dsimp only; omega⟩, ?_⟩
      (repeat((conv=>whnf);first|apply ω0|apply ω1|apply ω2|refine τ3 rfl ?_|refine τ4 rfl ?_|refine ⟨rfl,?_⟩|apply τa|refine τb rfl ?_|refine ⟨⟨by kernel_rfl,by kernel_rfl⟩,?_⟩|refine ⟨by decide,?_⟩|apply τt|apply τf))
      refine aop_tells rfl rfl hcall ⟨AVle.refl _, AVle.refl _, trivial⟩ fun nx3 => ?_
      intro d hd
      cases d
      · (repeat((conv=>whnf);first|apply ω0|apply ω1|apply ω2|refine τ3 rfl ?_|refine τ4 rfl ?_|refine ⟨rfl,?_⟩|apply τa|refine τb rfl ?_|refine ⟨⟨by kernel_rfl,by kernel_rfl⟩,?_⟩|refine ⟨by decide,?_⟩|apply τt|apply τf))
        refine ret_tells rfl (le_bool ?_)
        unfold sameL
        rw [eq_comm, Bool.and_eq_false_iff]
        refine .inr (List.all_eq_false.2 ⟨i, List.mem_range.2 hi, ?_⟩)
        rw [← hd]; decide
      · (repeat((conv=>whnf);first|apply ω0|apply ω1|apply ω2|refine τ3 rfl ?_|refine τ4 rfl ?_|refine ⟨rfl,?_⟩|apply τa|refine τb rfl ?_|refine ⟨⟨by kernel_rfl,by kernel_rfl⟩,?_⟩|refine ⟨by decide,?_⟩|apply τt|apply τf))
        refine back (i + 1, nx3) ⟨by dsimp only; omega, fun j hj => ?_⟩ (by dsimp only; omega) (ele_tell (pm := []) [] [] rfl rfl (List.nil_sublist _) (List.Sublist.refl _) trivial trivial ⟨AVle.refl _, AVle.refl _, AVle.refl _, AVle.refl _, le_int (wrap_succ (by dsimp only; omega)), trivial⟩)
        dsimp only at hj
        rcases Nat.lt_or_ge j i with h | h
        · exact h4 j h
        · obtain rfl : j = i := by omega
          exact hd.symm
def sameP (a b : Pol) : Bool := decide (a.dflt = b.dflt) && (decide (a.x32 = b.x32) && sameL a.rules b.rules)
theorem same_spec14 (a b : Pol) (ha : a.rules.length ≤ 1000000) (hc : ∀ r ∈ a.rules, r.conds.length ≤ 1000000) : Tells Tryz.prog 13 [polA a, polA b] (boolA (sameP a b)) := by
  have he := equalF_spec a.rules b.rules ha hc
  unfold sameP
  have hact := act_eqb (a := a.dflt) (b := b.dflt)
  generalize sameL a.rules b.rules = b3 at he ⊢
  generalize decide (a.dflt = b.dflt) = b2 at hact ⊢
  clear ha hc
  obtain ⟨⟨k1, m1⟩, x1, c1⟩ := a
  obtain ⟨⟨k2, m2⟩, x2, c2⟩ := b
  dsimp only at hact he ⊢
  refine tells_of_aw Tryz.func13 rfl rfl fun nx => ?_
  (repeat((conv=>whnf);first|apply ω0|apply ω1|apply ω2|refine τ3 rfl ?_|refine τ4 rfl ?_|refine ⟨rfl,?_⟩|apply τa|refine τb rfl ?_|refine ⟨⟨by kernel_rfl,by kernel_rfl⟩,?_⟩|refine ⟨by decide,?_⟩|apply τt|apply τf))
  intro c hc
  have hc2 : c = b2 := hc.trans hact
  cases c
  · (repeat((conv=>whnf);first|apply ω0|apply ω1|apply ω2|refine τ3 rfl ?_|refine τ4 rfl ?_|refine ⟨rfl,?_⟩|apply τa|refine τb rfl ?_|refine ⟨⟨by kernel_rfl,by kernel_rfl⟩,?_⟩|refine ⟨by decide,?_⟩|apply τt|apply τf))
    exact ret_tells rfl (le_bool (by rw [← hc2]; rfl))
  cases x1 <;> cases x2
  all_goals
    (repeat((conv=>whnf);first|apply ω0|apply ω1|apply ω2|refine τ3 rfl ?_|refine τ4 rfl ?_|refine ⟨rfl,?_⟩|apply τa|refine τb rfl ?_|refine ⟨⟨by kernel_rfl,by kernel_rfl⟩,?_⟩|refine ⟨by decide,?_⟩|apply τt|apply τf))
    first
    | (exact ret_tells rfl (le_bool (by rw [← hc2]; rfl)))
    | (refine aop_tells rfl rfl he ⟨AVle.refl _, AVle.refl _, AVle.refl _, trivial⟩ fun nx1 => ?_
       intro d hd
       cases d
       all_goals
         (repeat((conv=>whnf);first|apply ω0|apply ω1|apply ω2|refine τ3 rfl ?_|refine τ4 rfl ?_|refine ⟨rfl,?_⟩|apply τa|refine τb rfl ?_|refine ⟨⟨by kernel_rfl,by kernel_rfl⟩,?_⟩|refine ⟨by decide,?_⟩|apply τt|apply τf))
         exact ret_tells rfl (le_bool (by rw [← hc2, ← hd]; rfl)))
end Go.Proofs.W

namespace Go.Proofs.W
open Go.Vl
set_option maxRecDepth 100000

def okN (n : Nat) : Bool := (decide (97 ≤ n) && decide (n ≤ 122)) || (decide (48 ≤ n) && decide (n ≤ 57)) || decide (n = 95)
theorem signs_all : ∀ n, n < 256 → signsB.data.toList.contains (UInt8.ofNat n) = okN n := by decide +kernel
theorem letters_all : ∀ n, n < 256 → lettersB.data.toList.contains (UInt8.ofNat n) = (decide (97 ≤ n) && decide (n ≤ 122)) := by decide +kernel
theorem signs_ok (b : UInt8) : signsB.data.toList.contains b = okN b.toNat := by
  have := signs_all b.toNat b.toNat_lt
  rwa [UInt8.ofNat_toNat] at this
theorem letters_ok (b : UInt8) : lettersB.data.toList.contains b = (decide (97 ≤ b.toNat) && decide (b.toNat ≤ 122)) := by
  have := letters_all b.toNat b.toNat_lt
  rwa [UInt8.ofNat_toNat] at this
/-- As the reference asks. -/
theorem nameB_ref (l : List UInt8) : nameB l = true ↔ l.length ≠ 0 ∧ l.length ≤ 30 ∧ 97 ≤ (l.headD 0).toNat ∧ (l.headD 0).toNat ≤ 122 ∧ l ≠ defaultL ∧ l ≠ x32L ∧ ∀ j, j < l.length → okN (l.getD j 0).toNat = true := by
  unfold nameB
  simp only [Bool.and_eq_true, Bool.not_eq_true', beq_eq_false_iff_ne, decide_eq_true_eq, letters_ok, List.all_eq_true, signs_ok]
  constructor
  · rintro ⟨h1, h2, h3, h4, h5, h6, h7⟩
    refine ⟨fun h => h1 (List.length_eq_zero_iff.1 h), h4, h6, h7, h2, h3, fun j hj => ?_⟩
    exact h5 _ (by simp [List.getD, hj])
  · rintro ⟨h1, h2, h3, h4, h5, h6, h7⟩
    refine ⟨fun h => h1 (by rw [h]; rfl), h5, h6, h2, fun x hx => ?_, h3, h4⟩
    obtain ⟨j, hj, rfl⟩ := List.getElem_of_mem hx
    have := h7 j hj
    simpa [List.getD, hj] using this
theorem nameB_false {l : List UInt8} (h : ¬ (l.length ≠ 0 ∧ l.length ≤ 30 ∧ 97 ≤ (l.headD 0).toNat ∧ (l.headD 0).toNat ≤ 122 ∧ l ≠ defaultL ∧ l ≠ x32L ∧ ∀ j, j < l.length → okN (l.getD j 0).toNat = true)) : nameB l = false := by
  rw [← nameB_ref] at h
  simpa using h
theorem okN_in {n : Nat} (h : (97 ≤ n ∧ n ≤ 122) ∨ (48 ≤ n ∧ n ≤ 57) ∨ n = 95) : okN n = true := by
  unfold okN
  simp only [Bool.or_eq_true, Bool.and_eq_true, decide_eq_true_eq]
  omega
theorem okN_out {n : Nat} (h : ¬ ((97 ≤ n ∧ n ≤ 122) ∨ (48 ≤ n ∧ n ≤ 57) ∨ n = 95)) : okN n = false := by
  unfold okN
  simp only [Bool.or_eq_false_iff, Bool.and_eq_false_iff, decide_eq_false_iff_not]
  omega
theorem ba_get (s : ByteArray) (i : Nat) : s.data.getD i 0 = s.data.toList.getD i 0 := by
  simp [Array.getD_eq_getD_getElem?, List.getD]
theorem head_getD (l : List UInt8) : l.headD 0 = l.getD 0 0 := by cases l <;> rfl
set_option maxHeartbeats 1000000 in
theorem name11_spec (s : ByteArray) : Tells Tryz.prog 44 [strA s] (boolA (nameB s.data.toList)) := by
  have hsz : s.size = s.data.toList.length := rfl
  refine tells_of_aw Tryz.func44 rfl rfl fun nx => ?_
  (repeat((conv=>whnf);first|apply ω0|apply ω1|apply ω2|refine τ3 rfl ?_|refine τ4 rfl ?_|refine ⟨rfl,?_⟩|apply τa|refine τb rfl ?_|refine ⟨⟨by kernel_rfl,by kernel_rfl⟩,?_⟩|refine ⟨by decide,?_⟩|apply τt|apply τf))
  intro c t1; cases c
  rotate_left
  · have t1 : ((s.size : Nat) : Int) = 0 := fct_b1.1 t1
    (repeat((conv=>whnf);first|apply ω0|apply ω1|apply ω2|refine τ3 rfl ?_|refine τ4 rfl ?_|refine ⟨rfl,?_⟩|apply τa|refine τb rfl ?_|refine ⟨⟨by kernel_rfl,by kernel_rfl⟩,?_⟩|refine ⟨by decide,?_⟩|apply τt|apply τf))
    exact ret_tells rfl (le_bool (nameB_false (fun h => h.1 (by omega))).symm)
  have t1 : ((s.size : Nat) : Int) ≠ 0 := fct_b0.1 t1
  (repeat((conv=>whnf);first|apply ω0|apply ω1|apply ω2|refine τ3 rfl ?_|refine τ4 rfl ?_|refine ⟨rfl,?_⟩|apply τa|refine τb rfl ?_|refine ⟨⟨by kernel_rfl,by kernel_rfl⟩,?_⟩|refine ⟨by decide,?_⟩|apply τt|apply τf))
  intro c t2; cases c
  rotate_left
  · have t2 : ((s.size : Nat) : Int) > 30 := yes_of t2
    (repeat((conv=>whnf);first|apply ω0|apply ω1|apply ω2|refine τ3 rfl ?_|refine τ4 rfl ?_|refine ⟨rfl,?_⟩|apply τa|refine τb rfl ?_|refine ⟨⟨by kernel_rfl,by kernel_rfl⟩,?_⟩|refine ⟨by decide,?_⟩|apply τt|apply τf))
    exact ret_tells rfl (le_bool (nameB_false (fun h => absurd h.2.1 (by omega))).symm)
  have t2 : ¬ ((s.size : Nat) : Int) > 30 := not_of t2
  (repeat((conv=>whnf);first|apply ω0|apply ω1|apply ω2|refine τ3 rfl ?_|refine τ4 rfl ?_|refine ⟨rfl,?_⟩|apply τa|refine τb rfl ?_|refine ⟨⟨by kernel_rfl,by kernel_rfl⟩,?_⟩|refine ⟨by decide,?_⟩|apply τt|apply τf))
  refine ⟨⟨by decide, by show (0 : Int) < (s.size : Int); omega⟩, ?_⟩
  (repeat((conv=>whnf);first|apply ω0|apply ω1|apply ω2|refine τ3 rfl ?_|refine τ4 rfl ?_|refine ⟨rfl,?_⟩|apply τa|refine τb rfl ?_|refine ⟨⟨by kernel_rfl,by kernel_rfl⟩,?_⟩|refine ⟨by decide,?_⟩|apply τt|apply τf))
  intro c t3; cases c
  rotate_left
  · have t3 : (((s.data.getD 0 0).toNat : Nat) : Int) < 97 := yes_of t3
    rw [ba_get, ← head_getD] at t3
    (repeat((conv=>whnf);first|apply ω0|apply ω1|apply ω2|refine τ3 rfl ?_|refine τ4 rfl ?_|refine ⟨rfl,?_⟩|apply τa|refine τb rfl ?_|refine ⟨⟨by kernel_rfl,by kernel_rfl⟩,?_⟩|refine ⟨by decide,?_⟩|apply τt|apply τf))
    exact ret_tells rfl (le_bool (nameB_false (fun h => absurd h.2.2.1 (by omega))).symm)
  have t3 : ¬ (((s.data.getD 0 0).toNat : Nat) : Int) < 97 := not_of t3
  rw [ba_get, ← head_getD] at t3
  (repeat((conv=>whnf);first|apply ω0|apply ω1|apply ω2|refine τ3 rfl ?_|refine τ4 rfl ?_|refine ⟨rfl,?_⟩|apply τa|refine τb rfl ?_|refine ⟨⟨by kernel_rfl,by kernel_rfl⟩,?_⟩|refine ⟨by decide,?_⟩|apply τt|apply τf))
  refine ⟨⟨by decide, by show (0 : Int) < (s.size : Int); omega⟩, ?_⟩
  (repeat((conv=>whnf);first|apply ω0|apply ω1|apply ω2|refine τ3 rfl ?_|refine τ4 rfl ?_|refine ⟨rfl,?_⟩|apply τa|refine τb rfl ?_|refine ⟨⟨by kernel_rfl,by kernel_rfl⟩,?_⟩|refine ⟨by decide,?_⟩|apply τt|apply τf))
  intro c t4; cases c
  rotate_left
  · have t4 : (((s.data.getD 0 0).toNat : Nat) : Int) > 122 := yes_of t4
    rw [ba_get, ← head_getD] at t4
    (repeat((conv=>whnf);first|apply ω0|apply ω1|apply ω2|refine τ3 rfl ?_|refine τ4 rfl ?_|refine ⟨rfl,?_⟩|apply τa|refine τb rfl ?_|refine ⟨⟨by kernel_rfl,by kernel_rfl⟩,?_⟩|refine ⟨by decide,?_⟩|apply τt|apply τf))
    exact ret_tells rfl (le_bool (nameB_false (fun h => absurd h.2.2.2.1 (by omega))).symm)
  have t4 : ¬ (((s.data.getD 0 0).toNat : Nat) : Int) > 122 := not_of t4
  rw [ba_get, ← head_getD] at t4
  (repeat((conv=>whnf);first|apply ω0|apply ω1|apply ω2|refine τ3 rfl ?_|refine τ4 rfl ?_|refine ⟨rfl,?_⟩|apply τa|refine τb rfl ?_|refine ⟨⟨by kernel_rfl,by kernel_rfl⟩,?_⟩|refine ⟨by decide,?_⟩|apply τt|apply τf))
  intro c t5
  rw [Lib.toList_data, Lib.toList_data] at t5
  cases c
  rotate_left
  · have t5 : s.data.toList = defaultL := beq_iff_eq.1 t5.symm
    (repeat((conv=>whnf);first|apply ω0|apply ω1|apply ω2|refine τ3 rfl ?_|refine τ4 rfl ?_|refine ⟨rfl,?_⟩|apply τa|refine τb rfl ?_|refine ⟨⟨by kernel_rfl,by kernel_rfl⟩,?_⟩|refine ⟨by decide,?_⟩|apply τt|apply τf))
    exact ret_tells rfl (le_bool (nameB_false (fun h => h.2.2.2.2.1 t5)).symm)
  have t5 : ¬ s.data.toList = defaultL := beq_eq_false_iff_ne.1 t5.symm
  (repeat((conv=>whnf);first|apply ω0|apply ω1|apply ω2|refine τ3 rfl ?_|refine τ4 rfl ?_|refine ⟨rfl,?_⟩|apply τa|refine τb rfl ?_|refine ⟨⟨by kernel_rfl,by kernel_rfl⟩,?_⟩|refine ⟨by decide,?_⟩|apply τt|apply τf))
  intro c t6
  rw [Lib.toList_data, Lib.toList_data] at t6
  cases c
  rotate_left
  · have t6 : s.data.toList = x32L := beq_iff_eq.1 t6.symm
    (repeat((conv=>whnf);first|apply ω0|apply ω1|apply ω2|refine τ3 rfl ?_|refine τ4 rfl ?_|refine ⟨rfl,?_⟩|apply τa|refine τb rfl ?_|refine ⟨⟨by kernel_rfl,by kernel_rfl⟩,?_⟩|refine ⟨by decide,?_⟩|apply τt|apply τf))
    exact ret_tells rfl (le_bool (nameB_false (fun h => h.2.2.2.2.2.1 t6)).symm)
  have t6 : ¬ s.data.toList = x32L := beq_eq_false_iff_ne.1 t6.symm
  (repeat((conv=>whnf);first|apply ω0|apply ω1|apply ω2|refine τ3 rfl ?_|refine τ4 rfl ?_|refine ⟨rfl,?_⟩|apply τa|refine τb rfl ?_|refine ⟨⟨by kernel_rfl,by kernel_rfl⟩,?_⟩|refine ⟨by decide,?_⟩|apply τt|apply τf))
  refine aw_loop (fun y : Nat × Nat => mk 59 [(0, strA s), (3, int y.1)] ⟨[], [], y.2, 0⟩) (fun y => y.1 ≤ s.size ∧ ∀ j, j < y.1 → okN (s.data.toList.getD j 0).toNat = true) (fun y => s.size - y.1) ?_ ?_
  · exact ⟨(0, nx), ⟨Nat.zero_le _, fun j h => absurd h (Nat.not_lt_zero _)⟩, ele_mk rfl rfl ⟨AVle.refl _, AVle.refl _, trivial⟩⟩
  · rintro ⟨i, nx2⟩ ⟨h3, h4⟩
    dsimp only at h3 h4
    (repeat((conv=>whnf);first|apply ω0|apply ω1|apply ω2|refine τ3 rfl ?_|refine τ4 rfl ?_|refine ⟨rfl,?_⟩|apply τa|refine τb rfl ?_|refine ⟨⟨by kernel_rfl,by kernel_rfl⟩,?_⟩|refine ⟨by decide,?_⟩|apply τt|apply τf))
    intro c g; cases c
    · have g : ¬ ((i : Nat) : Int) < ((s.size : Nat) : Int) := not_of g
      obtain rfl : i = s.size := by omega
      have : nameB s.data.toList = true := (nameB_ref _).2 ⟨by omega, by omega, by omega, by omega, t5, t6, h4⟩
      rw [this]
      (repeat((conv=>whnf);first|apply ω0|apply ω1|apply ω2|refine τ3 rfl ?_|refine τ4 rfl ?_|refine ⟨rfl,?_⟩|apply τa|refine τb rfl ?_|refine ⟨⟨by kernel_rfl,by kernel_rfl⟩,?_⟩|refine ⟨by decide,?_⟩|apply τt|apply τf))
      exact ret_tells rfl (AVle.refl _)
    · have g : ((i : Nat) : Int) < ((s.size : Nat) : Int) := yes_of g
      have hbad : okN (s.data.toList.getD i 0).toNat = false → false = nameB s.data.toList := fun h => (nameB_false (fun hh => by have := hh.2.2.2.2.2.2 i (by omega); rw [h] at this; cases this)).symm
      (repeat((conv=>whnf);first|apply ω0|apply ω1|apply ω2|refine τ3 rfl ?_|refine τ4 rfl ?_|refine ⟨rfl,?_⟩|apply τa|refine τb rfl ?_|refine ⟨⟨by kernel_rfl,by kernel_rfl⟩,?_⟩|refine ⟨by decide,?_⟩|apply τt|apply τf))
      refine ⟨⟨by dsimp only; omega, by dsimp only; omega⟩, ?_⟩
      have hgood : okN (s.data.toList.getD i 0).toNat = true → ∀ j, j < i + 1 → okN (s.data.toList.getD j 0).toNat = true := fun h j hj => by
        rcases Nat.lt_or_ge j i with h1 | h1
        · exact h4 j h1
        · obtain rfl : j = i := by omega
          exact h
      have hval : (((s.data.getD i 0).toNat : Nat) : Int) = (((s.data.toList.getD i 0).toNat : Nat) : Int) := by rw [ba_get]
      generalize (s.data.toList.getD i 0).toNat = n at hbad hgood hval
      (repeat((conv=>whnf);first|apply ω0|apply ω1|apply ω2|refine τ3 rfl ?_|refine τ4 rfl ?_|refine ⟨rfl,?_⟩|apply τa|refine τb rfl ?_|refine ⟨⟨by kernel_rfl,by kernel_rfl⟩,?_⟩|refine ⟨by decide,?_⟩|apply τt|apply τf))
      intro c u1
      have u1 : c = decide ((n : Int) ≥ 97) := u1.trans (by rw [← hval]; rfl)
      cases c
      · have u1 : ¬ (n : Int) ≥ 97 := not_of u1
        (repeat((conv=>whnf);first|apply ω0|apply ω1|apply ω2|refine τ3 rfl ?_|refine τ4 rfl ?_|refine ⟨rfl,?_⟩|apply τa|refine τb rfl ?_|refine ⟨⟨by kernel_rfl,by kernel_rfl⟩,?_⟩|refine ⟨by decide,?_⟩|apply τt|apply τf))
        intro c u3
        have u3 : c = decide ((n : Int) ≥ 48) := u3.trans (by rw [← hval]; rfl)
        cases c
        · have u3 : ¬ (n : Int) ≥ 48 := not_of u3
          (repeat((conv=>whnf);first|apply ω0|apply ω1|apply ω2|refine τ3 rfl ?_|refine τ4 rfl ?_|refine ⟨rfl,?_⟩|apply τa|refine τb rfl ?_|refine ⟨⟨by kernel_rfl,by kernel_rfl⟩,?_⟩|refine ⟨by decide,?_⟩|apply τt|apply τf))
          intro c u5
          have u5 : c = ((n : Int) == 95) := u5.trans (by rw [← hval]; rfl)
          cases c
          · have u5 : (n : Int) ≠ 95 := fct_b0.1 u5
            (repeat((conv=>whnf);first|apply ω0|apply ω1|apply ω2|refine τ3 rfl ?_|refine τ4 rfl ?_|refine ⟨rfl,?_⟩|apply τa|refine τb rfl ?_|refine ⟨⟨by kernel_rfl,by kernel_rfl⟩,?_⟩|refine ⟨by decide,?_⟩|apply τt|apply τf))
            exact ret_tells rfl (le_bool (hbad (okN_out (by omega))))
          · have u5 : (n : Int) = 95 := fct_b1.1 u5
            (repeat((conv=>whnf);first|apply ω0|apply ω1|apply ω2|refine τ3 rfl ?_|refine τ4 rfl ?_|refine ⟨rfl,?_⟩|apply τa|refine τb rfl ?_|refine ⟨⟨by kernel_rfl,by kernel_rfl⟩,?_⟩|refine ⟨by decide,?_⟩|apply τt|apply τf))
            refine back (i + 1, nx2) ⟨by dsimp only; omega, hgood (okN_in (by omega))⟩ (by dsimp only; omega) (ele_mk rfl rfl ⟨AVle.refl _, le_int (wrap_succ (by dsimp only; omega)), trivial⟩)
        · have u3 : (n : Int) ≥ 48 := yes_of u3
          (repeat((conv=>whnf);first|apply ω0|apply ω1|apply ω2|refine τ3 rfl ?_|refine τ4 rfl ?_|refine ⟨rfl,?_⟩|apply τa|refine τb rfl ?_|refine ⟨⟨by kernel_rfl,by kernel_rfl⟩,?_⟩|refine ⟨by decide,?_⟩|apply τt|apply τf))
          intro c u4
          have u4 : c = decide ((n : Int) ≤ 57) := u4.trans (by rw [← hval]; rfl)
          cases c
          · have u4 : ¬ (n : Int) ≤ 57 := not_of u4
            (repeat((conv=>whnf);first|apply ω0|apply ω1|apply ω2|refine τ3 rfl ?_|refine τ4 rfl ?_|refine ⟨rfl,?_⟩|apply τa|refine τb rfl ?_|refine ⟨⟨by kernel_rfl,by kernel_rfl⟩,?_⟩|refine ⟨by decide,?_⟩|apply τt|apply τf))
            intro c u5
            have u5 : c = ((n : Int) == 95) := u5.trans (by rw [← hval]; rfl)
            cases c
            · have u5 : (n : Int) ≠ 95 := fct_b0.1 u5
              (repeat((conv=>whnf);first|apply ω0|apply ω1|apply ω2|refine τ3 rfl ?_|refine τ4 rfl ?_|refine ⟨rfl,?_⟩|apply τa|refine τb rfl ?_|refine ⟨⟨by kernel_rfl,by kernel_rfl⟩,?_⟩|refine ⟨by decide,?_⟩|apply τt|apply τf))
              exact ret_tells rfl (le_bool (hbad (okN_out (by omega))))
            · have u5 : (n : Int) = 95 := fct_b1.1 u5
              (repeat((conv=>whnf);first|apply ω0|apply ω1|apply ω2|refine τ3 rfl ?_|refine τ4 rfl ?_|refine ⟨rfl,?_⟩|apply τa|refine τb rfl ?_|refine ⟨⟨by kernel_rfl,by kernel_rfl⟩,?_⟩|refine ⟨by decide,?_⟩|apply τt|apply τf))
              refine back (i + 1, nx2) ⟨by dsimp only; omega, hgood (okN_in (by omega))⟩ (by dsimp only; omega) (ele_mk rfl rfl ⟨AVle.refl _, le_int (wrap_succ (by dsimp only; omega)), trivial⟩)
          · have u4 : (n : Int) ≤ 57 := yes_of u4
            (repeat((conv=>whnf);first|apply ω0|apply ω1|apply ω2|refine τ3 rfl ?_|refine τ4 rfl ?_|refine ⟨rfl,?_⟩|apply τa|refine τb rfl ?_|refine ⟨⟨by kernel_rfl,by kernel_rfl⟩,?_⟩|refine ⟨by decide,?_⟩|apply τt|apply τf))
            refine back (i + 1, nx2) ⟨by dsimp only; omega, hgood (okN_in (by omega))⟩ (by dsimp only; omega) (ele_mk rfl rfl ⟨AVle.refl _, le_int (wrap_succ (by dsimp only; omega)), trivial⟩)
      · have u1 : (n : Int) ≥ 97 := yes_of u1
        (repeat((conv=>whnf);first|apply ω0|apply ω1|apply ω2|refine τ3 rfl ?_|refine τ4 rfl ?_|refine ⟨rfl,?_⟩|apply τa|refine τb rfl ?_|refine ⟨⟨by kernel_rfl,by kernel_rfl⟩,?_⟩|refine ⟨by decide,?_⟩|apply τt|apply τf))
        intro c u2
        have u2 : c = decide ((n : Int) ≤ 122) := u2.trans (by rw [← hval]; rfl)
        cases c
        · have u2 : ¬ (n : Int) ≤ 122 := not_of u2
          (repeat((conv=>whnf);first|apply ω0|apply ω1|apply ω2|refine τ3 rfl ?_|refine τ4 rfl ?_|refine ⟨rfl,?_⟩|apply τa|refine τb rfl ?_|refine ⟨⟨by kernel_rfl,by kernel_rfl⟩,?_⟩|refine ⟨by decide,?_⟩|apply τt|apply τf))
          intro c u3
          have u3 : c = decide ((n : Int) ≥ 48) := u3.trans (by rw [← hval]; rfl)
          cases c
          · have u3 : ¬ (n : Int) ≥ 48 := not_of u3
            (repeat((conv=>whnf);first|apply ω0|apply ω1|apply ω2|refine τ3 rfl ?_|refine τ4 rfl ?_|refine ⟨rfl,?_⟩|apply τa|refine τb rfl ?_|refine ⟨⟨by kernel_rfl,by kernel_rfl⟩,?_⟩|refine ⟨by decide,?_⟩|apply τt|apply τf))
            intro c u5
            have u5 : c = ((n : Int) == 95) := u5.trans (by rw [← hval]; rfl)
            cases c
            · have u5 : (n : Int) ≠ 95 := fct_b0.1 u5
              (repeat((conv=>whnf);first|apply ω0|apply ω1|apply ω2|refine τ3 rfl ?_|refine τ4 rfl ?_|refine ⟨rfl,?_⟩|apply τa|refine τb rfl ?_|refine ⟨⟨by kernel_rfl,by kernel_rfl⟩,?_⟩|refine ⟨by decide,?_⟩|apply τt|apply τf))
              exact ret_tells rfl (le_bool (hbad (okN_out (by omega))))
            · have u5 : (n : Int) = 95 := fct_b1.1 u5
              (repeat((conv=>whnf);first|apply ω0|apply ω1|apply ω2|refine τ3 rfl ?_|refine τ4 rfl ?_|refine ⟨rfl,?_⟩|apply τa|refine τb rfl ?_|refine ⟨⟨by kernel_rfl,by kernel_rfl⟩,?_⟩|refine ⟨by decide,?_⟩|apply τt|apply τf))
              refine back (i + 1, nx2) ⟨by dsimp only; omega, hgood (okN_in (by omega))⟩ (by dsimp only; omega) (ele_mk rfl rfl ⟨AVle.refl _, le_int (wrap_succ (by dsimp only; omega)), trivial⟩)
          · have u3 : (n : Int) ≥ 48 := yes_of u3
            (repeat((conv=>whnf);first|apply ω0|apply ω1|apply ω2|refine τ3 rfl ?_|refine τ4 rfl ?_|refine ⟨rfl,?_⟩|apply τa|refine τb rfl ?_|refine ⟨⟨by kernel_rfl,by kernel_rfl⟩,?_⟩|refine ⟨by decide,?_⟩|apply τt|apply τf))
            intro c u4
            have u4 : c = decide ((n : Int) ≤ 57) := u4.trans (by rw [← hval]; rfl)
            cases c
            · have u4 : ¬ (n : Int) ≤ 57 := not_of u4
              (repeat((conv=>whnf);first|apply ω0|apply ω1|apply ω2|refine τ3 rfl ?_|refine τ4 rfl ?_|refine ⟨rfl,?_⟩|apply τa|refine τb rfl ?_|refine ⟨⟨by kernel_rfl,by kernel_rfl⟩,?_⟩|refine ⟨by decide,?_⟩|apply τt|apply τf))
              intro c u5
              have u5 : c = ((n : Int) == 95) := u5.trans (by rw [← hval]; rfl)
              cases c
              · have u5 : (n : Int) ≠ 95 := fct_b0.1 u5
                (repeat((conv=>whnf);first|apply ω0|apply ω1|apply ω2|refine τ3 rfl ?_|refine τ4 rfl ?_|refine ⟨rfl,?_⟩|apply τa|refine τb rfl ?_|refine ⟨⟨by kernel_rfl,by kernel_rfl⟩,?_⟩|refine ⟨by decide,?_⟩|apply τt|apply τf))
                exact ret_tells rfl (le_bool (hbad (okN_out (by omega))))
              · have u5 : (n : Int) = 95 := fct_b1.1 u5
                (repeat((conv=>whnf);first|apply ω0|apply ω1|apply ω2|refine τ3 rfl ?_|refine τ4 rfl ?_|refine ⟨rfl,?_⟩|apply τa|refine τb rfl ?_|refine ⟨⟨by kernel_rfl,by kernel_rfl⟩,?_⟩|refine ⟨by decide,?_⟩|apply τt|apply τf))
                refine back (i + 1, nx2) ⟨by dsimp only; omega, hgood (okN_in (by omega))⟩ (by dsimp only; omega) (ele_mk rfl rfl ⟨AVle.refl _, le_int (wrap_succ (by dsimp only; omega)), trivial⟩)
            · have u4 : (n : Int) ≤ 57 := yes_of u4
              (repeat((conv=>whnf);first|apply ω0|apply ω1|apply ω2|refine τ3 rfl ?_|refine τ4 rfl ?_|refine ⟨rfl,?_⟩|apply τa|refine τb rfl ?_|refine ⟨⟨by kernel_rfl,by kernel_rfl⟩,?_⟩|refine ⟨by decide,?_⟩|apply τt|apply τf))
              refine back (i + 1, nx2) ⟨by dsimp only; omega, hgood (okN_in (by omega))⟩ (by dsimp only; omega) (ele_mk rfl rfl ⟨AVle.refl _, le_int (wrap_succ (by dsimp only; omega)), trivial⟩)
        · have u2 : (n : Int) ≤ 122 := yes_of u2
          (repeat((conv=>whnf);first|apply ω0|apply ω1|apply ω2|refine τ3 rfl ?_|refine τ4 rfl ?_|refine ⟨rfl,?_⟩|apply τa|refine τb rfl ?_|refine ⟨⟨by kernel_rfl,by kernel_rfl⟩,?_⟩|refine ⟨by decide,?_⟩|apply τt|apply τf))
          refine back (i + 1, nx2) ⟨by dsimp only; omega, hgood (okN_in (by omega))⟩ (by dsimp only; omega) (ele_mk rfl rfl ⟨AVle.refl _, le_int (wrap_succ (by dsimp only; omega)), trivial⟩)
end Go.Proofs.W

namespace Go.Proofs.W
open Go.Vl
set_option maxRecDepth 100000

theorem right9_spec (k n : Int) : Tells Tryz.prog 14 [act k n] (boolA (right9 k n)) := by
  refine tells_of_aw Tryz.func14 rfl rfl fun nx => ?_
  (repeat((conv=>whnf);first|apply ω0|apply ω1|apply ω2|refine τ3 rfl ?_|refine τ4 rfl ?_|refine ⟨rfl,?_⟩|apply τa|refine τb rfl ?_|refine ⟨⟨by kernel_rfl,by kernel_rfl⟩,?_⟩|refine ⟨by decide,?_⟩|apply τt|apply τf))
  (refine aw_draw 21 ?_ ?_ ?_ ?_; (· kernel_rfl); (· kernel_rfl); (· kernel_rfl))
  (repeat((conv=>whnf);first|apply ω0|apply ω1|apply ω2|refine τ3 rfl ?_|refine τ4 rfl ?_|refine ⟨rfl,?_⟩|apply τa|refine τb rfl ?_|refine ⟨⟨by kernel_rfl,by kernel_rfl⟩,?_⟩|refine ⟨by decide,?_⟩|apply τt|apply τf))
  intro c h1; cases c
  · (repeat((conv=>whnf);first|apply ω0|apply ω1|apply ω2|refine τ3 rfl ?_|refine τ4 rfl ?_|refine ⟨rfl,?_⟩|apply τa|refine τb rfl ?_|refine ⟨⟨by kernel_rfl,by kernel_rfl⟩,?_⟩|refine ⟨by decide,?_⟩|apply τt|apply τf))
    refine ret_tells rfl (le_bool ?_)
    simp at h1; simp [right9]; omega
  (repeat((conv=>whnf);first|apply ω0|apply ω1|apply ω2|refine τ3 rfl ?_|refine τ4 rfl ?_|refine ⟨rfl,?_⟩|apply τa|refine τb rfl ?_|refine ⟨⟨by kernel_rfl,by kernel_rfl⟩,?_⟩|refine ⟨by decide,?_⟩|apply τt|apply τf))
  intro c h2; cases c
  · (repeat((conv=>whnf);first|apply ω0|apply ω1|apply ω2|refine τ3 rfl ?_|refine τ4 rfl ?_|refine ⟨rfl,?_⟩|apply τa|refine τb rfl ?_|refine ⟨⟨by kernel_rfl,by kernel_rfl⟩,?_⟩|refine ⟨by decide,?_⟩|apply τt|apply τf))
    refine ret_tells rfl (le_bool ?_)
    simp at h1 h2; simp [right9]; omega
  (repeat((conv=>whnf);first|apply ω0|apply ω1|apply ω2|refine τ3 rfl ?_|refine τ4 rfl ?_|refine ⟨rfl,?_⟩|apply τa|refine τb rfl ?_|refine ⟨⟨by kernel_rfl,by kernel_rfl⟩,?_⟩|refine ⟨by decide,?_⟩|apply τt|apply τf))
  intro c h3; cases c
  · (repeat((conv=>whnf);first|apply ω0|apply ω1|apply ω2|refine τ3 rfl ?_|refine τ4 rfl ?_|refine ⟨rfl,?_⟩|apply τa|refine τb rfl ?_|refine ⟨⟨by kernel_rfl,by kernel_rfl⟩,?_⟩|refine ⟨by decide,?_⟩|apply τt|apply τf))
    refine ret_tells rfl (le_bool ?_)
    simp at h1 h2 h3; simp [right9]; omega
  (repeat((conv=>whnf);first|apply ω0|apply ω1|apply ω2|refine τ3 rfl ?_|refine τ4 rfl ?_|refine ⟨rfl,?_⟩|apply τa|refine τb rfl ?_|refine ⟨⟨by kernel_rfl,by kernel_rfl⟩,?_⟩|refine ⟨by decide,?_⟩|apply τt|apply τf))
  refine ex_yields (yields_tells rfl rfl (most9_spec k) ⟨AVle.refl _, trivial⟩ (NoId.v _)) ?_
  intro c h4; cases c
  · (repeat((conv=>whnf);first|apply ω0|apply ω1|apply ω2|refine τ3 rfl ?_|refine τ4 rfl ?_|refine ⟨rfl,?_⟩|apply τa|refine τb rfl ?_|refine ⟨⟨by kernel_rfl,by kernel_rfl⟩,?_⟩|refine ⟨by decide,?_⟩|apply τt|apply τf))
    refine ret_tells rfl (le_bool ?_)
    simp at h1 h2 h3 h4; simp [right9]; omega
  (repeat((conv=>whnf);first|apply ω0|apply ω1|apply ω2|refine τ3 rfl ?_|refine τ4 rfl ?_|refine ⟨rfl,?_⟩|apply τa|refine τb rfl ?_|refine ⟨⟨by kernel_rfl,by kernel_rfl⟩,?_⟩|refine ⟨by decide,?_⟩|apply τt|apply τf))
  refine ret_tells rfl (le_bool ?_)
  simp at h1 h2 h3 h4; simp [right9]; omega
end Go.Proofs.W

namespace Go.Proofs.W
open Go.Vl
set_option maxRecDepth 100000

theorem light_l26 (p : Pol) (hl : p.rules.length ≤ maxLen) : Tells Tryz.prog 16 [polA p] (boolA (lightP p)) := by
  obtain ⟨⟨k, n⟩, x, rs⟩ := p
  dsimp only at hl
  refine tells_of_aw Tryz.func16 rfl rfl fun nx => ?_
  (repeat((conv=>whnf);first|apply ω0|apply ω1|apply ω2|refine τ3 rfl ?_|refine τ4 rfl ?_|refine ⟨rfl,?_⟩|apply τa|refine τb rfl ?_|refine ⟨⟨by kernel_rfl,by kernel_rfl⟩,?_⟩|refine ⟨by decide,?_⟩|apply τt|apply τf))
  intro c g1; cases c
  rotate_left
  · (repeat((conv=>whnf);first|apply ω0|apply ω1|apply ω2|refine τ3 rfl ?_|refine τ4 rfl ?_|refine ⟨rfl,?_⟩|apply τa|refine τb rfl ?_|refine ⟨⟨by kernel_rfl,by kernel_rfl⟩,?_⟩|refine ⟨by decide,?_⟩|apply τt|apply τf))
    have g1 : ((rs.length : Nat) : Int) > 40 := yes_of g1
    exact ret_tells rfl (le_bool (by show false = (decide (rs.length ≤ 40) && _); rw [decide_eq_false (by omega)]; rfl))
  have g1 : ¬ ((rs.length : Nat) : Int) > 40 := not_of g1
  have h40 : rs.length ≤ 40 := by omega
  (repeat((conv=>whnf);first|apply ω0|apply ω1|apply ω2|refine τ3 rfl ?_|refine τ4 rfl ?_|refine ⟨rfl,?_⟩|apply τa|refine τb rfl ?_|refine ⟨⟨by kernel_rfl,by kernel_rfl⟩,?_⟩|refine ⟨by decide,?_⟩|apply τt|apply τf))
  refine aw_loop (fun s : Nat × Nat => mk 33 [(1, .bp (0, nx) 0), (3, int s.1)] ⟨[((0, nx), .c [int k, int n, boolA x, ruls rs])], [], s.2, 1⟩) (fun s => s.1 ≤ rs.length ∧ ∀ j, j < s.1 → lightR (rs.getD j rul0) = true) (fun s => rs.length - s.1) ?_ ?_
  · exact ⟨(0, nx + 1), ⟨Nat.zero_le _, fun j h => absurd h (Nat.not_lt_zero _)⟩, ele_tell (pm := []) _ [] rfl rfl (List.Sublist.refl _) (List.Sublist.refl _) ⟨rfl, OwnLe.refl _, trivial⟩ trivial ⟨AVle.refl _, AVle.refl _, trivial⟩⟩
  · rintro ⟨i, nx2⟩ ⟨h3, h4⟩
    dsimp only at h3 h4
    (repeat((conv=>whnf);first|apply ω0|apply ω1|apply ω2|refine τ3 rfl ?_|refine τ4 rfl ?_|refine ⟨rfl,?_⟩|apply τa|refine τb rfl ?_|refine ⟨⟨by kernel_rfl,by kernel_rfl⟩,?_⟩|refine ⟨by decide,?_⟩|apply τt|apply τf))
    intro c h5; cases c
    · have h6 := not_of h5
      dsimp only at h6
      obtain rfl : i = rs.length := by omega
      (repeat((conv=>whnf);first|apply ω0|apply ω1|apply ω2|refine τ3 rfl ?_|refine τ4 rfl ?_|refine ⟨rfl,?_⟩|apply τa|refine τb rfl ?_|refine ⟨⟨by kernel_rfl,by kernel_rfl⟩,?_⟩|refine ⟨by decide,?_⟩|apply τt|apply τf))
      refine ret_tells rfl (le_bool ?_)
      show true = (decide (rs.length ≤ 40) && rs.all lightR)
      rw [decide_eq_true h40, Bool.true_and, eq_comm, List.all_eq_true]
      intro r hr
      obtain ⟨j, hj, rfl⟩ := List.getElem_of_mem hr
      have := h4 j hj
      simpa [List.getD, hj] using this
    · have h6 := yes_of h5
      dsimp only at h6
      have hi : i < rs.length := by omega
      have hbad : ∀ b : Bool, lightR (rs.getD i rul0) = false → false = lightP ⟨(k, n), x, rs⟩ := fun b hb => by
        show false = (decide (rs.length ≤ 40) && rs.all lightR)
        rw [decide_eq_true h40, Bool.true_and, eq_comm, List.all_eq_false]
        exact ⟨rs.getD i rul0, by simp [List.getD, hi], by rw [hb]; decide⟩
      (repeat((conv=>whnf);first|apply ω0|apply ω1|apply ω2|refine τ3 rfl ?_|refine τ4 rfl ?_|refine ⟨rfl,?_⟩|apply τa|refine τb rfl ?_|refine ⟨⟨by kernel_rfl,by kernel_rfl⟩,?_⟩|refine ⟨by decide,?_⟩|apply τt|apply τf))
      refine ⟨⟨by dsimp only; omega, by dsimp only; omega⟩, ?_⟩
      (repeat((conv=>whnf);first|apply ω0|apply ω1|apply ω2|refine τ3 rfl ?_|refine τ4 rfl ?_|refine ⟨rfl,?_⟩|apply τa|refine τb rfl ?_|refine ⟨⟨by kernel_rfl,by kernel_rfl⟩,?_⟩|refine ⟨by decide,?_⟩|apply τt|apply τf))
      intro c t1; cases c
      · have t1 : ¬ (((rs.getD i rul0).name.size : Nat) : Int) > 60 := not_of t1
        (repeat((conv=>whnf);first|apply ω0|apply ω1|apply ω2|refine τ3 rfl ?_|refine τ4 rfl ?_|refine ⟨rfl,?_⟩|apply τa|refine τb rfl ?_|refine ⟨⟨by kernel_rfl,by kernel_rfl⟩,?_⟩|refine ⟨by decide,?_⟩|apply τt|apply τf))
        refine ⟨⟨by dsimp only; omega, by dsimp only; omega⟩, ?_⟩
        (repeat((conv=>whnf);first|apply ω0|apply ω1|apply ω2|refine τ3 rfl ?_|refine τ4 rfl ?_|refine ⟨rfl,?_⟩|apply τa|refine τb rfl ?_|refine ⟨⟨by kernel_rfl,by kernel_rfl⟩,?_⟩|refine ⟨by decide,?_⟩|apply τt|apply τf))
        intro c t2; cases c
        · have t2 : ¬ (((rs.getD i rul0).conds.length : Nat) : Int) > 12 := not_of t2
          (repeat((conv=>whnf);first|apply ω0|apply ω1|apply ω2|refine τ3 rfl ?_|refine τ4 rfl ?_|refine ⟨rfl,?_⟩|apply τa|refine τb rfl ?_|refine ⟨⟨by kernel_rfl,by kernel_rfl⟩,?_⟩|refine ⟨by decide,?_⟩|apply τt|apply τf))
          refine back (i + 1, nx2) ⟨by dsimp only; omega, fun j hj => ?_⟩ (by dsimp only; omega) (ele_tell (pm := []) _ [] rfl rfl (List.Sublist.refl _) (List.Sublist.refl _) ⟨rfl, OwnLe.refl _, trivial⟩ trivial ⟨AVle.refl _, le_int (wrap_succ (by dsimp only; omega)), trivial⟩)
          dsimp only at hj
          rcases Nat.lt_or_ge j i with h | h
          · exact h4 j h
          · obtain rfl : j = i := by omega
            unfold lightR
            rw [decide_eq_true (by omega), decide_eq_true (by omega)]; rfl
        · have t2 : (((rs.getD i rul0).conds.length : Nat) : Int) > 12 := yes_of t2
          (repeat((conv=>whnf);first|apply ω0|apply ω1|apply ω2|refine τ3 rfl ?_|refine τ4 rfl ?_|refine ⟨rfl,?_⟩|apply τa|refine τb rfl ?_|refine ⟨⟨by kernel_rfl,by kernel_rfl⟩,?_⟩|refine ⟨by decide,?_⟩|apply τt|apply τf))
          exact ret_tells rfl (le_bool (hbad true (by unfold lightR; rw [decide_eq_false (p := (rs.getD i rul0).conds.length ≤ 12) (by omega), Bool.and_false])))
      · have t1 : (((rs.getD i rul0).name.size : Nat) : Int) > 60 := yes_of t1
        (repeat((conv=>whnf);first|apply ω0|apply ω1|apply ω2|refine τ3 rfl ?_|refine τ4 rfl ?_|refine ⟨rfl,?_⟩|apply τa|refine τb rfl ?_|refine ⟨⟨by kernel_rfl,by kernel_rfl⟩,?_⟩|refine ⟨by decide,?_⟩|apply τt|apply τf))
        exact ret_tells rfl (le_bool (hbad true (by unfold lightR; rw [decide_eq_false (p := (rs.getD i rul0).name.size ≤ 60) (by omega), Bool.false_and])))
end Go.Proofs.W

namespace Go.Proofs.W
open Go.Vl
set_option maxRecDepth 100000

theorem bit30 (n : Nat) : decide (n &&& 1073741824 ≠ 0) = decide (n / 1073741824 % 2 = 1) := by
  have hlo : n % 1073741824 < 2 ^ 30 := Nat.mod_lt _ (by decide)
  have e1 : n = 2 ^ 30 * (n / 1073741824) + n % 1073741824 := by have := Nat.div_add_mod n 1073741824; show n = 1073741824 * _ + _; omega
  have hs := and_split (c := n / 1073741824) (lo := n % 1073741824) (d := 1) (m := 0) (i := 30) hlo (by decide)
  rw [← e1, Nat.and_one_is_mod, Nat.and_zero, show (2 ^ 30 * 1 + 0 : Nat) = 1073741824 by decide] at hs
  rw [hs]
  have : n / 1073741824 % 2 = 0 ∨ n / 1073741824 % 2 = 1 := by omega
  rcases this with q | q <;> rw [q] <;> decide
theorem withB_eq (n : Nat) : withB n = (decide (n ≠ 4294967295) && decide (n / 1073741824 % 2 = 1)) := by
  unfold withB; rw [bit30, Bool.and_comm]
theorem quo30 {n : Nat} (h : n < 4294967296) : (IntKind.u32.wrap ((n : Int).tdiv 1073741824)).tmod 2 = ((n / 1073741824 % 2 : Nat) : Int) := by
  have e : (n : Int).tdiv 1073741824 = ((n / 1073741824 : Nat) : Int) := (Int.ofNat_tdiv n 1073741824).symm
  rw [e]
  have e2 : IntKind.u32.wrap ((n / 1073741824 : Nat) : Int) = ((n / 1073741824 : Nat) : Int) := by
    have : n / 1073741824 < 4 := by omega
    simp [IntKind.wrap, IntKind.signed, IntKind.bits]; omega
  rw [e2]
  exact (Int.ofNat_tmod (n / 1073741824) 2).symm
def selI (arch num : Nat) : Int := match selO arch num with
  | some a => a
  | none => -1
theorem sel_2 (num : Nat) : selI 1073741827 num = 2 := by unfold selI selO; cases withB num <;> rfl
theorem sel_3 (num : Nat) : selI 3221225655 num = 3 := by unfold selI selO; cases withB num <;> rfl
theorem sel_4 (num : Nat) : selI 3221225715 num = 4 := by unfold selI selO; cases withB num <;> rfl
theorem sel_01 (num : Nat) : selI 3221225534 num = if withB num then 1 else 0 := by unfold selI selO; cases withB num <;> rfl
theorem sel_x {arch num : Nat} (h2 : arch ≠ 1073741827) (h3 : arch ≠ 3221225655) (h4 : arch ≠ 3221225715) (h0 : arch ≠ 3221225534) : selI arch num = -1 := by
  unfold selI selO
  have : infN.find? (selB arch (withB num)) = none := by
    refine List.find?_eq_none.2 fun x hx => ?_
    unfold infN at hx
    simp only [List.mem_cons, List.not_mem_nil, or_false] at hx
    rw [Bool.not_eq_true]
    unfold selB
    rw [Bool.and_eq_false_iff]
    left
    rw [decide_eq_false_iff_not]
    rcases hx with rfl | rfl | rfl | rfl | rfl <;> (intro e; exact absurd e.symm (by assumption))
  rw [this]; rfl
theorem ref08sel_spec (arch num : Nat) (ha : arch < 4294967296) (hn : num < 4294967296) : Tells Tryz.prog 33 [u32 arch, u32 num] (int (selI arch num)) := by
  by_cases h2 : arch = 1073741827
  · subst h2
    rw [sel_2]
    refine tells_of_aw Tryz.func33 rfl rfl fun nx => ?_
    (repeat((conv=>whnf);first|apply ω0|apply ω1|apply ω2|refine τ3 rfl ?_|refine τ4 rfl ?_|refine ⟨rfl,?_⟩|apply τa|refine τb rfl ?_|refine ⟨⟨by kernel_rfl,by kernel_rfl⟩,?_⟩|refine ⟨by decide,?_⟩|apply τt|apply τf))
    exact ret_tells rfl (AVle.refl _)
  by_cases h3 : arch = 3221225655
  · subst h3
    rw [sel_3]
    refine tells_of_aw Tryz.func33 rfl rfl fun nx => ?_
    (repeat((conv=>whnf);first|apply ω0|apply ω1|apply ω2|refine τ3 rfl ?_|refine τ4 rfl ?_|refine ⟨rfl,?_⟩|apply τa|refine τb rfl ?_|refine ⟨⟨by kernel_rfl,by kernel_rfl⟩,?_⟩|refine ⟨by decide,?_⟩|apply τt|apply τf))
    exact ret_tells rfl (AVle.refl _)
  by_cases h4 : arch = 3221225715
  · subst h4
    rw [sel_4]
    refine tells_of_aw Tryz.func33 rfl rfl fun nx => ?_
    (repeat((conv=>whnf);first|apply ω0|apply ω1|apply ω2|refine τ3 rfl ?_|refine τ4 rfl ?_|refine ⟨rfl,?_⟩|apply τa|refine τb rfl ?_|refine ⟨⟨by kernel_rfl,by kernel_rfl⟩,?_⟩|refine ⟨by decide,?_⟩|apply τt|apply τf))
    exact ret_tells rfl (AVle.refl _)
  by_cases h0 : arch = 3221225534
  · subst h0
    rw [sel_01, withB_eq]
    refine tells_of_aw Tryz.func33 rfl rfl fun nx => ?_
    (repeat((conv=>whnf);first|apply ω0|apply ω1|apply ω2|refine τ3 rfl ?_|refine τ4 rfl ?_|refine ⟨rfl,?_⟩|apply τa|refine τb rfl ?_|refine ⟨⟨by kernel_rfl,by kernel_rfl⟩,?_⟩|refine ⟨by decide,?_⟩|apply τt|apply τf))
    intro c hc
    have hc2 : c = decide (num ≠ 4294967295) := by rw [hc, Bool.eq_iff_iff]; simp; omega
    clear hc
    rw [← hc2]
    clear hc2
    cases c
    · (repeat((conv=>whnf);first|apply ω0|apply ω1|apply ω2|refine τ3 rfl ?_|refine τ4 rfl ?_|refine ⟨rfl,?_⟩|apply τa|refine τb rfl ?_|refine ⟨⟨by kernel_rfl,by kernel_rfl⟩,?_⟩|refine ⟨by decide,?_⟩|apply τt|apply τf))
      exact ret_tells rfl (AVle.refl _)
    · (repeat((conv=>whnf);first|apply ω0|apply ω1|apply ω2|refine τ3 rfl ?_|refine τ4 rfl ?_|refine ⟨rfl,?_⟩|apply τa|refine τb rfl ?_|refine ⟨⟨by kernel_rfl,by kernel_rfl⟩,?_⟩|refine ⟨by decide,?_⟩|apply τt|apply τf))
      intro c hc
      have hc2 : c = decide (num / 1073741824 % 2 = 1) := by rw [hc, quo30 hn, Bool.eq_iff_iff]; simp; omega
      clear hc
      rw [← hc2]
      clear hc2
      cases c
      all_goals
        (repeat((conv=>whnf);first|apply ω0|apply ω1|apply ω2|refine τ3 rfl ?_|refine τ4 rfl ?_|refine ⟨rfl,?_⟩|apply τa|refine τb rfl ?_|refine ⟨⟨by kernel_rfl,by kernel_rfl⟩,?_⟩|refine ⟨by decide,?_⟩|apply τt|apply τf))
        exact ret_tells rfl (AVle.refl _)
  · rw [sel_x h2 h3 h4 h0]
    refine tells_of_aw Tryz.func33 rfl rfl fun nx => ?_
    (repeat((conv=>whnf);first|apply ω0|apply ω1|apply ω2|refine τ3 rfl ?_|refine τ4 rfl ?_|refine ⟨rfl,?_⟩|apply τa|refine τb rfl ?_|refine ⟨⟨by kernel_rfl,by kernel_rfl⟩,?_⟩|refine ⟨by decide,?_⟩|apply τt|apply τf))
    intro c hc
    obtain rfl : c = false := hc.trans (by simp; omega)
    (repeat((conv=>whnf);first|apply ω0|apply ω1|apply ω2|refine τ3 rfl ?_|refine τ4 rfl ?_|refine ⟨rfl,?_⟩|apply τa|refine τb rfl ?_|refine ⟨⟨by kernel_rfl,by kernel_rfl⟩,?_⟩|refine ⟨by decide,?_⟩|apply τt|apply τf))
    intro c hc
    obtain rfl : c = false := hc.trans (by simp; omega)
    (repeat((conv=>whnf);first|apply ω0|apply ω1|apply ω2|refine τ3 rfl ?_|refine τ4 rfl ?_|refine ⟨rfl,?_⟩|apply τa|refine τb rfl ?_|refine ⟨⟨by kernel_rfl,by kernel_rfl⟩,?_⟩|refine ⟨by decide,?_⟩|apply τt|apply τf))
    intro c hc
    obtain rfl : c = false := hc.trans (by simp; omega)
    (repeat((conv=>whnf);first|apply ω0|apply ω1|apply ω2|refine τ3 rfl ?_|refine τ4 rfl ?_|refine ⟨rfl,?_⟩|apply τa|refine τb rfl ?_|refine ⟨⟨by kernel_rfl,by kernel_rfl⟩,?_⟩|refine ⟨by decide,?_⟩|apply τt|apply τf))
    intro c hc
    obtain rfl : c = false := hc.trans (by simp; omega)
    (repeat((conv=>whnf);first|apply ω0|apply ω1|apply ω2|refine τ3 rfl ?_|refine τ4 rfl ?_|refine ⟨rfl,?_⟩|apply τa|refine τb rfl ?_|refine ⟨⟨by kernel_rfl,by kernel_rfl⟩,?_⟩|refine ⟨by decide,?_⟩|apply τt|apply τf))
    exact ret_tells rfl (AVle.refl _)
theorem ref08own_spec (a num : Nat) (hn : num < 4294967296) : Tells Tryz.prog 50 [int a, u32 num] (u32 (ownI a num)) := by
  unfold ownI
  by_cases h : a = 1
  · subst h
    refine tells_of_aw Tryz.func50 rfl rfl fun nx => ?_
    (repeat((conv=>whnf);first|apply ω0|apply ω1|apply ω2|refine τ3 rfl ?_|refine τ4 rfl ?_|refine ⟨rfl,?_⟩|apply τa|refine τb rfl ?_|refine ⟨⟨by kernel_rfl,by kernel_rfl⟩,?_⟩|refine ⟨by decide,?_⟩|apply τt|apply τf))
    intro c hc
    have hc2 : c = decide (num / 1073741824 % 2 = 1) := by rw [hc, quo30 hn, Bool.eq_iff_iff]; simp; omega
    clear hc
    cases c
    · rw [if_neg (fun q => by rw [decide_eq_true q.2] at hc2; cases hc2)]
      (repeat((conv=>whnf);first|apply ω0|apply ω1|apply ω2|refine τ3 rfl ?_|refine τ4 rfl ?_|refine ⟨rfl,?_⟩|apply τa|refine τb rfl ?_|refine ⟨⟨by kernel_rfl,by kernel_rfl⟩,?_⟩|refine ⟨by decide,?_⟩|apply τt|apply τf))
      exact ret_tells rfl (AVle.refl _)
    · have q : num / 1073741824 % 2 = 1 := of_decide_eq_true hc2.symm
      rw [if_pos ⟨rfl, q⟩]
      clear hc2
      (repeat((conv=>whnf);first|apply ω0|apply ω1|apply ω2|refine τ3 rfl ?_|refine τ4 rfl ?_|refine ⟨rfl,?_⟩|apply τa|refine τb rfl ?_|refine ⟨⟨by kernel_rfl,by kernel_rfl⟩,?_⟩|refine ⟨by decide,?_⟩|apply τt|apply τf))
      refine ret_tells rfl (AVle.of_eq (congrArg u32 ?_))
      show IntKind.u32.wrap ((num : Int) - 1073741824) = _
      have h1 : 1073741824 ≤ num := by omega
      simp [IntKind.wrap, IntKind.signed, IntKind.bits]; omega
  · rw [if_neg (fun q => h q.1)]
    refine tells_of_aw Tryz.func50 rfl rfl fun nx => ?_
    (repeat((conv=>whnf);first|apply ω0|apply ω1|apply ω2|refine τ3 rfl ?_|refine τ4 rfl ?_|refine ⟨rfl,?_⟩|apply τa|refine τb rfl ?_|refine ⟨⟨by kernel_rfl,by kernel_rfl⟩,?_⟩|refine ⟨by decide,?_⟩|apply τt|apply τf))
    intro c hc
    obtain rfl : c = false := hc.trans (by simp; omega)
    (repeat((conv=>whnf);first|apply ω0|apply ω1|apply ω2|refine τ3 rfl ?_|refine τ4 rfl ?_|refine ⟨rfl,?_⟩|apply τa|refine τb rfl ?_|refine ⟨⟨by kernel_rfl,by kernel_rfl⟩,?_⟩|refine ⟨by decide,?_⟩|apply τt|apply τf))
    exact ret_tells rfl (AVle.refl _)
theorem ref08arg_spec (a : Int) (x : Nat) (hx : x < 18446744073709551616) : Tells Tryz.prog 54 [int a, u64 (x : Nat)] (u64 ((if a = 2 then x % 4294967296 else x : Nat) : Nat)) := by
  refine tells_of_aw Tryz.func54 rfl rfl fun nx => ?_
  (repeat((conv=>whnf);first|apply ω0|apply ω1|apply ω2|refine τ3 rfl ?_|refine τ4 rfl ?_|refine ⟨rfl,?_⟩|apply τa|refine τb rfl ?_|refine ⟨⟨by kernel_rfl,by kernel_rfl⟩,?_⟩|refine ⟨by decide,?_⟩|apply τt|apply τf))
  intro c t; cases c
  · have t : ¬ a = 2 := by simpa using t
    rw [if_neg t]
    (repeat((conv=>whnf);first|apply ω0|apply ω1|apply ω2|refine τ3 rfl ?_|refine τ4 rfl ?_|refine ⟨rfl,?_⟩|apply τa|refine τb rfl ?_|refine ⟨⟨by kernel_rfl,by kernel_rfl⟩,?_⟩|refine ⟨by decide,?_⟩|apply τt|apply τf))
    exact ret_tells rfl (AVle.refl _)
  · have t : a = 2 := by simpa using t
    rw [if_pos t]
    (repeat((conv=>whnf);first|apply ω0|apply ω1|apply ω2|refine τ3 rfl ?_|refine τ4 rfl ?_|refine ⟨rfl,?_⟩|apply τa|refine τb rfl ?_|refine ⟨⟨by kernel_rfl,by kernel_rfl⟩,?_⟩|refine ⟨by decide,?_⟩|apply τt|apply τf))
    refine ret_tells rfl (AVle.of_eq (congrArg u64 ?_))
    exact (Int.ofNat_tmod x 4294967296).symm
end Go.Proofs.W

namespace Go.Proofs.W
open Go.Vl
set_option maxRecDepth 100000

theorem c_intT : Tryz.prog.cellsOf 3 = 1 := by kernel_rfl
def numR (r : TRow) (a i : Nat) : Int := if 0 ≤ r.num a then r.num a else -1 - (i : Int)
theorem ref11num_spec (l : List TRow) (a i : Nat) (ha : a < 5) (hi : i < l.length) (hl : l.length ≤ 1000000) : Tells Tryz.prog 72 [trows l, int a, int i] (int (numR (l.getD i trow0) a i)) := by
  unfold numR
  refine tells_of_aw Tryz.func72 rfl rfl fun nx => ?_
  rcases (by omega : a = 0 ∨ a = 1 ∨ a = 2 ∨ a = 3 ∨ a = 4) with rfl | rfl | rfl | rfl | rfl
  · (repeat((conv=>whnf);first|apply ω0|apply ω1|apply ω2|refine τ3 rfl ?_|refine τ4 rfl ?_|refine ⟨rfl,?_⟩|apply τa|refine τb rfl ?_|refine ⟨⟨by kernel_rfl,by kernel_rfl⟩,?_⟩|refine ⟨by decide,?_⟩|apply τt|apply τf))
    refine ⟨⟨by first | omega | (dsimp only; omega), by first | omega | (dsimp only; omega)⟩, ?_⟩
    (repeat((conv=>whnf);first|apply ω0|apply ω1|apply ω2|refine τ3 rfl ?_|refine τ4 rfl ?_|refine ⟨rfl,?_⟩|apply τa|refine τb rfl ?_|refine ⟨⟨by kernel_rfl,by kernel_rfl⟩,?_⟩|refine ⟨by decide,?_⟩|apply τt|apply τf))
    refine ⟨⟨by decide, by decide, by rw [c_intT]; exact Nat.le_of_ble_eq_true rfl⟩, splitO_eq (b := .rp (List.drop (1 + 0) (trowC (l.getD i trow0)))) (congrArg AV.rp (by rw [c_intT]; rfl)) ?_⟩
    (repeat((conv=>whnf);first|apply ω0|apply ω1|apply ω2|refine τ3 rfl ?_|refine τ4 rfl ?_|refine ⟨rfl,?_⟩|apply τa|refine τb rfl ?_|refine ⟨⟨by kernel_rfl,by kernel_rfl⟩,?_⟩|refine ⟨by decide,?_⟩|apply τt|apply τf))
    intro c t; cases c
    · have t := not_of t
      try dsimp only at t
      rw [if_neg (show ¬ 0 ≤ (l.getD i trow0).num 0 by show ¬ 0 ≤ (l.getD i trow0).a0; omega)]
      (repeat((conv=>whnf);first|apply ω0|apply ω1|apply ω2|refine τ3 rfl ?_|refine τ4 rfl ?_|refine ⟨rfl,?_⟩|apply τa|refine τb rfl ?_|refine ⟨⟨by kernel_rfl,by kernel_rfl⟩,?_⟩|refine ⟨by decide,?_⟩|apply τt|apply τf))
      refine ret_tells rfl (le_int (wrap_id (by omega) (by omega)))
    · have t := yes_of t
      try dsimp only at t
      rw [if_pos (show 0 ≤ (l.getD i trow0).num 0 by show 0 ≤ (l.getD i trow0).a0; omega)]
      (repeat((conv=>whnf);first|apply ω0|apply ω1|apply ω2|refine τ3 rfl ?_|refine τ4 rfl ?_|refine ⟨rfl,?_⟩|apply τa|refine τb rfl ?_|refine ⟨⟨by kernel_rfl,by kernel_rfl⟩,?_⟩|refine ⟨by decide,?_⟩|apply τt|apply τf))
      refine ⟨⟨by first | omega | (dsimp only; omega), by first | omega | (dsimp only; omega)⟩, ?_⟩
      (repeat((conv=>whnf);first|apply ω0|apply ω1|apply ω2|refine τ3 rfl ?_|refine τ4 rfl ?_|refine ⟨rfl,?_⟩|apply τa|refine τb rfl ?_|refine ⟨⟨by kernel_rfl,by kernel_rfl⟩,?_⟩|refine ⟨by decide,?_⟩|apply τt|apply τf))
      refine ⟨⟨by decide, by decide, by rw [c_intT]; exact Nat.le_of_ble_eq_true rfl⟩, splitO_eq (b := .rp (List.drop (1 + 0) (trowC (l.getD i trow0)))) (congrArg AV.rp (by rw [c_intT]; rfl)) ?_⟩
      (repeat((conv=>whnf);first|apply ω0|apply ω1|apply ω2|refine τ3 rfl ?_|refine τ4 rfl ?_|refine ⟨rfl,?_⟩|apply τa|refine τb rfl ?_|refine ⟨⟨by kernel_rfl,by kernel_rfl⟩,?_⟩|refine ⟨by decide,?_⟩|apply τt|apply τf))
      exact ret_tells rfl (AVle.refl _)
  · (repeat((conv=>whnf);first|apply ω0|apply ω1|apply ω2|refine τ3 rfl ?_|refine τ4 rfl ?_|refine ⟨rfl,?_⟩|apply τa|refine τb rfl ?_|refine ⟨⟨by kernel_rfl,by kernel_rfl⟩,?_⟩|refine ⟨by decide,?_⟩|apply τt|apply τf))
    refine ⟨⟨by first | omega | (dsimp only; omega), by first | omega | (dsimp only; omega)⟩, ?_⟩
    (repeat((conv=>whnf);first|apply ω0|apply ω1|apply ω2|refine τ3 rfl ?_|refine τ4 rfl ?_|refine ⟨rfl,?_⟩|apply τa|refine τb rfl ?_|refine ⟨⟨by kernel_rfl,by kernel_rfl⟩,?_⟩|refine ⟨by decide,?_⟩|apply τt|apply τf))
    refine ⟨⟨by decide, by decide, by rw [c_intT]; exact Nat.le_of_ble_eq_true rfl⟩, splitO_eq (b := .rp (List.drop (1 + 1) (trowC (l.getD i trow0)))) (congrArg AV.rp (by rw [c_intT]; rfl)) ?_⟩
    (repeat((conv=>whnf);first|apply ω0|apply ω1|apply ω2|refine τ3 rfl ?_|refine τ4 rfl ?_|refine ⟨rfl,?_⟩|apply τa|refine τb rfl ?_|refine ⟨⟨by kernel_rfl,by kernel_rfl⟩,?_⟩|refine ⟨by decide,?_⟩|apply τt|apply τf))
    intro c t; cases c
    · have t := not_of t
      try dsimp only at t
      rw [if_neg (show ¬ 0 ≤ (l.getD i trow0).num 1 by show ¬ 0 ≤ (l.getD i trow0).a1; omega)]
      (repeat((conv=>whnf);first|apply ω0|apply ω1|apply ω2|refine τ3 rfl ?_|refine τ4 rfl ?_|refine ⟨rfl,?_⟩|apply τa|refine τb rfl ?_|refine ⟨⟨by kernel_rfl,by kernel_rfl⟩,?_⟩|refine ⟨by decide,?_⟩|apply τt|apply τf))
      refine ret_tells rfl (le_int (wrap_id (by omega) (by omega)))
    · have t := yes_of t
      try dsimp only at t
      rw [if_pos (show 0 ≤ (l.getD i trow0).num 1 by show 0 ≤ (l.getD i trow0).a1; omega)]
      (repeat((conv=>whnf);first|apply ω0|apply ω1|apply ω2|refine τ3 rfl ?_|refine τ4 rfl ?_|refine ⟨rfl,?_⟩|apply τa|refine τb rfl ?_|refine ⟨⟨by kernel_rfl,by kernel_rfl⟩,?_⟩|refine ⟨by decide,?_⟩|apply τt|apply τf))
      refine ⟨⟨by first | omega | (dsimp only; omega), by first | omega | (dsimp only; omega)⟩, ?_⟩
      (repeat((conv=>whnf);first|apply ω0|apply ω1|apply ω2|refine τ3 rfl ?_|refine τ4 rfl ?_|refine ⟨rfl,?_⟩|apply τa|refine τb rfl ?_|refine ⟨⟨by kernel_rfl,by kernel_rfl⟩,?_⟩|refine ⟨by decide,?_⟩|apply τt|apply τf))
      refine ⟨⟨by decide, by decide, by rw [c_intT]; exact Nat.le_of_ble_eq_true rfl⟩, splitO_eq (b := .rp (List.drop (1 + 1) (trowC (l.getD i trow0)))) (congrArg AV.rp (by rw [c_intT]; rfl)) ?_⟩
      (repeat((conv=>whnf);first|apply ω0|apply ω1|apply ω2|refine τ3 rfl ?_|refine τ4 rfl ?_|refine ⟨rfl,?_⟩|apply τa|refine τb rfl ?_|refine ⟨⟨by kernel_rfl,by kernel_rfl⟩,?_⟩|refine ⟨by decide,?_⟩|apply τt|apply τf))
      exact ret_tells rfl (AVle.refl _)
  · (repeat((conv=>whnf);first|apply ω0|apply ω1|apply ω2|refine τ3 rfl ?_|refine τ4 rfl ?_|refine ⟨rfl,?_⟩|apply τa|refine τb rfl ?_|refine ⟨⟨by kernel_rfl,by kernel_rfl⟩,?_⟩|refine ⟨by decide,?_⟩|apply τt|apply τf))
    refine ⟨⟨by first | omega | (dsimp only; omega), by first | omega | (dsimp only; omega)⟩, ?_⟩
    (repeat((conv=>whnf);first|apply ω0|apply ω1|apply ω2|refine τ3 rfl ?_|refine τ4 rfl ?_|refine ⟨rfl,?_⟩|apply τa|refine τb rfl ?_|refine ⟨⟨by kernel_rfl,by kernel_rfl⟩,?_⟩|refine ⟨by decide,?_⟩|apply τt|apply τf))
    refine ⟨⟨by decide, by decide, by rw [c_intT]; exact Nat.le_of_ble_eq_true rfl⟩, splitO_eq (b := .rp (List.drop (1 + 2) (trowC (l.getD i trow0)))) (congrArg AV.rp (by rw [c_intT]; rfl)) ?_⟩
    (repeat((conv=>whnf);first|apply ω0|apply ω1|apply ω2|refine τ3 rfl ?_|refine τ4 rfl ?_|refine ⟨rfl,?_⟩|apply τa|refine τb rfl ?_|refine ⟨⟨by kernel_rfl,by kernel_rfl⟩,?_⟩|refine ⟨by decide,?_⟩|apply τt|apply τf))
    intro c t; cases c
    · have t := not_of t
      try dsimp only at t
      rw [if_neg (show ¬ 0 ≤ (l.getD i trow0).num 2 by show ¬ 0 ≤ (l.getD i trow0).a2; omega)]
      (repeat((conv=>whnf);first|apply ω0|apply ω1|apply ω2|refine τ3 rfl ?_|refine τ4 rfl ?_|refine ⟨rfl,?_⟩|apply τa|refine τb rfl ?_|refine ⟨⟨by kernel_rfl,by kernel_rfl⟩,?_⟩|refine ⟨by decide,?_⟩|apply τt|apply τf))
      refine ret_tells rfl (le_int (wrap_id (by omega) (by omega)))
    · have t := yes_of t
      try dsimp only at t
      rw [if_pos (show 0 ≤ (l.getD i trow0).num 2 by show 0 ≤ (l.getD i trow0).a2; omega)]
      (repeat((conv=>whnf);first|apply ω0|apply ω1|apply ω2|refine τ3 rfl ?_|refine τ4 rfl ?_|refine ⟨rfl,?_⟩|apply τa|refine τb rfl ?_|refine ⟨⟨by kernel_rfl,by kernel_rfl⟩,?_⟩|refine ⟨by decide,?_⟩|apply τt|apply τf))
      refine ⟨⟨by first | omega | (dsimp only; omega), by first | omega | (dsimp only; omega)⟩, ?_⟩
      (repeat((conv=>whnf);first|apply ω0|apply ω1|apply ω2|refine τ3 rfl ?_|refine τ4 rfl ?_|refine ⟨rfl,?_⟩|apply τa|refine τb rfl ?_|refine ⟨⟨by kernel_rfl,by kernel_rfl⟩,?_⟩|refine ⟨by decide,?_⟩|apply τt|apply τf))
      refine ⟨⟨by decide, by decide, by rw [c_intT]; exact Nat.le_of_ble_eq_true rfl⟩, splitO_eq (b := .rp (List.drop (1 + 2) (trowC (l.getD i trow0)))) (congrArg AV.rp (by rw [c_intT]; rfl)) ?_⟩
      (repeat((conv=>whnf);first|apply ω0|apply ω1|apply ω2|refine τ3 rfl ?_|refine τ4 rfl ?_|refine ⟨rfl,?_⟩|apply τa|refine τb rfl ?_|refine ⟨⟨by kernel_rfl,by kernel_rfl⟩,?_⟩|refine ⟨by decide,?_⟩|apply τt|apply τf))
      exact ret_tells rfl (AVle.refl _)
  · (repeat((conv=>whnf);first|apply ω0|apply ω1|apply ω2|refine τ3 rfl ?_|refine τ4 rfl ?_|refine ⟨rfl,?_⟩|apply τa|refine τb rfl ?_|refine ⟨⟨by kernel_rfl,by kernel_rfl⟩,?_⟩|refine ⟨by decide,?_⟩|apply τt|apply τf))
    refine ⟨⟨by first | omega | (dsimp only; omega), by first | omega | (dsimp only; omega)⟩, ?_⟩
    (repeat((conv=>whnf);first|apply ω0|apply ω1|apply ω2|refine τ3 rfl ?_|refine τ4 rfl ?_|refine ⟨rfl,?_⟩|apply τa|refine τb rfl ?_|refine ⟨⟨by kernel_rfl,by kernel_rfl⟩,?_⟩|refine ⟨by decide,?_⟩|apply τt|apply τf))
    refine ⟨⟨by decide, by decide, by rw [c_intT]; exact Nat.le_of_ble_eq_true rfl⟩, splitO_eq (b := .rp (List.drop (1 + 3) (trowC (l.getD i trow0)))) (congrArg AV.rp (by rw [c_intT]; rfl)) ?_⟩
    (repeat((conv=>whnf);first|apply ω0|apply ω1|apply ω2|refine τ3 rfl ?_|refine τ4 rfl ?_|refine ⟨rfl,?_⟩|apply τa|refine τb rfl ?_|refine ⟨⟨by kernel_rfl,by kernel_rfl⟩,?_⟩|refine ⟨by decide,?_⟩|apply τt|apply τf))
    intro c t; cases c
    · have t := not_of t
      try dsimp only at t
      rw [if_neg (show ¬ 0 ≤ (l.getD i trow0).num 3 by show ¬ 0 ≤ (l.getD i trow0).a3; omega)]
      (repeat((conv=>whnf);first|apply ω0|apply ω1|apply ω2|refine τ3 rfl ?_|refine τ4 rfl ?_|refine ⟨rfl,?_⟩|apply τa|refine τb rfl ?_|refine ⟨⟨by kernel_rfl,by kernel_rfl⟩,?_⟩|refine ⟨by decide,?_⟩|apply τt|apply τf))
      refine ret_tells rfl (le_int (wrap_id (by omega) (by omega)))
    · have t := yes_of t
      try dsimp only at t
      rw [if_pos (show 0 ≤ (l.getD i trow0).num 3 by show 0 ≤ (l.getD i trow0).a3; omega)]
      (repeat((conv=>whnf);first|apply ω0|apply ω1|apply ω2|refine τ3 rfl ?_|refine τ4 rfl ?_|refine ⟨rfl,?_⟩|apply τa|refine τb rfl ?_|refine ⟨⟨by kernel_rfl,by kernel_rfl⟩,?_⟩|refine ⟨by decide,?_⟩|apply τt|apply τf))
      refine ⟨⟨by first | omega | (dsimp only; omega), by first | omega | (dsimp only; omega)⟩, ?_⟩
      (repeat((conv=>whnf);first|apply ω0|apply ω1|apply ω2|refine τ3 rfl ?_|refine τ4 rfl ?_|refine ⟨rfl,?_⟩|apply τa|refine τb rfl ?_|refine ⟨⟨by kernel_rfl,by kernel_rfl⟩,?_⟩|refine ⟨by decide,?_⟩|apply τt|apply τf))
      refine ⟨⟨by decide, by decide, by rw [c_intT]; exact Nat.le_of_ble_eq_true rfl⟩, splitO_eq (b := .rp (List.drop (1 + 3) (trowC (l.getD i trow0)))) (congrArg AV.rp (by rw [c_intT]; rfl)) ?_⟩
      (repeat((conv=>whnf);first|apply ω0|apply ω1|apply ω2|refine τ3 rfl ?_|refine τ4 rfl ?_|refine ⟨rfl,?_⟩|apply τa|refine τb rfl ?_|refine ⟨⟨by kernel_rfl,by kernel_rfl⟩,?_⟩|refine ⟨by decide,?_⟩|apply τt|apply τf))
      exact ret_tells rfl (AVle.refl _)
  · (repeat((conv=>whnf);first|apply ω0|apply ω1|apply ω2|refine τ3 rfl ?_|refine τ4 rfl ?_|refine ⟨rfl,?_⟩|apply τa|refine τb rfl ?_|refine ⟨⟨by kernel_rfl,by kernel_rfl⟩,?_⟩|refine ⟨by decide,?_⟩|apply τt|apply τf))
    refine ⟨⟨by first | omega | (dsimp only; omega), by first | omega | (dsimp only; omega)⟩, ?_⟩
    (repeat((conv=>whnf);first|apply ω0|apply ω1|apply ω2|refine τ3 rfl ?_|refine τ4 rfl ?_|refine ⟨rfl,?_⟩|apply τa|refine τb rfl ?_|refine ⟨⟨by kernel_rfl,by kernel_rfl⟩,?_⟩|refine ⟨by decide,?_⟩|apply τt|apply τf))
    refine ⟨⟨by decide, by decide, by rw [c_intT]; exact Nat.le_of_ble_eq_true rfl⟩, splitO_eq (b := .rp (List.drop (1 + 4) (trowC (l.getD i trow0)))) (congrArg AV.rp (by rw [c_intT]; rfl)) ?_⟩
    (repeat((conv=>whnf);first|apply ω0|apply ω1|apply ω2|refine τ3 rfl ?_|refine τ4 rfl ?_|refine ⟨rfl,?_⟩|apply τa|refine τb rfl ?_|refine ⟨⟨by kernel_rfl,by kernel_rfl⟩,?_⟩|refine ⟨by decide,?_⟩|apply τt|apply τf))
    intro c t; cases c
    · have t := not_of t
      try dsimp only at t
      rw [if_neg (show ¬ 0 ≤ (l.getD i trow0).num 4 by show ¬ 0 ≤ (l.getD i trow0).a4; omega)]
      (repeat((conv=>whnf);first|apply ω0|apply ω1|apply ω2|refine τ3 rfl ?_|refine τ4 rfl ?_|refine ⟨rfl,?_⟩|apply τa|refine τb rfl ?_|refine ⟨⟨by kernel_rfl,by kernel_rfl⟩,?_⟩|refine ⟨by decide,?_⟩|apply τt|apply τf))
      refine ret_tells rfl (le_int (wrap_id (by omega) (by omega)))
    · have t := yes_of t
      try dsimp only at t
      rw [if_pos (show 0 ≤ (l.getD i trow0).num 4 by show 0 ≤ (l.getD i trow0).a4; omega)]
      (repeat((conv=>whnf);first|apply ω0|apply ω1|apply ω2|refine τ3 rfl ?_|refine τ4 rfl ?_|refine ⟨rfl,?_⟩|apply τa|refine τb rfl ?_|refine ⟨⟨by kernel_rfl,by kernel_rfl⟩,?_⟩|refine ⟨by decide,?_⟩|apply τt|apply τf))
      refine ⟨⟨by first | omega | (dsimp only; omega), by first | omega | (dsimp only; omega)⟩, ?_⟩
      (repeat((conv=>whnf);first|apply ω0|apply ω1|apply ω2|refine τ3 rfl ?_|refine τ4 rfl ?_|refine ⟨rfl,?_⟩|apply τa|refine τb rfl ?_|refine ⟨⟨by kernel_rfl,by kernel_rfl⟩,?_⟩|refine ⟨by decide,?_⟩|apply τt|apply τf))
      refine ⟨⟨by decide, by decide, by rw [c_intT]; exact Nat.le_of_ble_eq_true rfl⟩, splitO_eq (b := .rp (List.drop (1 + 4) (trowC (l.getD i trow0)))) (congrArg AV.rp (by rw [c_intT]; rfl)) ?_⟩
      (repeat((conv=>whnf);first|apply ω0|apply ω1|apply ω2|refine τ3 rfl ?_|refine τ4 rfl ?_|refine ⟨rfl,?_⟩|apply τa|refine τb rfl ?_|refine ⟨⟨by kernel_rfl,by kernel_rfl⟩,?_⟩|refine ⟨by decide,?_⟩|apply τt|apply τf))
      exact ret_tells rfl (AVle.refl _)
end Go.Proofs.W

namespace Go.Proofs.W
open Go.Vl
set_option maxRecDepth 100000

theorem numR_eq {r : TRow} {a i : Nat} {n : Int} (hn : 0 ≤ n) : (numR r a i == n) = nameB5 a n r := by
  unfold numR nameB5
  rw [Bool.eq_iff_iff]
  simp only [beq_iff_eq, decide_eq_true_eq]
  split
  · exact Iff.rfl
  · constructor
    · intro h; omega
    · intro h; omega
theorem ref11at_spec (l : List TRow) (a : Nat) (ha : a < 5) (n : Int) (hn : 0 ≤ n) (hl : l.length ≤ 1000000) : Tells Tryz.prog 49 [trows l, int a, int n] (int (optI (l.findIdx? (nameB5 a n)))) := by
  refine tells_of_aw Tryz.func49 rfl rfl fun nx => ?_
  (repeat((conv=>whnf);first|apply ω0|apply ω1|apply ω2|refine τ3 rfl ?_|refine τ4 rfl ?_|refine ⟨rfl,?_⟩|apply τa|refine τb rfl ?_|refine ⟨⟨by kernel_rfl,by kernel_rfl⟩,?_⟩|refine ⟨by decide,?_⟩|apply τt|apply τf))
  refine aw_loop (fun s : Nat × Nat => mk 21 [(0, trows l), (1, int a), (2, int n), (7, int s.1)] ⟨[], [], s.2, 0⟩) (fun s => s.1 ≤ l.length ∧ ∀ j, j < s.1 → nameB5 a n (l.getD j trow0) = false) (fun s => l.length - s.1) ?_ ?_
  · exact ⟨(0, nx), ⟨Nat.zero_le _, fun j hj => absurd hj (Nat.not_lt_zero j)⟩, ele_mk rfl rfl ⟨AVle.refl _, AVle.refl _, AVle.refl _, AVle.refl _, trivial⟩⟩
  · rintro ⟨i, nx2⟩ ⟨h3, h4⟩
    dsimp only at h3 h4
    (repeat((conv=>whnf);first|apply ω0|apply ω1|apply ω2|refine τ3 rfl ?_|refine τ4 rfl ?_|refine ⟨rfl,?_⟩|apply τa|refine τb rfl ?_|refine ⟨⟨by kernel_rfl,by kernel_rfl⟩,?_⟩|refine ⟨by decide,?_⟩|apply τt|apply τf))
    intro c h5; cases c
    · have h6 := not_of h5
      dsimp only at h6
      obtain rfl : i = l.length := by omega
      (repeat((conv=>whnf);first|apply ω0|apply ω1|apply ω2|refine τ3 rfl ?_|refine τ4 rfl ?_|refine ⟨rfl,?_⟩|apply τa|refine τb rfl ?_|refine ⟨⟨by kernel_rfl,by kernel_rfl⟩,?_⟩|refine ⟨by decide,?_⟩|apply τt|apply τf))
      refine ret_tells rfl (le_int ?_)
      rw [idx_none trow0 h4]; rfl
    · have h6 := yes_of h5
      dsimp only at h6
      have hi : i < l.length := by omega
      have hnum := ref11num_spec l a i ha hi hl
      (repeat((conv=>whnf);first|apply ω0|apply ω1|apply ω2|refine τ3 rfl ?_|refine τ4 rfl ?_|refine ⟨rfl,?_⟩|apply τa|refine τb rfl ?_|refine ⟨⟨by kernel_rfl,by kernel_rfl⟩,?_⟩|refine ⟨by decide,?_⟩|apply τt|apply τf))
      refine aop_tells rfl rfl hnum ⟨AVle.refl _, AVle.refl _, AVle.refl _, trivial⟩ fun nx3 => ?_
      (repeat((conv=>whnf);first|apply ω0|apply ω1|apply ω2|refine τ3 rfl ?_|refine τ4 rfl ?_|refine ⟨rfl,?_⟩|apply τa|refine τb rfl ?_|refine ⟨⟨by kernel_rfl,by kernel_rfl⟩,?_⟩|refine ⟨by decide,?_⟩|apply τt|apply τf))
      intro c hc
      have hc2 : c = nameB5 a n (l.getD i trow0) := hc.trans (numR_eq hn)
      clear hc
      cases c
      · (repeat((conv=>whnf);first|apply ω0|apply ω1|apply ω2|refine τ3 rfl ?_|refine τ4 rfl ?_|refine ⟨rfl,?_⟩|apply τa|refine τb rfl ?_|refine ⟨⟨by kernel_rfl,by kernel_rfl⟩,?_⟩|refine ⟨by decide,?_⟩|apply τt|apply τf))
        exact back (i + 1, nx3) ⟨hi, fun j hj => by dsimp only at hj; rcases Nat.lt_or_ge j i with q | q; exact h4 j q; rw [show j = i by omega]; exact hc2.symm⟩ (by dsimp only; omega) (ele_mk rfl rfl ⟨AVle.refl _, AVle.refl _, AVle.refl _, le_int (wrap_succ (by dsimp only; omega)), trivial⟩)
      · (repeat((conv=>whnf);first|apply ω0|apply ω1|apply ω2|refine τ3 rfl ?_|refine τ4 rfl ?_|refine ⟨rfl,?_⟩|apply τa|refine τb rfl ?_|refine ⟨⟨by kernel_rfl,by kernel_rfl⟩,?_⟩|refine ⟨by decide,?_⟩|apply τt|apply τf))
        refine ret_tells rfl (le_int ?_)
        rw [idx_at trow0 hi h4 hc2.symm]; rfl
theorem subR_eq {r : TRow} {m s : Int} (hm : m = 1 ∨ m = 2) : subB m s r = (decide (r.mux = m) && decide (r.sub = s)) := by
  unfold subB
  rw [decide_eq_true (by omega : m ≠ 0), Bool.and_true]
set_option maxHeartbeats 2000000 in
theorem ref11sub_spec (l : List TRow) (m : Int) (hm : m = 1 ∨ m = 2) (s : Int) (hl : l.length ≤ 1000000) : Tells Tryz.prog 48 [trows l, int m, int s] (int (optI (l.findIdx? (subB m s)))) := by
  have hge : decide (m ≥ 1) = true := decide_eq_true (by omega)
  have hle : decide (m ≤ 2) = true := decide_eq_true (by omega)
  refine tells_of_aw Tryz.func48 rfl rfl fun nx => ?_
  (repeat((conv=>whnf);first|apply ω0|apply ω1|apply ω2|refine τ3 rfl ?_|refine τ4 rfl ?_|refine ⟨rfl,?_⟩|apply τa|refine τb rfl ?_|refine ⟨⟨by kernel_rfl,by kernel_rfl⟩,?_⟩|refine ⟨by decide,?_⟩|apply τt|apply τf))
  refine aw_loop (fun q : Nat × Nat => mk 39 [(0, trows l), (1, int m), (2, int s), (7, int q.1)] ⟨[], [], q.2, 0⟩) (fun q => q.1 ≤ l.length ∧ ∀ j, j < q.1 → subB m s (l.getD j trow0) = false) (fun q => l.length - q.1) ?_ ?_
  · exact ⟨(0, nx), ⟨Nat.zero_le _, fun j hj => absurd hj (Nat.not_lt_zero j)⟩, ele_mk rfl rfl ⟨AVle.refl _, AVle.refl _, AVle.refl _, AVle.refl _, trivial⟩⟩
  · rintro ⟨i, nx2⟩ ⟨h3, h4⟩
    dsimp only at h3 h4
    (repeat((conv=>whnf);first|apply ω0|apply ω1|apply ω2|refine τ3 rfl ?_|refine τ4 rfl ?_|refine ⟨rfl,?_⟩|apply τa|refine τb rfl ?_|refine ⟨⟨by kernel_rfl,by kernel_rfl⟩,?_⟩|refine ⟨by decide,?_⟩|apply τt|apply τf))
    intro c h5; cases c
    · have h6 := not_of h5
      dsimp only at h6
      obtain rfl : i = l.length := by omega
      (repeat((conv=>whnf);first|apply ω0|apply ω1|apply ω2|refine τ3 rfl ?_|refine τ4 rfl ?_|refine ⟨rfl,?_⟩|apply τa|refine τb rfl ?_|refine ⟨⟨by kernel_rfl,by kernel_rfl⟩,?_⟩|refine ⟨by decide,?_⟩|apply τt|apply τf))
      refine ret_tells rfl (le_int ?_)
      rw [idx_none trow0 h4]; rfl
    · have h6 := yes_of h5
      dsimp only at h6
      have hi : i < l.length := by omega
      have hsub := subR_eq (r := l.getD i trow0) (s := s) hm
      (repeat((conv=>whnf);first|apply ω0|apply ω1|apply ω2|refine τ3 rfl ?_|refine τ4 rfl ?_|refine ⟨rfl,?_⟩|apply τa|refine τb rfl ?_|refine ⟨⟨by kernel_rfl,by kernel_rfl⟩,?_⟩|refine ⟨by decide,?_⟩|apply τt|apply τf))
      intro c hc
      obtain rfl : c = true := hc.trans hge
      (repeat((conv=>whnf);first|apply ω0|apply ω1|apply ω2|refine τ3 rfl ?_|refine τ4 rfl ?_|refine ⟨rfl,?_⟩|apply τa|refine τb rfl ?_|refine ⟨⟨by kernel_rfl,by kernel_rfl⟩,?_⟩|refine ⟨by decide,?_⟩|apply τt|apply τf))
      intro c hc
      obtain rfl : c = true := hc.trans hle
      (repeat((conv=>whnf);first|apply ω0|apply ω1|apply ω2|refine τ3 rfl ?_|refine τ4 rfl ?_|refine ⟨rfl,?_⟩|apply τa|refine τb rfl ?_|refine ⟨⟨by kernel_rfl,by kernel_rfl⟩,?_⟩|refine ⟨by decide,?_⟩|apply τt|apply τf))
      refine ⟨⟨by first | omega | (dsimp only; omega), by first | omega | (dsimp only; omega)⟩, ?_⟩
      (repeat((conv=>whnf);first|apply ω0|apply ω1|apply ω2|refine τ3 rfl ?_|refine τ4 rfl ?_|refine ⟨rfl,?_⟩|apply τa|refine τb rfl ?_|refine ⟨⟨by kernel_rfl,by kernel_rfl⟩,?_⟩|refine ⟨by decide,?_⟩|apply τt|apply τf))
      intro c hc
      have hc2 : c = decide ((l.getD i trow0).mux = m) := by rw [hc, Bool.eq_iff_iff]; simp [Int.toNat_natCast]
      clear hc
      rw [← hc2] at hsub
      clear hc2
      cases c
      · (repeat((conv=>whnf);first|apply ω0|apply ω1|apply ω2|refine τ3 rfl ?_|refine τ4 rfl ?_|refine ⟨rfl,?_⟩|apply τa|refine τb rfl ?_|refine ⟨⟨by kernel_rfl,by kernel_rfl⟩,?_⟩|refine ⟨by decide,?_⟩|apply τt|apply τf))
        exact back (i + 1, nx2) ⟨hi, fun j hj => by dsimp only at hj; rcases Nat.lt_or_ge j i with q | q; exact h4 j q; rw [show j = i by omega]; exact hsub⟩ (by dsimp only; omega) (ele_mk rfl rfl ⟨AVle.refl _, AVle.refl _, AVle.refl _, le_int (wrap_succ (by dsimp only; omega)), trivial⟩)
      · rw [Bool.true_and] at hsub
        (repeat((conv=>whnf);first|apply ω0|apply ω1|apply ω2|refine τ3 rfl ?_|refine τ4 rfl ?_|refine ⟨rfl,?_⟩|apply τa|refine τb rfl ?_|refine ⟨⟨by kernel_rfl,by kernel_rfl⟩,?_⟩|refine ⟨by decide,?_⟩|apply τt|apply τf))
        refine ⟨⟨by first | omega | (dsimp only; omega), by first | omega | (dsimp only; omega)⟩, ?_⟩
        (repeat((conv=>whnf);first|apply ω0|apply ω1|apply ω2|refine τ3 rfl ?_|refine τ4 rfl ?_|refine ⟨rfl,?_⟩|apply τa|refine τb rfl ?_|refine ⟨⟨by kernel_rfl,by kernel_rfl⟩,?_⟩|refine ⟨by decide,?_⟩|apply τt|apply τf))
        intro c hc
        have hc2 : c = decide ((l.getD i trow0).sub = s) := by rw [hc, Bool.eq_iff_iff]; simp [Int.toNat_natCast]
        clear hc
        rw [← hc2] at hsub
        clear hc2
        cases c
        · (repeat((conv=>whnf);first|apply ω0|apply ω1|apply ω2|refine τ3 rfl ?_|refine τ4 rfl ?_|refine ⟨rfl,?_⟩|apply τa|refine τb rfl ?_|refine ⟨⟨by kernel_rfl,by kernel_rfl⟩,?_⟩|refine ⟨by decide,?_⟩|apply τt|apply τf))
          exact back (i + 1, nx2) ⟨hi, fun j hj => by dsimp only at hj; rcases Nat.lt_or_ge j i with q | q; exact h4 j q; rw [show j = i by omega]; exact hsub⟩ (by dsimp only; omega) (ele_mk rfl rfl ⟨AVle.refl _, AVle.refl _, AVle.refl _, le_int (wrap_succ (by dsimp only; omega)), trivial⟩)
        · (repeat((conv=>whnf);first|apply ω0|apply ω1|apply ω2|refine τ3 rfl ?_|refine τ4 rfl ?_|refine ⟨rfl,?_⟩|apply τa|refine τb rfl ?_|refine ⟨⟨by kernel_rfl,by kernel_rfl⟩,?_⟩|refine ⟨by decide,?_⟩|apply τt|apply τf))
          refine ret_tells rfl (le_int ?_)
          rw [idx_at trow0 hi h4 hsub]; rfl
end Go.Proofs.W

namespace Go.Proofs.W
open Go.Vl
set_option maxRecDepth 100000

/-- The row that a record calls. -/
def atO (l : List TRow) (r : Rec) : Option Nat := match selO r.arch r.num with
  | none => none
  | some a => if 0 < kindO a r.num then l.findIdx? (subB (kindO a r.num) ((r.a0 % 4294967296 : Nat) : Int)) else l.findIdx? (nameB5 a ((ownI a r.num : Nat) : Int))
def muxB (r : Rec) : Bool := match selO r.arch r.num with
  | none => false
  | some a => decide (0 < kindO a r.num)
def of12A (l : List TRow) (r : Rec) : AV := .ag [int (selI r.arch r.num), int (optI (atO l r)), boolA (muxB r)]
theorem low_i {x : Nat} (h : x < 18446744073709551616) : IntKind.i64.wrap ((x : Int).tmod 4294967296) = ((x % 4294967296 : Nat) : Int) := by
  have e : (x : Int).tmod 4294967296 = ((x % 4294967296 : Nat) : Int) := (Int.ofNat_tmod x 4294967296).symm
  rw [e]
  exact wrap_id (by omega) (by omega)
set_option maxHeartbeats 4000000 in
theorem of12_spec (l : List TRow) (r : Rec) (hr : r.ok) (hl : l.length ≤ 1000000) : Tells Tryz.prog 24 [trows l, recA r] (of12A l r) := by
  have hsel := ref08sel_spec r.arch r.num hr.2.1 hr.1
  unfold of12A atO muxB
  unfold selI at hsel ⊢
  cases hso : selO r.arch r.num with
  | none =>
    rw [hso] at hsel
    dsimp only at hsel ⊢
    refine tells_of_aw Tryz.func24 rfl rfl fun nx => ?_
    (repeat((conv=>whnf);first|apply ω0|apply ω1|apply ω2|refine τ3 rfl ?_|refine τ4 rfl ?_|refine ⟨rfl,?_⟩|apply τa|refine τb rfl ?_|refine ⟨⟨by kernel_rfl,by kernel_rfl⟩,?_⟩|refine ⟨by decide,?_⟩|apply τt|apply τf))
    refine aop_tells rfl rfl hsel ⟨AVle.refl _, AVle.refl _, trivial⟩ fun nx2 => ?_
    (repeat((conv=>whnf);first|apply ω0|apply ω1|apply ω2|refine τ3 rfl ?_|refine τ4 rfl ?_|refine ⟨rfl,?_⟩|apply τa|refine τb rfl ?_|refine ⟨⟨by kernel_rfl,by kernel_rfl⟩,?_⟩|refine ⟨by decide,?_⟩|apply τt|apply τf))
    exact ret_tells_all rfl ⟨rfl, trivial⟩ (AVle.refl _)
  | some a =>
    rw [hso] at hsel
    dsimp only at hsel ⊢
    have ha5 := selO_lt hso
    have hat := ref11at_spec l a ha5 ((ownI a r.num : Nat) : Int) (Int.natCast_nonneg _) hl
    have hown := ref08own_spec a r.num hr.1
    have hown2 : ownI a r.num < 4294967296 := by have := hr.1; unfold ownI; split <;> omega
    have ha0 := hr.2.2.2.1
    have h102 := ref11sub_spec l 1 (.inl rfl) ((r.a0 % 4294967296 : Nat) : Int) hl
    have h117 := ref11sub_spec l 2 (.inr rfl) ((r.a0 % 4294967296 : Nat) : Int) hl
    clear hso
    have hkd : kindO a r.num = if a = 2 then kindI r.num else 0 := rfl
    unfold kindI at hkd
    by_cases h2 : a = 2
    · subst h2
      rw [if_pos rfl] at hkd
      by_cases q1 : r.num = 102
      · rw [if_pos q1] at hkd
        rw [hkd]
        refine tells_of_aw Tryz.func24 rfl rfl fun nx => ?_
        (repeat((conv=>whnf);first|apply ω0|apply ω1|apply ω2|refine τ3 rfl ?_|refine τ4 rfl ?_|refine ⟨rfl,?_⟩|apply τa|refine τb rfl ?_|refine ⟨⟨by kernel_rfl,by kernel_rfl⟩,?_⟩|refine ⟨by decide,?_⟩|apply τt|apply τf))
        refine aop_tells rfl rfl hsel ⟨AVle.refl _, AVle.refl _, trivial⟩ fun nx2 => ?_
        (repeat((conv=>whnf);first|apply ω0|apply ω1|apply ω2|refine τ3 rfl ?_|refine τ4 rfl ?_|refine ⟨rfl,?_⟩|apply τa|refine τb rfl ?_|refine ⟨⟨by kernel_rfl,by kernel_rfl⟩,?_⟩|refine ⟨by decide,?_⟩|apply τt|apply τf))
        intro c hc
        obtain rfl : c = true := hc.trans (by simp; omega)
        (repeat((conv=>whnf);first|apply ω0|apply ω1|apply ω2|refine τ3 rfl ?_|refine τ4 rfl ?_|refine ⟨rfl,?_⟩|apply τa|refine τb rfl ?_|refine ⟨⟨by kernel_rfl,by kernel_rfl⟩,?_⟩|refine ⟨by decide,?_⟩|apply τt|apply τf))
        refine aop_tells rfl rfl h102 ⟨AVle.refl _, AVle.refl _, le_int (by rw [low_i ha0]), trivial⟩ fun nx3 => ?_
        (repeat((conv=>whnf);first|apply ω0|apply ω1|apply ω2|refine τ3 rfl ?_|refine τ4 rfl ?_|refine ⟨rfl,?_⟩|apply τa|refine τb rfl ?_|refine ⟨⟨by kernel_rfl,by kernel_rfl⟩,?_⟩|refine ⟨by decide,?_⟩|apply τt|apply τf))
        exact ret_tells_all rfl ⟨rfl, trivial⟩ (AVle.refl _)
      · rw [if_neg q1] at hkd
        by_cases q2 : r.num = 117
        · rw [if_pos q2] at hkd
          rw [hkd]
          refine tells_of_aw Tryz.func24 rfl rfl fun nx => ?_
          (repeat((conv=>whnf);first|apply ω0|apply ω1|apply ω2|refine τ3 rfl ?_|refine τ4 rfl ?_|refine ⟨rfl,?_⟩|apply τa|refine τb rfl ?_|refine ⟨⟨by kernel_rfl,by kernel_rfl⟩,?_⟩|refine ⟨by decide,?_⟩|apply τt|apply τf))
          refine aop_tells rfl rfl hsel ⟨AVle.refl _, AVle.refl _, trivial⟩ fun nx2 => ?_
          (repeat((conv=>whnf);first|apply ω0|apply ω1|apply ω2|refine τ3 rfl ?_|refine τ4 rfl ?_|refine ⟨rfl,?_⟩|apply τa|refine τb rfl ?_|refine ⟨⟨by kernel_rfl,by kernel_rfl⟩,?_⟩|refine ⟨by decide,?_⟩|apply τt|apply τf))
          intro c hc
          obtain rfl : c = false := hc.trans (by simp; omega)
          (repeat((conv=>whnf);first|apply ω0|apply ω1|apply ω2|refine τ3 rfl ?_|refine τ4 rfl ?_|refine ⟨rfl,?_⟩|apply τa|refine τb rfl ?_|refine ⟨⟨by kernel_rfl,by kernel_rfl⟩,?_⟩|refine ⟨by decide,?_⟩|apply τt|apply τf))
          intro c hc
          obtain rfl : c = true := hc.trans (by simp; omega)
          (repeat((conv=>whnf);first|apply ω0|apply ω1|apply ω2|refine τ3 rfl ?_|refine τ4 rfl ?_|refine ⟨rfl,?_⟩|apply τa|refine τb rfl ?_|refine ⟨⟨by kernel_rfl,by kernel_rfl⟩,?_⟩|refine ⟨by decide,?_⟩|apply τt|apply τf))
          refine aop_tells rfl rfl h117 ⟨AVle.refl _, AVle.refl _, le_int (by rw [low_i ha0]), trivial⟩ fun nx3 => ?_
          (repeat((conv=>whnf);first|apply ω0|apply ω1|apply ω2|refine τ3 rfl ?_|refine τ4 rfl ?_|refine ⟨rfl,?_⟩|apply τa|refine τb rfl ?_|refine ⟨⟨by kernel_rfl,by kernel_rfl⟩,?_⟩|refine ⟨by decide,?_⟩|apply τt|apply τf))
          exact ret_tells_all rfl ⟨rfl, trivial⟩ (AVle.refl _)
        · rw [if_neg q2] at hkd
          rw [hkd]
          refine tells_of_aw Tryz.func24 rfl rfl fun nx => ?_
          (repeat((conv=>whnf);first|apply ω0|apply ω1|apply ω2|refine τ3 rfl ?_|refine τ4 rfl ?_|refine ⟨rfl,?_⟩|apply τa|refine τb rfl ?_|refine ⟨⟨by kernel_rfl,by kernel_rfl⟩,?_⟩|refine ⟨by decide,?_⟩|apply τt|apply τf))
          refine aop_tells rfl rfl hsel ⟨AVle.refl _, AVle.refl _, trivial⟩ fun nx2 => ?_
          (repeat((conv=>whnf);first|apply ω0|apply ω1|apply ω2|refine τ3 rfl ?_|refine τ4 rfl ?_|refine ⟨rfl,?_⟩|apply τa|refine τb rfl ?_|refine ⟨⟨by kernel_rfl,by kernel_rfl⟩,?_⟩|refine ⟨by decide,?_⟩|apply τt|apply τf))
          intro c hc
          obtain rfl : c = false := hc.trans (by simp; omega)
          (repeat((conv=>whnf);first|apply ω0|apply ω1|apply ω2|refine τ3 rfl ?_|refine τ4 rfl ?_|refine ⟨rfl,?_⟩|apply τa|refine τb rfl ?_|refine ⟨⟨by kernel_rfl,by kernel_rfl⟩,?_⟩|refine ⟨by decide,?_⟩|apply τt|apply τf))
          intro c hc
          obtain rfl : c = false := hc.trans (by simp; omega)
          (repeat((conv=>whnf);first|apply ω0|apply ω1|apply ω2|refine τ3 rfl ?_|refine τ4 rfl ?_|refine ⟨rfl,?_⟩|apply τa|refine τb rfl ?_|refine ⟨⟨by kernel_rfl,by kernel_rfl⟩,?_⟩|refine ⟨by decide,?_⟩|apply τt|apply τf))
          refine aop_tells rfl rfl hown ⟨AVle.refl _, AVle.refl _, trivial⟩ fun nx3 => ?_
          (repeat((conv=>whnf);first|apply ω0|apply ω1|apply ω2|refine τ3 rfl ?_|refine τ4 rfl ?_|refine ⟨rfl,?_⟩|apply τa|refine τb rfl ?_|refine ⟨⟨by kernel_rfl,by kernel_rfl⟩,?_⟩|refine ⟨by decide,?_⟩|apply τt|apply τf))
          refine aop_tells rfl rfl hat ⟨AVle.refl _, AVle.refl _, le_int (wrap_id (by omega) (by omega)), trivial⟩ fun nx4 => ?_
          (repeat((conv=>whnf);first|apply ω0|apply ω1|apply ω2|refine τ3 rfl ?_|refine τ4 rfl ?_|refine ⟨rfl,?_⟩|apply τa|refine τb rfl ?_|refine ⟨⟨by kernel_rfl,by kernel_rfl⟩,?_⟩|refine ⟨by decide,?_⟩|apply τt|apply τf))
          exact ret_tells_all rfl ⟨rfl, trivial⟩ (AVle.refl _)
    · rw [if_neg h2] at hkd
      rw [hkd]
      refine tells_of_aw Tryz.func24 rfl rfl fun nx => ?_
      (repeat((conv=>whnf);first|apply ω0|apply ω1|apply ω2|refine τ3 rfl ?_|refine τ4 rfl ?_|refine ⟨rfl,?_⟩|apply τa|refine τb rfl ?_|refine ⟨⟨by kernel_rfl,by kernel_rfl⟩,?_⟩|refine ⟨by decide,?_⟩|apply τt|apply τf))
      refine aop_tells rfl rfl hsel ⟨AVle.refl _, AVle.refl _, trivial⟩ fun nx2 => ?_
      (repeat((conv=>whnf);first|apply ω0|apply ω1|apply ω2|refine τ3 rfl ?_|refine τ4 rfl ?_|refine ⟨rfl,?_⟩|apply τa|refine τb rfl ?_|refine ⟨⟨by kernel_rfl,by kernel_rfl⟩,?_⟩|refine ⟨by decide,?_⟩|apply τt|apply τf))
      intro c hc
      obtain rfl : c = false := hc.trans (by simp; omega)
      (repeat((conv=>whnf);first|apply ω0|apply ω1|apply ω2|refine τ3 rfl ?_|refine τ4 rfl ?_|refine ⟨rfl,?_⟩|apply τa|refine τb rfl ?_|refine ⟨⟨by kernel_rfl,by kernel_rfl⟩,?_⟩|refine ⟨by decide,?_⟩|apply τt|apply τf))
      intro c hc
      obtain rfl : c = false := hc.trans (by simp; omega)
      (repeat((conv=>whnf);first|apply ω0|apply ω1|apply ω2|refine τ3 rfl ?_|refine τ4 rfl ?_|refine ⟨rfl,?_⟩|apply τa|refine τb rfl ?_|refine ⟨⟨by kernel_rfl,by kernel_rfl⟩,?_⟩|refine ⟨by decide,?_⟩|apply τt|apply τf))
      refine aop_tells rfl rfl hown ⟨AVle.refl _, AVle.refl _, trivial⟩ fun nx3 => ?_
      (repeat((conv=>whnf);first|apply ω0|apply ω1|apply ω2|refine τ3 rfl ?_|refine τ4 rfl ?_|refine ⟨rfl,?_⟩|apply τa|refine τb rfl ?_|refine ⟨⟨by kernel_rfl,by kernel_rfl⟩,?_⟩|refine ⟨by decide,?_⟩|apply τt|apply τf))
      refine aop_tells rfl rfl hat ⟨AVle.refl _, AVle.refl _, le_int (wrap_id (by omega) (by omega)), trivial⟩ fun nx4 => ?_
      (repeat((conv=>whnf);first|apply ω0|apply ω1|apply ω2|refine τ3 rfl ?_|refine τ4 rfl ?_|refine ⟨rfl,?_⟩|apply τa|refine τb rfl ?_|refine ⟨⟨by kernel_rfl,by kernel_rfl⟩,?_⟩|refine ⟨by decide,?_⟩|apply τt|apply τf))
      exact ret_tells_all rfl ⟨rfl, trivial⟩ (AVle.refl _)
end Go.Proofs.W

namespace Go.Proofs.W
open Go.Vl
set_option maxRecDepth 100000

def argR (r : Rec) (k : Nat) : Nat := if selI r.arch r.num = 2 then r.arg k % 4294967296 else r.arg k
def ofR (l : List TRow) (at_ : Nat) (rs : List Rec) : List Rec := rs.filter fun r => decide (atO l r = some at_)
theorem ofR_next {l : List TRow} {a : Nat} {rs : List Rec} {i : Nat} (h : i < rs.length) : ofR l a (rs.take (i + 1)) = if atO l (rs.getD i rec0) = some a then ofR l a (rs.take i) ++ [rs.getD i rec0] else ofR l a (rs.take i) := by
  unfold ofR
  rw [take_getD rec0 h, List.filter_append]
  by_cases q : atO l (rs.getD i rec0) = some a
  · rw [if_pos q, List.filter_cons, if_pos (decide_eq_true q)]; rfl
  · rw [if_neg q, List.filter_cons, if_neg (by rw [decide_eq_false q]; decide)]; simp
theorem ofR_le {l : List TRow} {a : Nat} {rs : List Rec} : (ofR l a rs).length ≤ rs.length := List.length_filter_le _ _
theorem arg_lt {r : Rec} (h : r.ok) (k : Nat) : r.arg k < 18446744073709551616 := by
  obtain ⟨_, _, _, h0, h1, h2, h3, h4, h5⟩ := h
  unfold Rec.arg; split <;> assumption
theorem optI_eq {o : Option Nat} {a : Nat} : (optI o == (a : Int)) = decide (o = some a) := by
  cases o with
  | none => simp [optI]
  | some i => rw [Bool.eq_iff_iff]; simp [optI]; omega
set_option maxHeartbeats 2000000 in
theorem ofR_spec (l : List TRow) (a : Nat) (rs : List Rec) (hl : l.length ≤ 1000000) (hr : ∀ r ∈ rs, r.ok) (hrn : rs.length ≤ 1000000) : Tells Tryz.prog 11 [trows l, int a, recs rs] (recs (ofR l a rs)) := by
  refine tells_of_aw Tryz.func11 rfl rfl fun nx => ?_
  (repeat((conv=>whnf);first|apply ω0|apply ω1|apply ω2|refine τ3 rfl ?_|refine τ4 rfl ?_|refine ⟨rfl,?_⟩|apply τa|refine τb rfl ?_|refine ⟨⟨by kernel_rfl,by kernel_rfl⟩,?_⟩|refine ⟨by decide,?_⟩|apply τt|apply τf))
  refine aw_loop (fun s : Nat × Option Nat × Nat => mk 32 [(0, trows l), (1, int a), (2, recs rs), (7, .os 9 (ofR l a (rs.take s.1)).length (fun j => recA ((ofR l a (rs.take s.1)).getD j rec0)) (nmd s.2.1)), (8, int s.1)] ⟨[], pmOf (nmd s.2.1) ((ofR l a (rs.take s.1)).length * 9), s.2.2, 1⟩) (fun s => s.1 ≤ rs.length ∧ (s.2.1 = none → (ofR l a (rs.take s.1)).length = 0)) (fun s => rs.length - s.1) ?_ ?_
  · exact ⟨(0, none, nx), ⟨Nat.zero_le _, fun _ => rfl⟩, ele_tell (pm := []) _ [] rfl rfl (List.Sublist.refl _) (List.Sublist.refl _) trivial trivial ⟨AVle.refl _, AVle.refl _, AVle.refl _, AVle.os_nil, AVle.refl _, trivial⟩⟩
  · rintro ⟨i, oi, nx2⟩ ⟨h3, h4⟩
    dsimp only at h3 h4
    have hle := ofR_le (l := l) (a := a) (rs := rs.take i)
    rw [List.length_take] at hle
    (repeat((conv=>whnf);first|apply ω0|apply ω1|apply ω2|refine τ3 rfl ?_|refine τ4 rfl ?_|refine ⟨rfl,?_⟩|apply τa|refine τb rfl ?_|refine ⟨⟨by kernel_rfl,by kernel_rfl⟩,?_⟩|refine ⟨by decide,?_⟩|apply τt|apply τf))
    intro c h5; cases c
    · have h6 := not_of h5
      dsimp only at h6
      obtain rfl : i = rs.length := by omega
      rw [List.take_length]
      rcases oi with _ | id
      all_goals
        (repeat((conv=>whnf);first|apply ω0|apply ω1|apply ω2|refine τ3 rfl ?_|refine τ4 rfl ?_|refine ⟨rfl,?_⟩|apply τa|refine τb rfl ?_|refine ⟨⟨by kernel_rfl,by kernel_rfl⟩,?_⟩|refine ⟨by decide,?_⟩|apply τt|apply τf))
        exact ret_tells rfl AVle.os_sl
    · have h6 := yes_of h5
      dsimp only at h6
      have hi : i < rs.length := by omega
      have hok : (rs.getD i rec0).ok := hr _ (by simp [List.getD, hi])
      have hof := of12_spec l (rs.getD i rec0) hok hl
      unfold of12A at hof
      have hsucc := ofR_next (l := l) (a := a) hi
      (repeat((conv=>whnf);first|apply ω0|apply ω1|apply ω2|refine τ3 rfl ?_|refine τ4 rfl ?_|refine ⟨rfl,?_⟩|apply τa|refine τb rfl ?_|refine ⟨⟨by kernel_rfl,by kernel_rfl⟩,?_⟩|refine ⟨by decide,?_⟩|apply τt|apply τf))
      refine ⟨⟨by first | omega | (dsimp only; omega), by first | omega | (dsimp only; omega)⟩, ?_⟩
      (repeat((conv=>whnf);first|apply ω0|apply ω1|apply ω2|refine τ3 rfl ?_|refine τ4 rfl ?_|refine ⟨rfl,?_⟩|apply τa|refine τb rfl ?_|refine ⟨⟨by kernel_rfl,by kernel_rfl⟩,?_⟩|refine ⟨by decide,?_⟩|apply τt|apply τf))
      refine aop_tells rfl rfl hof ⟨AVle.refl _, AVle.refl _, trivial⟩ fun nx3 => ?_
      (repeat((conv=>whnf);first|apply ω0|apply ω1|apply ω2|refine τ3 rfl ?_|refine τ4 rfl ?_|refine ⟨rfl,?_⟩|apply τa|refine τb rfl ?_|refine ⟨⟨by kernel_rfl,by kernel_rfl⟩,?_⟩|refine ⟨by decide,?_⟩|apply τt|apply τf))
      intro c hc
      have hc2 : c = decide (atO l (rs.getD i rec0) = some a) := hc.trans optI_eq
      clear hc
      cases c
      · rw [if_neg (of_decide_eq_false hc2.symm)] at hsucc
        clear hc2
        (repeat((conv=>whnf);first|apply ω0|apply ω1|apply ω2|refine τ3 rfl ?_|refine τ4 rfl ?_|refine ⟨rfl,?_⟩|apply τa|refine τb rfl ?_|refine ⟨⟨by kernel_rfl,by kernel_rfl⟩,?_⟩|refine ⟨by decide,?_⟩|apply τt|apply τf))
        exact back (i + 1, oi, nx3) ⟨hi, fun h => by dsimp only; rw [hsucc]; exact h4 h⟩ (by dsimp only; omega) (ele_tell (pm := pmOf (nmd oi) ((ofR l a (rs.take (i + 1))).length * 9)) _ _ rfl rfl (List.Sublist.refl _) (List.Sublist.refl _) trivial (by rw [hsucc]; exact PmEq_refl3 _) ⟨AVle.refl _, AVle.refl _, AVle.refl _, by dsimp only; rw [hsucc]; exact AVle.refl _, le_int (wrap_succ (by dsimp only; omega)), trivial⟩)
      · rw [if_pos (of_decide_eq_true hc2.symm)] at hsucc
        clear hc2
        have hlen : (ofR l a (rs.take (i + 1))).length = (ofR l a (rs.take i)).length + 1 := by rw [hsucc]; simp
        have hget : ∀ j, j < (ofR l a (rs.take i)).length → recA ((ofR l a (rs.take i)).getD j rec0) = recA ((ofR l a (rs.take (i + 1))).getD j rec0) := fun j hj => by rw [hsucc, sn_get hj]
        have hlast : recA (rs.getD i rec0) = recA ((ofR l a (rs.take (i + 1))).getD (ofR l a (rs.take i)).length rec0) := by rw [hsucc, sn_last]
        (repeat((conv=>whnf);first|apply ω0|apply ω1|apply ω2|refine τ3 rfl ?_|refine τ4 rfl ?_|refine ⟨rfl,?_⟩|apply τa|refine τb rfl ?_|refine ⟨⟨by kernel_rfl,by kernel_rfl⟩,?_⟩|refine ⟨by decide,?_⟩|apply τt|apply τf))
        refine ⟨⟨by first | omega | (dsimp only; omega), by first | omega | (dsimp only; omega)⟩, ?_⟩
        (repeat((conv=>whnf);first|apply ω0|apply ω1|apply ω2|refine τ3 rfl ?_|refine τ4 rfl ?_|refine ⟨rfl,?_⟩|apply τa|refine τb rfl ?_|refine ⟨⟨by kernel_rfl,by kernel_rfl⟩,?_⟩|refine ⟨by decide,?_⟩|apply τt|apply τf))
        cases oi with
        | none =>
          (repeat((conv=>whnf);first|apply ω0|apply ω1|apply ω2|refine τ3 rfl ?_|refine τ4 rfl ?_|refine ⟨rfl,?_⟩|apply τa|refine τb rfl ?_|refine ⟨⟨by kernel_rfl,by kernel_rfl⟩,?_⟩|refine ⟨by decide,?_⟩|apply τt|apply τf))
          refine ⟨oneRow_one rfl, by show ((ofR l a (rs.take i)).length + 1) * 64 ≤ _; omega, by dsimp only; omega, ?_⟩
          (repeat((conv=>whnf);first|apply ω0|apply ω1|apply ω2|refine τ3 rfl ?_|refine τ4 rfl ?_|refine ⟨rfl,?_⟩|apply τa|refine τb rfl ?_|refine ⟨⟨by kernel_rfl,by kernel_rfl⟩,?_⟩|refine ⟨by decide,?_⟩|apply τt|apply τf))
          exact back (i + 1, some nx3, nx3 + 1) ⟨hi, fun h => by cases h⟩ (by dsimp only; omega) (ele_tell (pm := [((0, nx3), (ofR l a (rs.take (i + 1))).length * 9)]) _ _ rfl rfl (List.Sublist.refl _) (List.Sublist.refl _) trivial (by rw [hlen]; exact ⟨rfl, rfl, trivial⟩) ⟨AVle.refl _, AVle.refl _, AVle.refl _, by dsimp only; rw [hlen]; exact (AVle.os_fun (appF_one hget hlast)).trans (AVle.os_nm rfl), le_int (wrap_succ (by dsimp only; omega)), trivial⟩)
        | some o1 =>
          (repeat((conv=>whnf);first|apply ω0|apply ω1|apply ω2|refine τ3 rfl ?_|refine τ4 rfl ?_|refine ⟨rfl,?_⟩|apply τa|refine τb rfl ?_|refine ⟨⟨by kernel_rfl,by kernel_rfl⟩,?_⟩|refine ⟨by decide,?_⟩|apply τt|apply τf))
          refine ⟨oneRow_one rfl, by show ((ofR l a (rs.take i)).length + 1) * 64 ≤ _; omega, by dsimp only; omega, ?_⟩
          (repeat((conv=>whnf);first|apply ω0|apply ω1|apply ω2|refine τ3 rfl ?_|refine τ4 rfl ?_|refine ⟨rfl,?_⟩|apply τa|refine τb rfl ?_|refine ⟨⟨by kernel_rfl,by kernel_rfl⟩,?_⟩|refine ⟨by decide,?_⟩|apply τt|apply τf))
          exact back (i + 1, some nx3, nx3 + 1) ⟨hi, fun h => by cases h⟩ (by dsimp only; omega) (ele_tell (pm := [((0, nx3), (ofR l a (rs.take (i + 1))).length * 9)]) _ _ rfl rfl (List.Sublist.refl _) (List.Sublist.refl _) trivial (by rw [hlen]; exact ⟨rfl, rfl, trivial⟩) ⟨AVle.refl _, AVle.refl _, AVle.refl _, by dsimp only; rw [hlen]; exact (AVle.os_fun (appF_one hget hlast)).trans (AVle.os_nm rfl), le_int (wrap_succ (by dsimp only; omega)), trivial⟩)
set_option maxHeartbeats 2000000 in
theorem arg26_spec (r : Rec) (k : Nat) (hk : k < 6) (hr : r.ok) : Tells Tryz.prog 32 [recA r, int k] (u64 (argR r k : Nat)) := by
  have hsel := ref08sel_spec r.arch r.num hr.2.1 hr.1
  have harg := ref08arg_spec (selI r.arch r.num) (r.arg k) (arg_lt hr k)
  unfold argR
  generalize selI r.arch r.num = s at hsel harg ⊢
  generalize hx : (if s = 2 then r.arg k % 4294967296 else r.arg k) = x at harg ⊢
  obtain rfl | rfl | rfl | rfl | rfl | rfl : k = 0 ∨ k = 1 ∨ k = 2 ∨ k = 3 ∨ k = 4 ∨ k = 5 := by omega
  · refine tells_of_aw Tryz.func32 rfl rfl fun nx => ?_
    (repeat((conv=>whnf);first|apply ω0|apply ω1|apply ω2|refine τ3 rfl ?_|refine τ4 rfl ?_|refine ⟨rfl,?_⟩|apply τa|refine τb rfl ?_|refine ⟨⟨by kernel_rfl,by kernel_rfl⟩,?_⟩|refine ⟨by decide,?_⟩|apply τt|apply τf))
    refine aw_mixN 11 _ (fun _ => false) (fun i => match i with | 4 => true | 7 => true | 9 => true | _ => false) [0, 1, 2, 3, 4, 5, 6, 7, 8, 9, 10] (by kernel_rfl) (by kernel_rfl) (HB.refl _) ?_
    (repeat((conv=>whnf);first|apply ω0|apply ω1|apply ω2|refine τ3 rfl ?_|refine τ4 rfl ?_|refine ⟨rfl,?_⟩|apply τa|refine τb rfl ?_|refine ⟨⟨by kernel_rfl,by kernel_rfl⟩,?_⟩|refine ⟨by decide,?_⟩|apply τt|apply τf))
    refine ⟨_, pure_tells rfl rfl rfl hsel ⟨AVle.refl _, AVle.refl _, trivial⟩ (NoId.v _), ?_⟩
    (repeat((conv=>whnf);first|apply ω0|apply ω1|apply ω2|refine τ3 rfl ?_|refine τ4 rfl ?_|refine ⟨rfl,?_⟩|apply τa|refine τb rfl ?_|refine ⟨⟨by kernel_rfl,by kernel_rfl⟩,?_⟩|refine ⟨by decide,?_⟩|apply τt|apply τf))
    refine ⟨_, pure_apure rfl rfl (show (0 : Int) ≤ ((0 : Nat) : Int) ∧ ((0 : Nat) : Int) < 6 from ⟨by decide, by decide⟩), splitV_to (b := .bp (0, nx) 3) (congrArg (AV.bp (0, nx)) (by rw [c_u64]; rfl)) ?_⟩
    (repeat((conv=>whnf);first|apply ω0|apply ω1|apply ω2|refine τ3 rfl ?_|refine τ4 rfl ?_|refine ⟨rfl,?_⟩|apply τa|refine τb rfl ?_|refine ⟨⟨by kernel_rfl,by kernel_rfl⟩,?_⟩|refine ⟨by decide,?_⟩|apply τt|apply τf))
    refine ⟨_, pure_tells rfl rfl rfl harg ⟨AVle.refl _, AVle.refl _, trivial⟩ (NoId.v _), ?_⟩
    (repeat((conv=>whnf);first|apply ω0|apply ω1|apply ω2|refine τ3 rfl ?_|refine τ4 rfl ?_|refine ⟨rfl,?_⟩|apply τa|refine τb rfl ?_|refine ⟨⟨by kernel_rfl,by kernel_rfl⟩,?_⟩|refine ⟨by decide,?_⟩|apply τt|apply τf))
    exact ret_tells rfl (AVle.refl _)
  · refine tells_of_aw Tryz.func32 rfl rfl fun nx => ?_
    (repeat((conv=>whnf);first|apply ω0|apply ω1|apply ω2|refine τ3 rfl ?_|refine τ4 rfl ?_|refine ⟨rfl,?_⟩|apply τa|refine τb rfl ?_|refine ⟨⟨by kernel_rfl,by kernel_rfl⟩,?_⟩|refine ⟨by decide,?_⟩|apply τt|apply τf))
    refine aw_mixN 11 _ (fun _ => false) (fun i => match i with | 4 => true | 7 => true | 9 => true | _ => false) [0, 1, 2, 3, 4, 5, 6, 7, 8, 9, 10] (by kernel_rfl) (by kernel_rfl) (HB.refl _) ?_
    (repeat((conv=>whnf);first|apply ω0|apply ω1|apply ω2|refine τ3 rfl ?_|refine τ4 rfl ?_|refine ⟨rfl,?_⟩|apply τa|refine τb rfl ?_|refine ⟨⟨by kernel_rfl,by kernel_rfl⟩,?_⟩|refine ⟨by decide,?_⟩|apply τt|apply τf))
    refine ⟨_, pure_tells rfl rfl rfl hsel ⟨AVle.refl _, AVle.refl _, trivial⟩ (NoId.v _), ?_⟩
    (repeat((conv=>whnf);first|apply ω0|apply ω1|apply ω2|refine τ3 rfl ?_|refine τ4 rfl ?_|refine ⟨rfl,?_⟩|apply τa|refine τb rfl ?_|refine ⟨⟨by kernel_rfl,by kernel_rfl⟩,?_⟩|refine ⟨by decide,?_⟩|apply τt|apply τf))
    refine ⟨_, pure_apure rfl rfl (show (0 : Int) ≤ ((1 : Nat) : Int) ∧ ((1 : Nat) : Int) < 6 from ⟨by decide, by decide⟩), splitV_to (b := .bp (0, nx) 4) (congrArg (AV.bp (0, nx)) (by rw [c_u64]; rfl)) ?_⟩
    (repeat((conv=>whnf);first|apply ω0|apply ω1|apply ω2|refine τ3 rfl ?_|refine τ4 rfl ?_|refine ⟨rfl,?_⟩|apply τa|refine τb rfl ?_|refine ⟨⟨by kernel_rfl,by kernel_rfl⟩,?_⟩|refine ⟨by decide,?_⟩|apply τt|apply τf))
    refine ⟨_, pure_tells rfl rfl rfl harg ⟨AVle.refl _, AVle.refl _, trivial⟩ (NoId.v _), ?_⟩
    (repeat((conv=>whnf);first|apply ω0|apply ω1|apply ω2|refine τ3 rfl ?_|refine τ4 rfl ?_|refine ⟨rfl,?_⟩|apply τa|refine τb rfl ?_|refine ⟨⟨by kernel_rfl,by kernel_rfl⟩,?_⟩|refine ⟨by decide,?_⟩|apply τt|apply τf))
    exact ret_tells rfl (AVle.refl _)
  · refine tells_of_aw Tryz.func32 rfl rfl fun nx => ?_
    (repeat((conv=>whnf);first|apply ω0|apply ω1|apply ω2|refine τ3 rfl ?_|refine τ4 rfl ?_|refine ⟨rfl,?_⟩|apply τa|refine τb rfl ?_|refine ⟨⟨by kernel_rfl,by kernel_rfl⟩,?_⟩|refine ⟨by decide,?_⟩|apply τt|apply τf))
    refine aw_mixN 11 _ (fun _ => false) (fun i => match i with | 4 => true | 7 => true | 9 => true | _ => false) [0, 1, 2, 3, 4, 5, 6, 7, 8, 9, 10] (by kernel_rfl) (by kernel_rfl) (HB.refl _) ?_
    (repeat((conv=>whnf);first|apply ω0|apply ω1|apply ω2|refine τ3 rfl ?_|refine τ4 rfl ?_|refine ⟨rfl,?_⟩|apply τa|refine τb rfl ?_|refine ⟨⟨by kernel_rfl,by kernel_rfl⟩,?_⟩|refine ⟨by decide,?_⟩|apply τt|apply τf))
    refine ⟨_, pure_tells rfl rfl rfl hsel ⟨AVle.refl _, AVle.refl _, trivial⟩ (NoId.v _), ?_⟩
    (repeat((conv=>whnf);first|apply ω0|apply ω1|apply ω2|refine τ3 rfl ?_|refine τ4 rfl ?_|refine ⟨rfl,?_⟩|apply τa|refine τb rfl ?_|refine ⟨⟨by kernel_rfl,by kernel_rfl⟩,?_⟩|refine ⟨by decide,?_⟩|apply τt|apply τf))
    refine ⟨_, pure_apure rfl rfl (show (0 : Int) ≤ ((2 : Nat) : Int) ∧ ((2 : Nat) : Int) < 6 from ⟨by decide, by decide⟩), splitV_to (b := .bp (0, nx) 5) (congrArg (AV.bp (0, nx)) (by rw [c_u64]; rfl)) ?_⟩
    (repeat((conv=>whnf);first|apply ω0|apply ω1|apply ω2|refine τ3 rfl ?_|refine τ4 rfl ?_|refine ⟨rfl,?_⟩|apply τa|refine τb rfl ?_|refine ⟨⟨by kernel_rfl,by kernel_rfl⟩,?_⟩|refine ⟨by decide,?_⟩|apply τt|apply τf))
    refine ⟨_, pure_tells rfl rfl rfl harg ⟨AVle.refl _, AVle.refl _, trivial⟩ (NoId.v _), ?_⟩
    (repeat((conv=>whnf);first|apply ω0|apply ω1|apply ω2|refine τ3 rfl ?_|refine τ4 rfl ?_|refine ⟨rfl,?_⟩|apply τa|refine τb rfl ?_|refine ⟨⟨by kernel_rfl,by kernel_rfl⟩,?_⟩|refine ⟨by decide,?_⟩|apply τt|apply τf))
    exact ret_tells rfl (AVle.refl _)
  · refine tells_of_aw Tryz.func32 rfl rfl fun nx => ?_
    (repeat((conv=>whnf);first|apply ω0|apply ω1|apply ω2|refine τ3 rfl ?_|refine τ4 rfl ?_|refine ⟨rfl,?_⟩|apply τa|refine τb rfl ?_|refine ⟨⟨by kernel_rfl,by kernel_rfl⟩,?_⟩|refine ⟨by decide,?_⟩|apply τt|apply τf))
    refine aw_mixN 11 _ (fun _ => false) (fun i => match i with | 4 => true | 7 => true | 9 => true | _ => false) [0, 1, 2, 3, 4, 5, 6, 7, 8, 9, 10] (by kernel_rfl) (by kernel_rfl) (HB.refl _) ?_
    (repeat((conv=>whnf);first|apply ω0|apply ω1|apply ω2|refine τ3 rfl ?_|refine τ4 rfl ?_|refine ⟨rfl,?_⟩|apply τa|refine τb rfl ?_|refine ⟨⟨by kernel_rfl,by kernel_rfl⟩,?_⟩|refine ⟨by decide,?_⟩|apply τt|apply τf))
    refine ⟨_, pure_tells rfl rfl rfl hsel ⟨AVle.refl _, AVle.refl _, trivial⟩ (NoId.v _), ?_⟩
    (repeat((conv=>whnf);first|apply ω0|apply ω1|apply ω2|refine τ3 rfl ?_|refine τ4 rfl ?_|refine ⟨rfl,?_⟩|apply τa|refine τb rfl ?_|refine ⟨⟨by kernel_rfl,by kernel_rfl⟩,?_⟩|refine ⟨by decide,?_⟩|apply τt|apply τf))
    refine ⟨_, pure_apure rfl rfl (show (0 : Int) ≤ ((3 : Nat) : Int) ∧ ((3 : Nat) : Int) < 6 from ⟨by decide, by decide⟩), splitV_to (b := .bp (0, nx) 6) (congrArg (AV.bp (0, nx)) (by rw [c_u64]; rfl)) ?_⟩
    (repeat((conv=>whnf);first|apply ω0|apply ω1|apply ω2|refine τ3 rfl ?_|refine τ4 rfl ?_|refine ⟨rfl,?_⟩|apply τa|refine τb rfl ?_|refine ⟨⟨by kernel_rfl,by kernel_rfl⟩,?_⟩|refine ⟨by decide,?_⟩|apply τt|apply τf))
    refine ⟨_, pure_tells rfl rfl rfl harg ⟨AVle.refl _, AVle.refl _, trivial⟩ (NoId.v _), ?_⟩
    (repeat((conv=>whnf);first|apply ω0|apply ω1|apply ω2|refine τ3 rfl ?_|refine τ4 rfl ?_|refine ⟨rfl,?_⟩|apply τa|refine τb rfl ?_|refine ⟨⟨by kernel_rfl,by kernel_rfl⟩,?_⟩|refine ⟨by decide,?_⟩|apply τt|apply τf))
    exact ret_tells rfl (AVle.refl _)
  · refine tells_of_aw Tryz.func32 rfl rfl fun nx => ?_
    (repeat((conv=>whnf);first|apply ω0|apply ω1|apply ω2|refine τ3 rfl ?_|refine τ4 rfl ?_|refine ⟨rfl,?_⟩|apply τa|refine τb rfl ?_|refine ⟨⟨by kernel_rfl,by kernel_rfl⟩,?_⟩|refine ⟨by decide,?_⟩|apply τt|apply τf))
    refine aw_mixN 11 _ (fun _ => false) (fun i => match i with | 4 => true | 7 => true | 9 => true | _ => false) [0, 1, 2, 3, 4, 5, 6, 7, 8, 9, 10] (by kernel_rfl) (by kernel_rfl) (HB.refl _) ?_
    (repeat((conv=>whnf);first|apply ω0|apply ω1|apply ω2|refine τ3 rfl ?_|refine τ4 rfl ?_|refine ⟨rfl,?_⟩|apply τa|refine τb rfl ?_|refine ⟨⟨by kernel_rfl,by kernel_rfl⟩,?_⟩|refine ⟨by decide,?_⟩|apply τt|apply τf))
    refine ⟨_, pure_tells rfl rfl rfl hsel ⟨AVle.refl _, AVle.refl _, trivial⟩ (NoId.v _), ?_⟩
    (repeat((conv=>whnf);first|apply ω0|apply ω1|apply ω2|refine τ3 rfl ?_|refine τ4 rfl ?_|refine ⟨rfl,?_⟩|apply τa|refine τb rfl ?_|refine ⟨⟨by kernel_rfl,by kernel_rfl⟩,?_⟩|refine ⟨by decide,?_⟩|apply τt|apply τf))
    refine ⟨_, pure_apure rfl rfl (show (0 : Int) ≤ ((4 : Nat) : Int) ∧ ((4 : Nat) : Int) < 6 from ⟨by decide, by decide⟩), splitV_to (b := .bp (0, nx) 7) (congrArg (AV.bp (0, nx)) (by rw [c_u64]; rfl)) ?_⟩
    (repeat((conv=>whnf);first|apply ω0|apply ω1|apply ω2|refine τ3 rfl ?_|refine τ4 rfl ?_|refine ⟨rfl,?_⟩|apply τa|refine τb rfl ?_|refine ⟨⟨by kernel_rfl,by kernel_rfl⟩,?_⟩|refine ⟨by decide,?_⟩|apply τt|apply τf))
    refine ⟨_, pure_tells rfl rfl rfl harg ⟨AVle.refl _, AVle.refl _, trivial⟩ (NoId.v _), ?_⟩
    (repeat((conv=>whnf);first|apply ω0|apply ω1|apply ω2|refine τ3 rfl ?_|refine τ4 rfl ?_|refine ⟨rfl,?_⟩|apply τa|refine τb rfl ?_|refine ⟨⟨by kernel_rfl,by kernel_rfl⟩,?_⟩|refine ⟨by decide,?_⟩|apply τt|apply τf))
    exact ret_tells rfl (AVle.refl _)
  · refine tells_of_aw Tryz.func32 rfl rfl fun nx => ?_
    (repeat((conv=>whnf);first|apply ω0|apply ω1|apply ω2|refine τ3 rfl ?_|refine τ4 rfl ?_|refine ⟨rfl,?_⟩|apply τa|refine τb rfl ?_|refine ⟨⟨by kernel_rfl,by kernel_rfl⟩,?_⟩|refine ⟨by decide,?_⟩|apply τt|apply τf))
    refine aw_mixN 11 _ (fun _ => false) (fun i => match i with | 4 => true | 7 => true | 9 => true | _ => false) [0, 1, 2, 3, 4, 5, 6, 7, 8, 9, 10] (by kernel_rfl) (by kernel_rfl) (HB.refl _) ?_
    (repeat((conv=>whnf);first|apply ω0|apply ω1|apply ω2|refine τ3 rfl ?_|refine τ4 rfl ?_|refine ⟨rfl,?_⟩|apply τa|refine τb rfl ?_|refine ⟨⟨by kernel_rfl,by kernel_rfl⟩,?_⟩|refine ⟨by decide,?_⟩|apply τt|apply τf))
    refine ⟨_, pure_tells rfl rfl rfl hsel ⟨AVle.refl _, AVle.refl _, trivial⟩ (NoId.v _), ?_⟩
    (repeat((conv=>whnf);first|apply ω0|apply ω1|apply ω2|refine τ3 rfl ?_|refine τ4 rfl ?_|refine ⟨rfl,?_⟩|apply τa|refine τb rfl ?_|refine ⟨⟨by kernel_rfl,by kernel_rfl⟩,?_⟩|refine ⟨by decide,?_⟩|apply τt|apply τf))
    refine ⟨_, pure_apure rfl rfl (show (0 : Int) ≤ ((5 : Nat) : Int) ∧ ((5 : Nat) : Int) < 6 from ⟨by decide, by decide⟩), splitV_to (b := .bp (0, nx) 8) (congrArg (AV.bp (0, nx)) (by rw [c_u64]; rfl)) ?_⟩
    (repeat((conv=>whnf);first|apply ω0|apply ω1|apply ω2|refine τ3 rfl ?_|refine τ4 rfl ?_|refine ⟨rfl,?_⟩|apply τa|refine τb rfl ?_|refine ⟨⟨by kernel_rfl,by kernel_rfl⟩,?_⟩|refine ⟨by decide,?_⟩|apply τt|apply τf))
    refine ⟨_, pure_tells rfl rfl rfl harg ⟨AVle.refl _, AVle.refl _, trivial⟩ (NoId.v _), ?_⟩
    (repeat((conv=>whnf);first|apply ω0|apply ω1|apply ω2|refine τ3 rfl ?_|refine τ4 rfl ?_|refine ⟨rfl,?_⟩|apply τa|refine τb rfl ?_|refine ⟨⟨by kernel_rfl,by kernel_rfl⟩,?_⟩|refine ⟨by decide,?_⟩|apply τt|apply τf))
    exact ret_tells rfl (AVle.refl _)
end Go.Proofs.W

namespace Go.Proofs.W
open Go.Vl
set_option maxRecDepth 100000

def muxBad (r : TRow) : Bool := decide (r.mux < 0) || (decide (2 < r.mux) || ((decide (r.mux = 0) && decide (r.sub ≠ 0)) || (decide (0 < r.mux) && (decide (r.sub < 1) || decide (255 < r.sub)))))
theorem ranged_eq (r : TRow) : rangedR r = (!badR r && !muxBad r) := by
  unfold rangedR
  congr 1
  unfold muxBad
  by_cases h : r.mux = 0
  · rw [if_pos h, h]; simp
  · rw [if_neg h, Bool.eq_iff_iff]; simp; omega
def clashN (r s : TRow) : Bool := [0, 1, 2, 3, 4].any fun a => decide (0 ≤ r.num a) && decide (s.num a = r.num a)
def clashM (r s : TRow) : Bool := decide (0 < r.mux) && (decide (s.mux = r.mux) && decide (s.sub = r.sub))
def clashB (l : List TRow) (i : Nat) : Bool := (l.take i).any fun s => clashN (l.getD i trow0) s || clashM (l.getD i trow0) s
def a2Bad (r : TRow) : Bool := decide (r.a2 = 102) || decide (r.a2 = 117)
def rowI (l : List TRow) (i : Nat) : Int := if nameB (l.getD i trow0).name.data.toList = false then 13 else if ordB l i then 15 else if badR (l.getD i trow0) then 16 else if muxBad (l.getD i trow0) then 16 else if a2Bad (l.getD i trow0) then 17 else if clashB l i then 15 else 0
theorem geq_leB (s t : ByteArray) : (!Op.bytesLess t.toList s.toList) = leB s t := by
  cases h : leB s t with
  | false =>
    have := leB_no h
    rw [Go.Proofs.bytesLess_eq, Lib.toList_data, Lib.toList_data]
    unfold Go.Sort.ltStr at this
    rw [this]; rfl
  | true =>
    unfold leB at h
    rw [Go.Proofs.bytesLess_eq, Lib.toList_data, Lib.toList_data] at h ⊢
    rw [Bool.or_eq_true, decide_eq_true_iff] at h
    rw [Bool.not_eq_true', decide_eq_false_iff_not]
    rcases h with h | h
    · exact fun k => absurd (List.lt_trans h k) (List.lt_irrefl _)
    · rw [beq_iff_eq] at h; rw [h]; exact List.lt_irrefl _
theorem rowI_13 {l : List TRow} {i : Nat} (h : nameB (l.getD i trow0).name.data.toList = false) : rowI l i = 13 := if_pos h
theorem rowI_ord {l : List TRow} {i : Nat} (h : nameB (l.getD i trow0).name.data.toList = true) : rowI l i = if ordB l i then 15 else if badR (l.getD i trow0) then 16 else if muxBad (l.getD i trow0) then 16 else if a2Bad (l.getD i trow0) then 17 else if clashB l i then 15 else 0 := if_neg (by rw [h]; decide)
theorem mux_tests (r : TRow) : muxBad r = (decide (r.mux < 0) || (decide (r.mux > 2) || (((r.mux == 0) && (r.sub != 0)) || (decide (r.mux > 0) && (decide (r.sub < 1) || decide (r.sub > 255)))))) := by
  unfold muxBad
  rw [show (r.mux == 0) = decide (r.mux = 0) by rw [Bool.eq_iff_iff]; simp, show (r.sub != 0) = decide (r.sub ≠ 0) by rw [Bool.eq_iff_iff]; simp]
theorem a2_tests (r : TRow) : a2Bad r = ((r.a2 == 102) || (r.a2 == 117)) := by
  unfold a2Bad
  rw [show (r.a2 == 102) = decide (r.a2 = 102) by rw [Bool.eq_iff_iff]; simp, show (r.a2 == 117) = decide (r.a2 = 117) by rw [Bool.eq_iff_iff]; simp]
theorem clash_true {l : List TRow} {i k : Nat} {r : TRow} (hr : l.getD i trow0 = r) (hk : k < i) (hi : i < l.length) (h : (clashN r (l.getD k trow0) || clashM r (l.getD k trow0)) = true) : clashB l i = true := by
  unfold clashB
  rw [hr, List.any_eq_true]
  refine ⟨l.getD k trow0, ?_, h⟩
  rw [List.mem_iff_getElem]
  exact ⟨k, by rw [List.length_take]; omega, by rw [List.getElem_take]; simp [List.getD, show k < l.length by omega]⟩
theorem clash_false {l : List TRow} {i : Nat} {r : TRow} (hr : l.getD i trow0 = r) (hi : i ≤ l.length) (h : ∀ k, k < i → (clashN r (l.getD k trow0) || clashM r (l.getD k trow0)) = false) : clashB l i = false := by
  unfold clashB
  rw [hr, List.any_eq_false]
  intro s hs
  obtain ⟨k, hk, rfl⟩ := List.mem_iff_getElem.1 hs
  rw [List.length_take] at hk
  have := h k (by omega)
  rw [List.getElem_take]
  simp [List.getD, show k < l.length by omega] at this ⊢
  exact this
def cN (r s : TRow) (a : Nat) : Bool := decide (r.num a ≥ 0) && decide (s.num a = r.num a)
theorem clashN_true {r s : TRow} {a : Nat} (ha : a < 5) (h : cN r s a = true) : clashN r s = true := by
  unfold clashN
  rw [List.any_eq_true]
  exact ⟨a, by simp; omega, h⟩
theorem clashN_false {r s : TRow} (h : ∀ a, a < 5 → cN r s a = false) : clashN r s = false := by
  unfold clashN
  rw [List.any_eq_false]
  intro a ha
  rw [show (decide (0 ≤ r.num a) && decide (s.num a = r.num a)) = cN r s a from rfl, h a (by simp at ha; omega)]
  decide
theorem clashM_tests (r s : TRow) : clashM r s = (decide (r.mux > 0) && ((s.mux == r.mux) && (s.sub == r.sub))) := by
  unfold clashM
  rw [show (s.mux == r.mux) = decide (s.mux = r.mux) by rw [Bool.eq_iff_iff]; simp, show (s.sub == r.sub) = decide (s.sub = r.sub) by rw [Bool.eq_iff_iff]; simp]
theorem bad_some {r : TRow} {k : Nat} (hk : k < 5) (h : true = badN (r.num k)) : badR r = true := by
  rcases (by omega : k = 0 ∨ k = 1 ∨ k = 2 ∨ k = 3 ∨ k = 4) with rfl | rfl | rfl | rfl | rfl
  all_goals
    have h' : badN (r.num _) = true := h.symm
    simp only [TRow.num] at h'
    simp [badR, h']
theorem bad_none {r : TRow} (h : ∀ j, j < 5 → badN (r.num j) = false) : badR r = false := by
  have h0 := h 0 (by decide)
  have h1 := h 1 (by decide)
  have h2 := h 2 (by decide)
  have h3 := h 3 (by decide)
  have h4 := h 4 (by decide)
  simp only [TRow.num] at h0 h1 h2 h3 h4
  simp [badR, h0, h1, h2, h3, h4]
set_option maxHeartbeats 8000000 in
theorem ref11row_spec (l : List TRow) (i : Nat) (hi : i < l.length) (hl : l.length ≤ 1000000) : Tells Tryz.prog 22 [trows l, int i] (int (rowI l i)) := by
  have hnm := name11_spec (l.getD i trow0).name
  cases hb : nameB (l.getD i trow0).name.data.toList with
  | false =>
    rw [hb] at hnm
    rw [rowI_13 hb]
    refine tells_of_aw Tryz.func22 rfl rfl fun nx => ?_
    (repeat((conv=>whnf);first|apply ω0|apply ω1|apply ω2|refine τ3 rfl ?_|refine τ4 rfl ?_|refine ⟨rfl,?_⟩|apply τa|refine τb rfl ?_|refine ⟨⟨by kernel_rfl,by kernel_rfl⟩,?_⟩|refine ⟨by decide,?_⟩|apply τt|apply τf))
    refine ⟨⟨by first | omega | (dsimp only; omega), by first | omega | (dsimp only; omega)⟩, ?_⟩
    (repeat((conv=>whnf);first|apply ω0|apply ω1|apply ω2|refine τ3 rfl ?_|refine τ4 rfl ?_|refine ⟨rfl,?_⟩|apply τa|refine τb rfl ?_|refine ⟨⟨by kernel_rfl,by kernel_rfl⟩,?_⟩|refine ⟨by decide,?_⟩|apply τt|apply τf))
    refine aop_tells rfl rfl hnm ⟨AVle.refl _, trivial⟩ fun nx2 => ?_
    (repeat((conv=>whnf);first|apply ω0|apply ω1|apply ω2|refine τ3 rfl ?_|refine τ4 rfl ?_|refine ⟨rfl,?_⟩|apply τa|refine τb rfl ?_|refine ⟨⟨by kernel_rfl,by kernel_rfl⟩,?_⟩|refine ⟨by decide,?_⟩|apply τt|apply τf))
    exact ret_tells rfl (AVle.refl _)
  | true =>
    rw [hb] at hnm
    rw [rowI_ord hb]
    refine tells_of_aw Tryz.func22 rfl rfl fun nx => ?_
    (repeat((conv=>whnf);first|apply ω0|apply ω1|apply ω2|refine τ3 rfl ?_|refine τ4 rfl ?_|refine ⟨rfl,?_⟩|apply τa|refine τb rfl ?_|refine ⟨⟨by kernel_rfl,by kernel_rfl⟩,?_⟩|refine ⟨by decide,?_⟩|apply τt|apply τf))
    refine ⟨⟨by first | omega | (dsimp only; omega), by first | omega | (dsimp only; omega)⟩, ?_⟩
    (repeat((conv=>whnf);first|apply ω0|apply ω1|apply ω2|refine τ3 rfl ?_|refine τ4 rfl ?_|refine ⟨rfl,?_⟩|apply τa|refine τb rfl ?_|refine ⟨⟨by kernel_rfl,by kernel_rfl⟩,?_⟩|refine ⟨by decide,?_⟩|apply τt|apply τf))
    refine aop_tells rfl rfl hnm ⟨AVle.refl _, trivial⟩ fun nx2 => ?_
    (repeat((conv=>whnf);first|apply ω0|apply ω1|apply ω2|refine τ3 rfl ?_|refine τ4 rfl ?_|refine ⟨rfl,?_⟩|apply τa|refine τb rfl ?_|refine ⟨⟨by kernel_rfl,by kernel_rfl⟩,?_⟩|refine ⟨by decide,?_⟩|apply τt|apply τf))
    refine aw_mid (fun y : Nat => mk 140 [(0, trows l), (1, int i), (5, .bp (0, nx) 0), (29, boolA (ordB l i))] ⟨[((0, nx), .c (trowC (l.getD i trow0)))], [], y, 1⟩) (fun _ => True) ?_ ?_
    · by_cases h0 : 0 < i
      · have hd : decide ((i : Int) > 0) = true := decide_eq_true (by omega)
        have hi1 : IntKind.i64.wrap ((i : Int) - 1) = ((i - 1 : Nat) : Int) := by rw [wrap_id (by omega) (by omega)]; omega
        (refine aw_draw 13 ?_ ?_ ?_ ?_; (· kernel_rfl); (· kernel_rfl); (· kernel_rfl))
        (repeat((conv=>whnf);first|apply ω0|apply ω1|apply ω2|refine τ3 rfl ?_|refine τ4 rfl ?_|refine ⟨rfl,?_⟩|apply τa|refine τb rfl ?_|refine ⟨⟨by kernel_rfl,by kernel_rfl⟩,?_⟩|refine ⟨by decide,?_⟩|apply τt|apply τf))
        (conv => whnf)
        refine lit_eq hd ?_
        (repeat((conv=>whnf);first|apply ω0|apply ω1|apply ω2|refine τ3 rfl ?_|refine τ4 rfl ?_|refine ⟨rfl,?_⟩|apply τa|refine τb rfl ?_|refine ⟨⟨by kernel_rfl,by kernel_rfl⟩,?_⟩|refine ⟨by decide,?_⟩|apply τt|apply τf))
        refine ⟨⟨ixge (i := i - 1) hi1, ixlt (i := i - 1) hi1 (by omega)⟩, splitO_eq (b := .rp (trowC (l.getD (i - 1) trow0))) (congrArg (fun z : Int => AV.rp (trowC (l.getD z.toNat trow0))) hi1) ?_⟩
        (repeat((conv=>whnf);first|apply ω0|apply ω1|apply ω2|refine τ3 rfl ?_|refine τ4 rfl ?_|refine ⟨rfl,?_⟩|apply τa|refine τb rfl ?_|refine ⟨⟨by kernel_rfl,by kernel_rfl⟩,?_⟩|refine ⟨by decide,?_⟩|apply τt|apply τf))
        intro c hc
        have hc2 : c = ordB l i := hc.trans (by unfold ordB; rw [decide_eq_true h0, Bool.true_and]; exact geq_leB _ _)
        clear hc
        rw [← hc2]
        (repeat((conv=>whnf);first|apply ω0|apply ω1|apply ω2|refine τ3 rfl ?_|refine τ4 rfl ?_|refine ⟨rfl,?_⟩|apply τa|refine τb rfl ?_|refine ⟨⟨by kernel_rfl,by kernel_rfl⟩,?_⟩|refine ⟨by decide,?_⟩|apply τt|apply τf))
        exact ⟨nx2, trivial, ele_tell (pm := []) _ [] rfl rfl (List.Sublist.refl _) (List.Sublist.refl _) (BxLe.refl _) trivial ⟨AVle.refl _, AVle.refl _, AVle.refl _, AVle.refl _, trivial⟩⟩
      · have hd : decide ((i : Int) > 0) = false := decide_eq_false (by omega)
        have ho : ordB l i = false := by unfold ordB; rw [decide_eq_false h0]; rfl
        rw [ho]
        (refine aw_draw 13 ?_ ?_ ?_ ?_; (· kernel_rfl); (· kernel_rfl); (· kernel_rfl))
        (repeat((conv=>whnf);first|apply ω0|apply ω1|apply ω2|refine τ3 rfl ?_|refine τ4 rfl ?_|refine ⟨rfl,?_⟩|apply τa|refine τb rfl ?_|refine ⟨⟨by kernel_rfl,by kernel_rfl⟩,?_⟩|refine ⟨by decide,?_⟩|apply τt|apply τf))
        (conv => whnf)
        refine lit_eq hd ?_
        (repeat((conv=>whnf);first|apply ω0|apply ω1|apply ω2|refine τ3 rfl ?_|refine τ4 rfl ?_|refine ⟨rfl,?_⟩|apply τa|refine τb rfl ?_|refine ⟨⟨by kernel_rfl,by kernel_rfl⟩,?_⟩|refine ⟨by decide,?_⟩|apply τt|apply τf))
        exact ⟨nx2, trivial, ele_tell (pm := []) _ [] rfl rfl (List.Sublist.refl _) (List.Sublist.refl _) (BxLe.refl _) trivial ⟨AVle.refl _, AVle.refl _, AVle.refl _, AVle.refl _, trivial⟩⟩
    · rintro nx3 -
      cases ho : ordB l i with
      | true =>
        rw [if_pos rfl]
        (repeat((conv=>whnf);first|apply ω0|apply ω1|apply ω2|refine τ3 rfl ?_|refine τ4 rfl ?_|refine ⟨rfl,?_⟩|apply τa|refine τb rfl ?_|refine ⟨⟨by kernel_rfl,by kernel_rfl⟩,?_⟩|refine ⟨by decide,?_⟩|apply τt|apply τf))
        exact ret_tells rfl (AVle.refl _)
      | false =>
        rw [if_neg (by decide)]
        generalize hrr : l.getD i trow0 = r
        (repeat((conv=>whnf);first|apply ω0|apply ω1|apply ω2|refine τ3 rfl ?_|refine τ4 rfl ?_|refine ⟨rfl,?_⟩|apply τa|refine τb rfl ?_|refine ⟨⟨by kernel_rfl,by kernel_rfl⟩,?_⟩|refine ⟨by decide,?_⟩|apply τt|apply τf))
        refine aw_loop (fun y : Nat × Nat => mk 140 [(0, trows l), (1, int i), (5, .bp (0, nx) 0), (6, int y.1)] ⟨[((0, nx), .c (trowC r))], [], y.2, 1⟩) (fun y => y.1 ≤ 5 ∧ ∀ j, j < y.1 → badN (r.num j) = false) (fun y => 5 - y.1) ?_ ?_
        · exact ⟨(0, nx3), ⟨Nat.zero_le _, fun j h => absurd h (Nat.not_lt_zero _)⟩, ele_tell (pm := []) _ [] rfl rfl (List.Sublist.refl _) (List.Sublist.refl _) (BxLe.refl _) trivial ⟨AVle.refl _, AVle.refl _, AVle.refl _, AVle.refl _, trivial⟩⟩
        · rintro ⟨a, nx4⟩ ⟨h3, h4⟩
          dsimp only at h3 h4
          obtain rfl | rfl | rfl | rfl | rfl | rfl : a = 0 ∨ a = 1 ∨ a = 2 ∨ a = 3 ∨ a = 4 ∨ a = 5 := by omega
          · have hbk : badN (r.num 0) = (decide (r.a0 < -1) || decide (r.a0 > 1073741823)) := rfl
            (repeat((conv=>whnf);first|apply ω0|apply ω1|apply ω2|refine τ3 rfl ?_|refine τ4 rfl ?_|refine ⟨rfl,?_⟩|apply τa|refine τb rfl ?_|refine ⟨⟨by kernel_rfl,by kernel_rfl⟩,?_⟩|refine ⟨by decide,?_⟩|apply τt|apply τf))
            refine ⟨⟨Int.natCast_nonneg _, show ((0 : Nat) : Int) < 5 by decide⟩, splitO_eq (b := .bp (0, nx) (1 + 0)) (congrArg (AV.bp (0, nx)) (by rw [c_intT]; rfl)) ?_⟩
            (repeat((conv=>whnf);first|apply ω0|apply ω1|apply ω2|refine τ3 rfl ?_|refine τ4 rfl ?_|refine ⟨rfl,?_⟩|apply τa|refine τb rfl ?_|refine ⟨⟨by kernel_rfl,by kernel_rfl⟩,?_⟩|refine ⟨by decide,?_⟩|apply τt|apply τf))
            intro c hc
            have hc2 : c = decide (r.a0 < -1) := hc
            clear hc
            rw [← hc2] at hbk
            clear hc2
            cases c
            · (repeat((conv=>whnf);first|apply ω0|apply ω1|apply ω2|refine τ3 rfl ?_|refine τ4 rfl ?_|refine ⟨rfl,?_⟩|apply τa|refine τb rfl ?_|refine ⟨⟨by kernel_rfl,by kernel_rfl⟩,?_⟩|refine ⟨by decide,?_⟩|apply τt|apply τf))
              refine ⟨⟨Int.natCast_nonneg _, show ((0 : Nat) : Int) < 5 by decide⟩, splitO_eq (b := .bp (0, nx) (1 + 0)) (congrArg (AV.bp (0, nx)) (by rw [c_intT]; rfl)) ?_⟩
              (repeat((conv=>whnf);first|apply ω0|apply ω1|apply ω2|refine τ3 rfl ?_|refine τ4 rfl ?_|refine ⟨rfl,?_⟩|apply τa|refine τb rfl ?_|refine ⟨⟨by kernel_rfl,by kernel_rfl⟩,?_⟩|refine ⟨by decide,?_⟩|apply τt|apply τf))
              intro c hc
              have hc2 : c = decide (r.a0 > 1073741823) := hc
              clear hc
              rw [← hc2, Bool.false_or] at hbk
              clear hc2
              cases c
              · (repeat((conv=>whnf);first|apply ω0|apply ω1|apply ω2|refine τ3 rfl ?_|refine τ4 rfl ?_|refine ⟨rfl,?_⟩|apply τa|refine τb rfl ?_|refine ⟨⟨by kernel_rfl,by kernel_rfl⟩,?_⟩|refine ⟨by decide,?_⟩|apply τt|apply τf))
                exact back (0 + 1, nx4) ⟨by dsimp only; omega, fun j hj => by dsimp only at hj; rcases Nat.lt_or_ge j 0 with q | q; exact h4 j q; rw [show j = 0 by omega]; exact hbk⟩ (by dsimp only; omega) (ele_tell (pm := []) _ [] rfl rfl (List.Sublist.refl _) (List.Sublist.refl _) (BxLe.refl _) trivial ⟨AVle.refl _, AVle.refl _, AVle.refl _, AVle.refl _, trivial⟩)
              · rw [bad_some (k := 0) (by decide) hbk.symm]
                (repeat((conv=>whnf);first|apply ω0|apply ω1|apply ω2|refine τ3 rfl ?_|refine τ4 rfl ?_|refine ⟨rfl,?_⟩|apply τa|refine τb rfl ?_|refine ⟨⟨by kernel_rfl,by kernel_rfl⟩,?_⟩|refine ⟨by decide,?_⟩|apply τt|apply τf))
                exact ret_tells rfl (AVle.refl _)
            · rw [Bool.true_or] at hbk
              rw [bad_some (k := 0) (by decide) hbk.symm]
              (repeat((conv=>whnf);first|apply ω0|apply ω1|apply ω2|refine τ3 rfl ?_|refine τ4 rfl ?_|refine ⟨rfl,?_⟩|apply τa|refine τb rfl ?_|refine ⟨⟨by kernel_rfl,by kernel_rfl⟩,?_⟩|refine ⟨by decide,?_⟩|apply τt|apply τf))
              exact ret_tells rfl (AVle.refl _)
          · have hbk : badN (r.num 1) = (decide (r.a1 < -1) || decide (r.a1 > 1073741823)) := rfl
            (repeat((conv=>whnf);first|apply ω0|apply ω1|apply ω2|refine τ3 rfl ?_|refine τ4 rfl ?_|refine ⟨rfl,?_⟩|apply τa|refine τb rfl ?_|refine ⟨⟨by kernel_rfl,by kernel_rfl⟩,?_⟩|refine ⟨by decide,?_⟩|apply τt|apply τf))
            refine ⟨⟨Int.natCast_nonneg _, show ((1 : Nat) : Int) < 5 by decide⟩, splitO_eq (b := .bp (0, nx) (1 + 1)) (congrArg (AV.bp (0, nx)) (by rw [c_intT]; rfl)) ?_⟩
            (repeat((conv=>whnf);first|apply ω0|apply ω1|apply ω2|refine τ3 rfl ?_|refine τ4 rfl ?_|refine ⟨rfl,?_⟩|apply τa|refine τb rfl ?_|refine ⟨⟨by kernel_rfl,by kernel_rfl⟩,?_⟩|refine ⟨by decide,?_⟩|apply τt|apply τf))
            intro c hc
            have hc2 : c = decide (r.a1 < -1) := hc
            clear hc
            rw [← hc2] at hbk
            clear hc2
            cases c
            · (repeat((conv=>whnf);first|apply ω0|apply ω1|apply ω2|refine τ3 rfl ?_|refine τ4 rfl ?_|refine ⟨rfl,?_⟩|apply τa|refine τb rfl ?_|refine ⟨⟨by kernel_rfl,by kernel_rfl⟩,?_⟩|refine ⟨by decide,?_⟩|apply τt|apply τf))
              refine ⟨⟨Int.natCast_nonneg _, show ((1 : Nat) : Int) < 5 by decide⟩, splitO_eq (b := .bp (0, nx) (1 + 1)) (congrArg (AV.bp (0, nx)) (by rw [c_intT]; rfl)) ?_⟩
              (repeat((conv=>whnf);first|apply ω0|apply ω1|apply ω2|refine τ3 rfl ?_|refine τ4 rfl ?_|refine ⟨rfl,?_⟩|apply τa|refine τb rfl ?_|refine ⟨⟨by kernel_rfl,by kernel_rfl⟩,?_⟩|refine ⟨by decide,?_⟩|apply τt|apply τf))
              intro c hc
              have hc2 : c = decide (r.a1 > 1073741823) := hc
              clear hc
              rw [← hc2, Bool.false_or] at hbk
              clear hc2
              cases c
              · (repeat((conv=>whnf);first|apply ω0|apply ω1|apply ω2|refine τ3 rfl ?_|refine τ4 rfl ?_|refine ⟨rfl,?_⟩|apply τa|refine τb rfl ?_|refine ⟨⟨by kernel_rfl,by kernel_rfl⟩,?_⟩|refine ⟨by decide,?_⟩|apply τt|apply τf))
                exact back (1 + 1, nx4) ⟨by dsimp only; omega, fun j hj => by dsimp only at hj; rcases Nat.lt_or_ge j 1 with q | q; exact h4 j q; rw [show j = 1 by omega]; exact hbk⟩ (by dsimp only; omega) (ele_tell (pm := []) _ [] rfl rfl (List.Sublist.refl _) (List.Sublist.refl _) (BxLe.refl _) trivial ⟨AVle.refl _, AVle.refl _, AVle.refl _, AVle.refl _, trivial⟩)
              · rw [bad_some (k := 1) (by decide) hbk.symm]
                (repeat((conv=>whnf);first|apply ω0|apply ω1|apply ω2|refine τ3 rfl ?_|refine τ4 rfl ?_|refine ⟨rfl,?_⟩|apply τa|refine τb rfl ?_|refine ⟨⟨by kernel_rfl,by kernel_rfl⟩,?_⟩|refine ⟨by decide,?_⟩|apply τt|apply τf))
                exact ret_tells rfl (AVle.refl _)
            · rw [Bool.true_or] at hbk
              rw [bad_some (k := 1) (by decide) hbk.symm]
              (repeat((conv=>whnf);first|apply ω0|apply ω1|apply ω2|refine τ3 rfl ?_|refine τ4 rfl ?_|refine ⟨rfl,?_⟩|apply τa|refine τb rfl ?_|refine ⟨⟨by kernel_rfl,by kernel_rfl⟩,?_⟩|refine ⟨by decide,?_⟩|apply τt|apply τf))
              exact ret_tells rfl (AVle.refl _)
          · have hbk : badN (r.num 2) = (decide (r.a2 < -1) || decide (r.a2 > 1073741823)) := rfl
            (repeat((conv=>whnf);first|apply ω0|apply ω1|apply ω2|refine τ3 rfl ?_|refine τ4 rfl ?_|refine ⟨rfl,?_⟩|apply τa|refine τb rfl ?_|refine ⟨⟨by kernel_rfl,by kernel_rfl⟩,?_⟩|refine ⟨by decide,?_⟩|apply τt|apply τf))
            refine ⟨⟨Int.natCast_nonneg _, show ((2 : Nat) : Int) < 5 by decide⟩, splitO_eq (b := .bp (0, nx) (1 + 2)) (congrArg (AV.bp (0, nx)) (by rw [c_intT]; rfl)) ?_⟩
            (repeat((conv=>whnf);first|apply ω0|apply ω1|apply ω2|refine τ3 rfl ?_|refine τ4 rfl ?_|refine ⟨rfl,?_⟩|apply τa|refine τb rfl ?_|refine ⟨⟨by kernel_rfl,by kernel_rfl⟩,?_⟩|refine ⟨by decide,?_⟩|apply τt|apply τf))
            intro c hc
            have hc2 : c = decide (r.a2 < -1) := hc
            clear hc
            rw [← hc2] at hbk
            clear hc2
            cases c
            · (repeat((conv=>whnf);first|apply ω0|apply ω1|apply ω2|refine τ3 rfl ?_|refine τ4 rfl ?_|refine ⟨rfl,?_⟩|apply τa|refine τb rfl ?_|refine ⟨⟨by kernel_rfl,by kernel_rfl⟩,?_⟩|refine ⟨by decide,?_⟩|apply τt|apply τf))
              refine ⟨⟨Int.natCast_nonneg _, show ((2 : Nat) : Int) < 5 by decide⟩, splitO_eq (b := .bp (0, nx) (1 + 2)) (congrArg (AV.bp (0, nx)) (by rw [c_intT]; rfl)) ?_⟩
              (repeat((conv=>whnf);first|apply ω0|apply ω1|apply ω2|refine τ3 rfl ?_|refine τ4 rfl ?_|refine ⟨rfl,?_⟩|apply τa|refine τb rfl ?_|refine ⟨⟨by kernel_rfl,by kernel_rfl⟩,?_⟩|refine ⟨by decide,?_⟩|apply τt|apply τf))
              intro c hc
              have hc2 : c = decide (r.a2 > 1073741823) := hc
              clear hc
              rw [← hc2, Bool.false_or] at hbk
              clear hc2
              cases c
              · (repeat((conv=>whnf);first|apply ω0|apply ω1|apply ω2|refine τ3 rfl ?_|refine τ4 rfl ?_|refine ⟨rfl,?_⟩|apply τa|refine τb rfl ?_|refine ⟨⟨by kernel_rfl,by kernel_rfl⟩,?_⟩|refine ⟨by decide,?_⟩|apply τt|apply τf))
                exact back (2 + 1, nx4) ⟨by dsimp only; omega, fun j hj => by dsimp only at hj; rcases Nat.lt_or_ge j 2 with q | q; exact h4 j q; rw [show j = 2 by omega]; exact hbk⟩ (by dsimp only; omega) (ele_tell (pm := []) _ [] rfl rfl (List.Sublist.refl _) (List.Sublist.refl _) (BxLe.refl _) trivial ⟨AVle.refl _, AVle.refl _, AVle.refl _, AVle.refl _, trivial⟩)
              · rw [bad_some (k := 2) (by decide) hbk.symm]
                (repeat((conv=>whnf);first|apply ω0|apply ω1|apply ω2|refine τ3 rfl ?_|refine τ4 rfl ?_|refine ⟨rfl,?_⟩|apply τa|refine τb rfl ?_|refine ⟨⟨by kernel_rfl,by kernel_rfl⟩,?_⟩|refine ⟨by decide,?_⟩|apply τt|apply τf))
                exact ret_tells rfl (AVle.refl _)
            · rw [Bool.true_or] at hbk
              rw [bad_some (k := 2) (by decide) hbk.symm]
              (repeat((conv=>whnf);first|apply ω0|apply ω1|apply ω2|refine τ3 rfl ?_|refine τ4 rfl ?_|refine ⟨rfl,?_⟩|apply τa|refine τb rfl ?_|refine ⟨⟨by kernel_rfl,by kernel_rfl⟩,?_⟩|refine ⟨by decide,?_⟩|apply τt|apply τf))
              exact ret_tells rfl (AVle.refl _)
          · have hbk : badN (r.num 3) = (decide (r.a3 < -1) || decide (r.a3 > 1073741823)) := rfl
            (repeat((conv=>whnf);first|apply ω0|apply ω1|apply ω2|refine τ3 rfl ?_|refine τ4 rfl ?_|refine ⟨rfl,?_⟩|apply τa|refine τb rfl ?_|refine ⟨⟨by kernel_rfl,by kernel_rfl⟩,?_⟩|refine ⟨by decide,?_⟩|apply τt|apply τf))
            refine ⟨⟨Int.natCast_nonneg _, show ((3 : Nat) : Int) < 5 by decide⟩, splitO_eq (b := .bp (0, nx) (1 + 3)) (congrArg (AV.bp (0, nx)) (by rw [c_intT]; rfl)) ?_⟩
            (repeat((conv=>whnf);first|apply ω0|apply ω1|apply ω2|refine τ3 rfl ?_|refine τ4 rfl ?_|refine ⟨rfl,?_⟩|apply τa|refine τb rfl ?_|refine ⟨⟨by kernel_rfl,by kernel_rfl⟩,?_⟩|refine ⟨by decide,?_⟩|apply τt|apply τf))
            intro c hc
            have hc2 : c = decide (r.a3 < -1) := hc
            clear hc
            rw [← hc2] at hbk
            clear hc2
            cases c
            · (repeat((conv=>whnf);first|apply ω0|apply ω1|apply ω2|refine τ3 rfl ?_|refine τ4 rfl ?_|refine ⟨rfl,?_⟩|apply τa|refine τb rfl ?_|refine ⟨⟨by kernel_rfl,by kernel_rfl⟩,?_⟩|refine ⟨by decide,?_⟩|apply τt|apply τf))
              refine ⟨⟨Int.natCast_nonneg _, show ((3 : Nat) : Int) < 5 by decide⟩, splitO_eq (b := .bp (0, nx) (1 + 3)) (congrArg (AV.bp (0, nx)) (by rw [c_intT]; rfl)) ?_⟩
              (repeat((conv=>whnf);first|apply ω0|apply ω1|apply ω2|refine τ3 rfl ?_|refine τ4 rfl ?_|refine ⟨rfl,?_⟩|apply τa|refine τb rfl ?_|refine ⟨⟨by kernel_rfl,by kernel_rfl⟩,?_⟩|refine ⟨by decide,?_⟩|apply τt|apply τf))
              intro c hc
              have hc2 : c = decide (r.a3 > 1073741823) := hc
              clear hc
              rw [← hc2, Bool.false_or] at hbk
              clear hc2
              cases c
              · (repeat((conv=>whnf);first|apply ω0|apply ω1|apply ω2|refine τ3 rfl ?_|refine τ4 rfl ?_|refine ⟨rfl,?_⟩|apply τa|refine τb rfl ?_|refine ⟨⟨by kernel_rfl,by kernel_rfl⟩,?_⟩|refine ⟨by decide,?_⟩|apply τt|apply τf))
                exact back (3 + 1, nx4) ⟨by dsimp only; omega, fun j hj => by dsimp only at hj; rcases Nat.lt_or_ge j 3 with q | q; exact h4 j q; rw [show j = 3 by omega]; exact hbk⟩ (by dsimp only; omega) (ele_tell (pm := []) _ [] rfl rfl (List.Sublist.refl _) (List.Sublist.refl _) (BxLe.refl _) trivial ⟨AVle.refl _, AVle.refl _, AVle.refl _, AVle.refl _, trivial⟩)
              · rw [bad_some (k := 3) (by decide) hbk.symm]
                (repeat((conv=>whnf);first|apply ω0|apply ω1|apply ω2|refine τ3 rfl ?_|refine τ4 rfl ?_|refine ⟨rfl,?_⟩|apply τa|refine τb rfl ?_|refine ⟨⟨by kernel_rfl,by kernel_rfl⟩,?_⟩|refine ⟨by decide,?_⟩|apply τt|apply τf))
                exact ret_tells rfl (AVle.refl _)
            · rw [Bool.true_or] at hbk
              rw [bad_some (k := 3) (by decide) hbk.symm]
              (repeat((conv=>whnf);first|apply ω0|apply ω1|apply ω2|refine τ3 rfl ?_|refine τ4 rfl ?_|refine ⟨rfl,?_⟩|apply τa|refine τb rfl ?_|refine ⟨⟨by kernel_rfl,by kernel_rfl⟩,?_⟩|refine ⟨by decide,?_⟩|apply τt|apply τf))
              exact ret_tells rfl (AVle.refl _)
          · have hbk : badN (r.num 4) = (decide (r.a4 < -1) || decide (r.a4 > 1073741823)) := rfl
            (repeat((conv=>whnf);first|apply ω0|apply ω1|apply ω2|refine τ3 rfl ?_|refine τ4 rfl ?_|refine ⟨rfl,?_⟩|apply τa|refine τb rfl ?_|refine ⟨⟨by kernel_rfl,by kernel_rfl⟩,?_⟩|refine ⟨by decide,?_⟩|apply τt|apply τf))
            refine ⟨⟨Int.natCast_nonneg _, show ((4 : Nat) : Int) < 5 by decide⟩, splitO_eq (b := .bp (0, nx) (1 + 4)) (congrArg (AV.bp (0, nx)) (by rw [c_intT]; rfl)) ?_⟩
            (repeat((conv=>whnf);first|apply ω0|apply ω1|apply ω2|refine τ3 rfl ?_|refine τ4 rfl ?_|refine ⟨rfl,?_⟩|apply τa|refine τb rfl ?_|refine ⟨⟨by kernel_rfl,by kernel_rfl⟩,?_⟩|refine ⟨by decide,?_⟩|apply τt|apply τf))
            intro c hc
            have hc2 : c = decide (r.a4 < -1) := hc
            clear hc
            rw [← hc2] at hbk
            clear hc2
            cases c
            · (repeat((conv=>whnf);first|apply ω0|apply ω1|apply ω2|refine τ3 rfl ?_|refine τ4 rfl ?_|refine ⟨rfl,?_⟩|apply τa|refine τb rfl ?_|refine ⟨⟨by kernel_rfl,by kernel_rfl⟩,?_⟩|refine ⟨by decide,?_⟩|apply τt|apply τf))
              refine ⟨⟨Int.natCast_nonneg _, show ((4 : Nat) : Int) < 5 by decide⟩, splitO_eq (b := .bp (0, nx) (1 + 4)) (congrArg (AV.bp (0, nx)) (by rw [c_intT]; rfl)) ?_⟩
              (repeat((conv=>whnf);first|apply ω0|apply ω1|apply ω2|refine τ3 rfl ?_|refine τ4 rfl ?_|refine ⟨rfl,?_⟩|apply τa|refine τb rfl ?_|refine ⟨⟨by kernel_rfl,by kernel_rfl⟩,?_⟩|refine ⟨by decide,?_⟩|apply τt|apply τf))
              intro c hc
              have hc2 : c = decide (r.a4 > 1073741823) := hc
              clear hc
              rw [← hc2, Bool.false_or] at hbk
              clear hc2
              cases c
              · (repeat((conv=>whnf);first|apply ω0|apply ω1|apply ω2|refine τ3 rfl ?_|refine τ4 rfl ?_|refine ⟨rfl,?_⟩|apply τa|refine τb rfl ?_|refine ⟨⟨by kernel_rfl,by kernel_rfl⟩,?_⟩|refine ⟨by decide,?_⟩|apply τt|apply τf))
                exact back (4 + 1, nx4) ⟨by dsimp only; omega, fun j hj => by dsimp only at hj; rcases Nat.lt_or_ge j 4 with q | q; exact h4 j q; rw [show j = 4 by omega]; exact hbk⟩ (by dsimp only; omega) (ele_tell (pm := []) _ [] rfl rfl (List.Sublist.refl _) (List.Sublist.refl _) (BxLe.refl _) trivial ⟨AVle.refl _, AVle.refl _, AVle.refl _, AVle.refl _, trivial⟩)
              · rw [bad_some (k := 4) (by decide) hbk.symm]
                (repeat((conv=>whnf);first|apply ω0|apply ω1|apply ω2|refine τ3 rfl ?_|refine τ4 rfl ?_|refine ⟨rfl,?_⟩|apply τa|refine τb rfl ?_|refine ⟨⟨by kernel_rfl,by kernel_rfl⟩,?_⟩|refine ⟨by decide,?_⟩|apply τt|apply τf))
                exact ret_tells rfl (AVle.refl _)
            · rw [Bool.true_or] at hbk
              rw [bad_some (k := 4) (by decide) hbk.symm]
              (repeat((conv=>whnf);first|apply ω0|apply ω1|apply ω2|refine τ3 rfl ?_|refine τ4 rfl ?_|refine ⟨rfl,?_⟩|apply τa|refine τb rfl ?_|refine ⟨⟨by kernel_rfl,by kernel_rfl⟩,?_⟩|refine ⟨by decide,?_⟩|apply τt|apply τf))
              exact ret_tells rfl (AVle.refl _)
          · rw [bad_none h4, if_neg (by decide)]
            have hmb := mux_tests r
            ((repeat((conv=>whnf);first|apply ω0|apply ω2|refine τ3 rfl ?_|refine τ4 rfl ?_|refine ⟨rfl,?_⟩|apply τa|refine τb rfl ?_|refine ⟨⟨by kernel_rfl,by kernel_rfl⟩,?_⟩|refine ⟨by decide,?_⟩|apply τt|apply τf)); refine aw_region ?_; (repeat((conv=>whnf);first|apply ω0|apply ω2|refine τ3 rfl ?_|refine τ4 rfl ?_|refine ⟨rfl,?_⟩|apply τa|refine τb rfl ?_|refine ⟨⟨by kernel_rfl,by kernel_rfl⟩,?_⟩|refine ⟨by decide,?_⟩|apply τt|apply τf)))
            refine aw_mid2 (fun y : Nat => mk 140 [(0, trows l), (1, int i), (5, .bp (0, nx) 0)] ⟨[((0, nx), .c (trowC r))], [], y, 1⟩) (fun _ => muxBad r = false) ?_ ?_
            · refine aw_region ?_
              (repeat((conv=>whnf);first|apply ω0|apply ω1|apply ω2|refine τ3 rfl ?_|refine τ4 rfl ?_|refine ⟨rfl,?_⟩|apply τa|refine τb rfl ?_|refine ⟨⟨by kernel_rfl,by kernel_rfl⟩,?_⟩|refine ⟨by decide,?_⟩|apply τt|apply τf))
              intro c t1; cases c
              · (repeat((conv=>whnf);first|apply ω0|apply ω1|apply ω2|refine τ3 rfl ?_|refine τ4 rfl ?_|refine ⟨rfl,?_⟩|apply τa|refine τb rfl ?_|refine ⟨⟨by kernel_rfl,by kernel_rfl⟩,?_⟩|refine ⟨by decide,?_⟩|apply τt|apply τf))
                intro c t2; cases c
                · (repeat((conv=>whnf);first|apply ω0|apply ω1|apply ω2|refine τ3 rfl ?_|refine τ4 rfl ?_|refine ⟨rfl,?_⟩|apply τa|refine τb rfl ?_|refine ⟨⟨by kernel_rfl,by kernel_rfl⟩,?_⟩|refine ⟨by decide,?_⟩|apply τt|apply τf))
                  intro c t3; cases c
                  · (repeat((conv=>whnf);first|apply ω0|apply ω1|apply ω2|refine τ3 rfl ?_|refine τ4 rfl ?_|refine ⟨rfl,?_⟩|apply τa|refine τb rfl ?_|refine ⟨⟨by kernel_rfl,by kernel_rfl⟩,?_⟩|refine ⟨by decide,?_⟩|apply τt|apply τf))
                    intro c t5; cases c
                    · have e : muxBad r = false := by rw [hmb, ← t1, ← t2, ← t3, ← t5]; rfl
                      (repeat((conv=>whnf);first|apply ω0|apply ω1|apply ω2|refine τ3 rfl ?_|refine τ4 rfl ?_|refine ⟨rfl,?_⟩|apply τa|refine τb rfl ?_|refine ⟨⟨by kernel_rfl,by kernel_rfl⟩,?_⟩|refine ⟨by decide,?_⟩|apply τt|apply τf))
                      exact ⟨nx4, e, ele_tell (pm := []) _ [] rfl rfl (List.Sublist.refl _) (List.Sublist.refl _) (BxLe.refl _) trivial ⟨AVle.refl _, AVle.refl _, AVle.refl _, trivial⟩⟩
                    · (repeat((conv=>whnf);first|apply ω0|apply ω1|apply ω2|refine τ3 rfl ?_|refine τ4 rfl ?_|refine ⟨rfl,?_⟩|apply τa|refine τb rfl ?_|refine ⟨⟨by kernel_rfl,by kernel_rfl⟩,?_⟩|refine ⟨by decide,?_⟩|apply τt|apply τf))
                      intro c t6; cases c
                      · (repeat((conv=>whnf);first|apply ω0|apply ω1|apply ω2|refine τ3 rfl ?_|refine τ4 rfl ?_|refine ⟨rfl,?_⟩|apply τa|refine τb rfl ?_|refine ⟨⟨by kernel_rfl,by kernel_rfl⟩,?_⟩|refine ⟨by decide,?_⟩|apply τt|apply τf))
                        intro c t7; cases c
                        · have e : muxBad r = false := by rw [hmb, ← t1, ← t2, ← t3, ← t5, ← t6, ← t7]; rfl
                          (repeat((conv=>whnf);first|apply ω0|apply ω1|apply ω2|refine τ3 rfl ?_|refine τ4 rfl ?_|refine ⟨rfl,?_⟩|apply τa|refine τb rfl ?_|refine ⟨⟨by kernel_rfl,by kernel_rfl⟩,?_⟩|refine ⟨by decide,?_⟩|apply τt|apply τf))
                          exact ⟨nx4, e, ele_tell (pm := []) _ [] rfl rfl (List.Sublist.refl _) (List.Sublist.refl _) (BxLe.refl _) trivial ⟨AVle.refl _, AVle.refl _, AVle.refl _, trivial⟩⟩
                        · have e : muxBad r = true := by rw [hmb, ← t1, ← t2, ← t3, ← t5, ← t6, ← t7]; rfl
                          rw [if_pos e]
                          (repeat((conv=>whnf);first|apply ω0|apply ω1|apply ω2|refine τ3 rfl ?_|refine τ4 rfl ?_|refine ⟨rfl,?_⟩|apply τa|refine τb rfl ?_|refine ⟨⟨by kernel_rfl,by kernel_rfl⟩,?_⟩|refine ⟨by decide,?_⟩|apply τt|apply τf))
                          exact ret_tells rfl (AVle.refl _)
                      · have e : muxBad r = true := by rw [hmb, ← t1, ← t2, ← t3, ← t5, ← t6]; rfl
                        rw [if_pos e]
                        (repeat((conv=>whnf);first|apply ω0|apply ω1|apply ω2|refine τ3 rfl ?_|refine τ4 rfl ?_|refine ⟨rfl,?_⟩|apply τa|refine τb rfl ?_|refine ⟨⟨by kernel_rfl,by kernel_rfl⟩,?_⟩|refine ⟨by decide,?_⟩|apply τt|apply τf))
                        exact ret_tells rfl (AVle.refl _)
                  · (repeat((conv=>whnf);first|apply ω0|apply ω1|apply ω2|refine τ3 rfl ?_|refine τ4 rfl ?_|refine ⟨rfl,?_⟩|apply τa|refine τb rfl ?_|refine ⟨⟨by kernel_rfl,by kernel_rfl⟩,?_⟩|refine ⟨by decide,?_⟩|apply τt|apply τf))
                    intro c t4; cases c
                    · (repeat((conv=>whnf);first|apply ω0|apply ω1|apply ω2|refine τ3 rfl ?_|refine τ4 rfl ?_|refine ⟨rfl,?_⟩|apply τa|refine τb rfl ?_|refine ⟨⟨by kernel_rfl,by kernel_rfl⟩,?_⟩|refine ⟨by decide,?_⟩|apply τt|apply τf))
                      intro c t5; cases c
                      · have e : muxBad r = false := by rw [hmb, ← t1, ← t2, ← t3, ← t4, ← t5]; rfl
                        (repeat((conv=>whnf);first|apply ω0|apply ω1|apply ω2|refine τ3 rfl ?_|refine τ4 rfl ?_|refine ⟨rfl,?_⟩|apply τa|refine τb rfl ?_|refine ⟨⟨by kernel_rfl,by kernel_rfl⟩,?_⟩|refine ⟨by decide,?_⟩|apply τt|apply τf))
                        exact ⟨nx4, e, ele_tell (pm := []) _ [] rfl rfl (List.Sublist.refl _) (List.Sublist.refl _) (BxLe.refl _) trivial ⟨AVle.refl _, AVle.refl _, AVle.refl _, trivial⟩⟩
                      · (repeat((conv=>whnf);first|apply ω0|apply ω1|apply ω2|refine τ3 rfl ?_|refine τ4 rfl ?_|refine ⟨rfl,?_⟩|apply τa|refine τb rfl ?_|refine ⟨⟨by kernel_rfl,by kernel_rfl⟩,?_⟩|refine ⟨by decide,?_⟩|apply τt|apply τf))
                        intro c t6; cases c
                        · (repeat((conv=>whnf);first|apply ω0|apply ω1|apply ω2|refine τ3 rfl ?_|refine τ4 rfl ?_|refine ⟨rfl,?_⟩|apply τa|refine τb rfl ?_|refine ⟨⟨by kernel_rfl,by kernel_rfl⟩,?_⟩|refine ⟨by decide,?_⟩|apply τt|apply τf))
                          intro c t7; cases c
                          · have e : muxBad r = false := by rw [hmb, ← t1, ← t2, ← t3, ← t4, ← t5, ← t6, ← t7]; rfl
                            (repeat((conv=>whnf);first|apply ω0|apply ω1|apply ω2|refine τ3 rfl ?_|refine τ4 rfl ?_|refine ⟨rfl,?_⟩|apply τa|refine τb rfl ?_|refine ⟨⟨by kernel_rfl,by kernel_rfl⟩,?_⟩|refine ⟨by decide,?_⟩|apply τt|apply τf))
                            exact ⟨nx4, e, ele_tell (pm := []) _ [] rfl rfl (List.Sublist.refl _) (List.Sublist.refl _) (BxLe.refl _) trivial ⟨AVle.refl _, AVle.refl _, AVle.refl _, trivial⟩⟩
                          · have e : muxBad r = true := by rw [hmb, ← t1, ← t2, ← t3, ← t4, ← t5, ← t6, ← t7]; rfl
                            rw [if_pos e]
                            (repeat((conv=>whnf);first|apply ω0|apply ω1|apply ω2|refine τ3 rfl ?_|refine τ4 rfl ?_|refine ⟨rfl,?_⟩|apply τa|refine τb rfl ?_|refine ⟨⟨by kernel_rfl,by kernel_rfl⟩,?_⟩|refine ⟨by decide,?_⟩|apply τt|apply τf))
                            exact ret_tells rfl (AVle.refl _)
                        · have e : muxBad r = true := by rw [hmb, ← t1, ← t2, ← t3, ← t4, ← t5, ← t6]; rfl
                          rw [if_pos e]
                          (repeat((conv=>whnf);first|apply ω0|apply ω1|apply ω2|refine τ3 rfl ?_|refine τ4 rfl ?_|refine ⟨rfl,?_⟩|apply τa|refine τb rfl ?_|refine ⟨⟨by kernel_rfl,by kernel_rfl⟩,?_⟩|refine ⟨by decide,?_⟩|apply τt|apply τf))
                          exact ret_tells rfl (AVle.refl _)
                    · have e : muxBad r = true := by rw [hmb, ← t1, ← t2, ← t3, ← t4]; rfl
                      rw [if_pos e]
                      (repeat((conv=>whnf);first|apply ω0|apply ω1|apply ω2|refine τ3 rfl ?_|refine τ4 rfl ?_|refine ⟨rfl,?_⟩|apply τa|refine τb rfl ?_|refine ⟨⟨by kernel_rfl,by kernel_rfl⟩,?_⟩|refine ⟨by decide,?_⟩|apply τt|apply τf))
                      exact ret_tells rfl (AVle.refl _)
                · have e : muxBad r = true := by rw [hmb, ← t1, ← t2]; rfl
                  rw [if_pos e]
                  (repeat((conv=>whnf);first|apply ω0|apply ω1|apply ω2|refine τ3 rfl ?_|refine τ4 rfl ?_|refine ⟨rfl,?_⟩|apply τa|refine τb rfl ?_|refine ⟨⟨by kernel_rfl,by kernel_rfl⟩,?_⟩|refine ⟨by decide,?_⟩|apply τt|apply τf))
                  exact ret_tells rfl (AVle.refl _)
              · have e : muxBad r = true := by rw [hmb, ← t1]; rfl
                rw [if_pos e]
                (repeat((conv=>whnf);first|apply ω0|apply ω1|apply ω2|refine τ3 rfl ?_|refine τ4 rfl ?_|refine ⟨rfl,?_⟩|apply τa|refine τb rfl ?_|refine ⟨⟨by kernel_rfl,by kernel_rfl⟩,?_⟩|refine ⟨by decide,?_⟩|apply τt|apply τf))
                exact ret_tells rfl (AVle.refl _)
            · rintro nx5 hmz
              rw [hmz, if_neg (by decide)]
              have ha2 := a2_tests r
              (repeat((conv=>whnf);first|apply ω0|apply ω1|apply ω2|refine τ3 rfl ?_|refine τ4 rfl ?_|refine ⟨rfl,?_⟩|apply τa|refine τb rfl ?_|refine ⟨⟨by kernel_rfl,by kernel_rfl⟩,?_⟩|refine ⟨by decide,?_⟩|apply τt|apply τf))
              refine splitO_eq (b := int r.a2) rfl ?_
              (repeat((conv=>whnf);first|apply ω0|apply ω1|apply ω2|refine τ3 rfl ?_|refine τ4 rfl ?_|refine ⟨rfl,?_⟩|apply τa|refine τb rfl ?_|refine ⟨⟨by kernel_rfl,by kernel_rfl⟩,?_⟩|refine ⟨by decide,?_⟩|apply τt|apply τf))
              intro c t1; cases c
              rotate_left
              · have e : a2Bad r = true := by rw [ha2, ← t1]; rfl
                rw [if_pos e]
                (repeat((conv=>whnf);first|apply ω0|apply ω1|apply ω2|refine τ3 rfl ?_|refine τ4 rfl ?_|refine ⟨rfl,?_⟩|apply τa|refine τb rfl ?_|refine ⟨⟨by kernel_rfl,by kernel_rfl⟩,?_⟩|refine ⟨by decide,?_⟩|apply τt|apply τf))
                exact ret_tells rfl (AVle.refl _)
              (repeat((conv=>whnf);first|apply ω0|apply ω1|apply ω2|refine τ3 rfl ?_|refine τ4 rfl ?_|refine ⟨rfl,?_⟩|apply τa|refine τb rfl ?_|refine ⟨⟨by kernel_rfl,by kernel_rfl⟩,?_⟩|refine ⟨by decide,?_⟩|apply τt|apply τf))
              refine splitO_eq (b := int r.a2) rfl ?_
              (repeat((conv=>whnf);first|apply ω0|apply ω1|apply ω2|refine τ3 rfl ?_|refine τ4 rfl ?_|refine ⟨rfl,?_⟩|apply τa|refine τb rfl ?_|refine ⟨⟨by kernel_rfl,by kernel_rfl⟩,?_⟩|refine ⟨by decide,?_⟩|apply τt|apply τf))
              intro c t2; cases c
              rotate_left
              · have e : a2Bad r = true := by rw [ha2, ← t1, ← t2]; rfl
                rw [if_pos e]
                (repeat((conv=>whnf);first|apply ω0|apply ω1|apply ω2|refine τ3 rfl ?_|refine τ4 rfl ?_|refine ⟨rfl,?_⟩|apply τa|refine τb rfl ?_|refine ⟨⟨by kernel_rfl,by kernel_rfl⟩,?_⟩|refine ⟨by decide,?_⟩|apply τt|apply τf))
                exact ret_tells rfl (AVle.refl _)
              have e : a2Bad r = false := by rw [ha2, ← t1, ← t2]; rfl
              rw [if_neg (by rw [e]; decide)]
              (repeat((conv=>whnf);first|apply ω0|apply ω1|apply ω2|refine τ3 rfl ?_|refine τ4 rfl ?_|refine ⟨rfl,?_⟩|apply τa|refine τb rfl ?_|refine ⟨⟨by kernel_rfl,by kernel_rfl⟩,?_⟩|refine ⟨by decide,?_⟩|apply τt|apply τf))
              refine aw_loop (fun y : Nat × Nat => mk 140 [(0, trows l), (1, int i), (5, .bp (0, nx) 0), (7, int y.1)] ⟨[((0, nx), .c (trowC r))], [], y.2, 1⟩) (fun y => y.1 ≤ i ∧ ∀ j, j < y.1 → (clashN r (l.getD j trow0) || clashM r (l.getD j trow0)) = false) (fun y => i - y.1) ?_ ?_
              · exact ⟨(0, nx5), ⟨Nat.zero_le _, fun j h => absurd h (Nat.not_lt_zero _)⟩, ele_tell (pm := []) _ [] rfl rfl (List.Sublist.refl _) (List.Sublist.refl _) (BxLe.refl _) trivial ⟨AVle.refl _, AVle.refl _, AVle.refl _, AVle.refl _, trivial⟩⟩
              · rintro ⟨k, nx6⟩ ⟨m3, m4⟩
                dsimp only at m3 m4
                (repeat((conv=>whnf);first|apply ω0|apply ω1|apply ω2|refine τ3 rfl ?_|refine τ4 rfl ?_|refine ⟨rfl,?_⟩|apply τa|refine τb rfl ?_|refine ⟨⟨by kernel_rfl,by kernel_rfl⟩,?_⟩|refine ⟨by decide,?_⟩|apply τt|apply τf))
                intro c g; cases c
                · have g := not_of g
                  try dsimp only at g
                  have hk : k = i := by omega
                  subst hk
                  rw [clash_false hrr (Nat.le_of_lt hi) m4, if_neg (by decide)]
                  (repeat((conv=>whnf);first|apply ω0|apply ω1|apply ω2|refine τ3 rfl ?_|refine τ4 rfl ?_|refine ⟨rfl,?_⟩|apply τa|refine τb rfl ?_|refine ⟨⟨by kernel_rfl,by kernel_rfl⟩,?_⟩|refine ⟨by decide,?_⟩|apply τt|apply τf))
                  exact ret_tells rfl (AVle.refl _)
                have g := yes_of g
                try dsimp only at g
                have hk : k < i := by omega
                (repeat((conv=>whnf);first|apply ω0|apply ω1|apply ω2|refine τ3 rfl ?_|refine τ4 rfl ?_|refine ⟨rfl,?_⟩|apply τa|refine τb rfl ?_|refine ⟨⟨by kernel_rfl,by kernel_rfl⟩,?_⟩|refine ⟨by decide,?_⟩|apply τt|apply τf))
                refine aw_loop (fun y : Nat × Nat => mk 140 [(0, trows l), (1, int i), (5, .bp (0, nx) 0), (7, int k), (8, int y.1)] ⟨[((0, nx), .c (trowC r))], [], y.2, 1⟩) (fun y => y.1 ≤ 5 ∧ ∀ j, j < y.1 → cN r (l.getD k trow0) j = false) (fun y => 5 - y.1) ?_ ?_
                · exact ⟨(0, nx6), ⟨Nat.zero_le _, fun j h => absurd h (Nat.not_lt_zero _)⟩, ele_tell (pm := []) _ [] rfl rfl (List.Sublist.refl _) (List.Sublist.refl _) (BxLe.refl _) trivial ⟨AVle.refl _, AVle.refl _, AVle.refl _, AVle.refl _, AVle.refl _, trivial⟩⟩
                · rintro ⟨a, nx8⟩ ⟨n3, n4⟩
                  dsimp only at n3 n4
                  obtain rfl | rfl | rfl | rfl | rfl | rfl : a = 0 ∨ a = 1 ∨ a = 2 ∨ a = 3 ∨ a = 4 ∨ a = 5 := by omega
                  · have hcn : cN r (l.getD k trow0) 0 = (decide (r.a0 ≥ 0) && decide ((l.getD k trow0).a0 = r.a0)) := rfl
                    cases hd : decide (r.a0 ≥ 0) with
                    | false =>
                      have e : cN r (l.getD k trow0) 0 = false := by rw [hcn, hd]; rfl
                      ((repeat((conv=>whnf);first|apply ω0|apply ω2|refine τ3 rfl ?_|refine τ4 rfl ?_|refine ⟨rfl,?_⟩|apply τa|refine τb rfl ?_|refine ⟨⟨by kernel_rfl,by kernel_rfl⟩,?_⟩|refine ⟨by decide,?_⟩|apply τt|apply τf)); refine aw_region ?_; (repeat((conv=>whnf);first|apply ω0|apply ω2|refine τ3 rfl ?_|refine τ4 rfl ?_|refine ⟨rfl,?_⟩|apply τa|refine τb rfl ?_|refine ⟨⟨by kernel_rfl,by kernel_rfl⟩,?_⟩|refine ⟨by decide,?_⟩|apply τt|apply τf)))
                      (refine aw_draw 19 ?_ ?_ ?_ ?_; (· kernel_rfl); (· kernel_rfl); (· kernel_rfl))
                      (repeat((conv=>whnf);first|apply ω0|apply ω1|apply ω2|refine τ3 rfl ?_|refine τ4 rfl ?_|refine ⟨rfl,?_⟩|apply τa|refine τb rfl ?_|refine ⟨⟨by kernel_rfl,by kernel_rfl⟩,?_⟩|refine ⟨by decide,?_⟩|apply τt|apply τf))
                      refine ⟨⟨Int.natCast_nonneg _, show ((0 : Nat) : Int) < 5 by decide⟩, splitO_eq (b := .bp (0, nx) (1 + 0)) (congrArg (AV.bp (0, nx)) (by rw [c_intT]; rfl)) ?_⟩
                      (repeat((conv=>whnf);first|apply ω0|apply ω1|apply ω2|refine τ3 rfl ?_|refine τ4 rfl ?_|refine ⟨rfl,?_⟩|apply τa|refine τb rfl ?_|refine ⟨⟨by kernel_rfl,by kernel_rfl⟩,?_⟩|refine ⟨by decide,?_⟩|apply τt|apply τf))
                      (conv => whnf)
                      refine lit_eq hd ?_
                      (repeat((conv=>whnf);first|apply ω0|apply ω1|apply ω2|refine τ3 rfl ?_|refine τ4 rfl ?_|refine ⟨rfl,?_⟩|apply τa|refine τb rfl ?_|refine ⟨⟨by kernel_rfl,by kernel_rfl⟩,?_⟩|refine ⟨by decide,?_⟩|apply τt|apply τf))
                      exact back (0 + 1, nx8) ⟨by dsimp only; omega, fun j hj => by dsimp only at hj; rcases Nat.lt_or_ge j 0 with q | q; exact n4 j q; rw [show j = 0 by omega]; exact e⟩ (by dsimp only; omega) (ele_tell (pm := []) _ [] rfl rfl (List.Sublist.refl _) (List.Sublist.refl _) (BxLe.refl _) trivial ⟨AVle.refl _, AVle.refl _, AVle.refl _, AVle.refl _, AVle.refl _, trivial⟩)
                    | true =>
                      ((repeat((conv=>whnf);first|apply ω0|apply ω2|refine τ3 rfl ?_|refine τ4 rfl ?_|refine ⟨rfl,?_⟩|apply τa|refine τb rfl ?_|refine ⟨⟨by kernel_rfl,by kernel_rfl⟩,?_⟩|refine ⟨by decide,?_⟩|apply τt|apply τf)); refine aw_region ?_; (repeat((conv=>whnf);first|apply ω0|apply ω2|refine τ3 rfl ?_|refine τ4 rfl ?_|refine ⟨rfl,?_⟩|apply τa|refine τb rfl ?_|refine ⟨⟨by kernel_rfl,by kernel_rfl⟩,?_⟩|refine ⟨by decide,?_⟩|apply τt|apply τf)))
                      (refine aw_draw 19 ?_ ?_ ?_ ?_; (· kernel_rfl); (· kernel_rfl); (· kernel_rfl))
                      (repeat((conv=>whnf);first|apply ω0|apply ω1|apply ω2|refine τ3 rfl ?_|refine τ4 rfl ?_|refine ⟨rfl,?_⟩|apply τa|refine τb rfl ?_|refine ⟨⟨by kernel_rfl,by kernel_rfl⟩,?_⟩|refine ⟨by decide,?_⟩|apply τt|apply τf))
                      refine ⟨⟨Int.natCast_nonneg _, show ((0 : Nat) : Int) < 5 by decide⟩, splitO_eq (b := .bp (0, nx) (1 + 0)) (congrArg (AV.bp (0, nx)) (by rw [c_intT]; rfl)) ?_⟩
                      (repeat((conv=>whnf);first|apply ω0|apply ω1|apply ω2|refine τ3 rfl ?_|refine τ4 rfl ?_|refine ⟨rfl,?_⟩|apply τa|refine τb rfl ?_|refine ⟨⟨by kernel_rfl,by kernel_rfl⟩,?_⟩|refine ⟨by decide,?_⟩|apply τt|apply τf))
                      (conv => whnf)
                      refine lit_eq hd ?_
                      (repeat((conv=>whnf);first|apply ω0|apply ω1|apply ω2|refine τ3 rfl ?_|refine τ4 rfl ?_|refine ⟨rfl,?_⟩|apply τa|refine τb rfl ?_|refine ⟨⟨by kernel_rfl,by kernel_rfl⟩,?_⟩|refine ⟨by decide,?_⟩|apply τt|apply τf))
                      refine ⟨⟨by first | omega | (dsimp only; omega), by first | omega | (dsimp only; omega)⟩, ?_⟩
                      (repeat((conv=>whnf);first|apply ω0|apply ω1|apply ω2|refine τ3 rfl ?_|refine τ4 rfl ?_|refine ⟨rfl,?_⟩|apply τa|refine τb rfl ?_|refine ⟨⟨by kernel_rfl,by kernel_rfl⟩,?_⟩|refine ⟨by decide,?_⟩|apply τt|apply τf))
                      refine ⟨⟨Int.natCast_nonneg _, show ((0 : Nat) : Int) < 5 by decide, by rw [c_intT]; exact Nat.le_of_ble_eq_true rfl⟩, splitO_eq (b := .rp (List.drop (1 + 0) (trowC (l.getD k trow0)))) (congrArg AV.rp (by rw [c_intT]; rfl)) ?_⟩
                      (repeat((conv=>whnf);first|apply ω0|apply ω1|apply ω2|refine τ3 rfl ?_|refine τ4 rfl ?_|refine ⟨rfl,?_⟩|apply τa|refine τb rfl ?_|refine ⟨⟨by kernel_rfl,by kernel_rfl⟩,?_⟩|refine ⟨by decide,?_⟩|apply τt|apply τf))
                      refine ⟨⟨Int.natCast_nonneg _, show ((0 : Nat) : Int) < 5 by decide⟩, splitO_eq (b := .bp (0, nx) (1 + 0)) (congrArg (AV.bp (0, nx)) (by rw [c_intT]; rfl)) ?_⟩
                      (repeat((conv=>whnf);first|apply ω0|apply ω1|apply ω2|refine τ3 rfl ?_|refine τ4 rfl ?_|refine ⟨rfl,?_⟩|apply τa|refine τb rfl ?_|refine ⟨⟨by kernel_rfl,by kernel_rfl⟩,?_⟩|refine ⟨by decide,?_⟩|apply τt|apply τf))
                      intro c hc
                      have hc2 : c = decide ((l.getD k trow0).a0 = r.a0) := hc.trans (by rw [Bool.eq_iff_iff]; simp)
                      clear hc
                      rw [hd, ← hc2, Bool.true_and] at hcn
                      clear hc2
                      cases c
                      · have e := hcn
                        (repeat((conv=>whnf);first|apply ω0|apply ω1|apply ω2|refine τ3 rfl ?_|refine τ4 rfl ?_|refine ⟨rfl,?_⟩|apply τa|refine τb rfl ?_|refine ⟨⟨by kernel_rfl,by kernel_rfl⟩,?_⟩|refine ⟨by decide,?_⟩|apply τt|apply τf))
                        exact back (0 + 1, nx8) ⟨by dsimp only; omega, fun j hj => by dsimp only at hj; rcases Nat.lt_or_ge j 0 with q | q; exact n4 j q; rw [show j = 0 by omega]; exact e⟩ (by dsimp only; omega) (ele_tell (pm := []) _ [] rfl rfl (List.Sublist.refl _) (List.Sublist.refl _) (BxLe.refl _) trivial ⟨AVle.refl _, AVle.refl _, AVle.refl _, AVle.refl _, AVle.refl _, trivial⟩)
                      · rw [clash_true hrr hk hi (by rw [clashN_true (a := 0) (by decide) hcn]; rfl), if_pos rfl]
                        (repeat((conv=>whnf);first|apply ω0|apply ω1|apply ω2|refine τ3 rfl ?_|refine τ4 rfl ?_|refine ⟨rfl,?_⟩|apply τa|refine τb rfl ?_|refine ⟨⟨by kernel_rfl,by kernel_rfl⟩,?_⟩|refine ⟨by decide,?_⟩|apply τt|apply τf))
                        exact ret_tells rfl (AVle.refl _)
                  · have hcn : cN r (l.getD k trow0) 1 = (decide (r.a1 ≥ 0) && decide ((l.getD k trow0).a1 = r.a1)) := rfl
                    cases hd : decide (r.a1 ≥ 0) with
                    | false =>
                      have e : cN r (l.getD k trow0) 1 = false := by rw [hcn, hd]; rfl
                      ((repeat((conv=>whnf);first|apply ω0|apply ω2|refine τ3 rfl ?_|refine τ4 rfl ?_|refine ⟨rfl,?_⟩|apply τa|refine τb rfl ?_|refine ⟨⟨by kernel_rfl,by kernel_rfl⟩,?_⟩|refine ⟨by decide,?_⟩|apply τt|apply τf)); refine aw_region ?_; (repeat((conv=>whnf);first|apply ω0|apply ω2|refine τ3 rfl ?_|refine τ4 rfl ?_|refine ⟨rfl,?_⟩|apply τa|refine τb rfl ?_|refine ⟨⟨by kernel_rfl,by kernel_rfl⟩,?_⟩|refine ⟨by decide,?_⟩|apply τt|apply τf)))
                      (refine aw_draw 19 ?_ ?_ ?_ ?_; (· kernel_rfl); (· kernel_rfl); (· kernel_rfl))
                      (repeat((conv=>whnf);first|apply ω0|apply ω1|apply ω2|refine τ3 rfl ?_|refine τ4 rfl ?_|refine ⟨rfl,?_⟩|apply τa|refine τb rfl ?_|refine ⟨⟨by kernel_rfl,by kernel_rfl⟩,?_⟩|refine ⟨by decide,?_⟩|apply τt|apply τf))
                      refine ⟨⟨Int.natCast_nonneg _, show ((1 : Nat) : Int) < 5 by decide⟩, splitO_eq (b := .bp (0, nx) (1 + 1)) (congrArg (AV.bp (0, nx)) (by rw [c_intT]; rfl)) ?_⟩
                      (repeat((conv=>whnf);first|apply ω0|apply ω1|apply ω2|refine τ3 rfl ?_|refine τ4 rfl ?_|refine ⟨rfl,?_⟩|apply τa|refine τb rfl ?_|refine ⟨⟨by kernel_rfl,by kernel_rfl⟩,?_⟩|refine ⟨by decide,?_⟩|apply τt|apply τf))
                      (conv => whnf)
                      refine lit_eq hd ?_
                      (repeat((conv=>whnf);first|apply ω0|apply ω1|apply ω2|refine τ3 rfl ?_|refine τ4 rfl ?_|refine ⟨rfl,?_⟩|apply τa|refine τb rfl ?_|refine ⟨⟨by kernel_rfl,by kernel_rfl⟩,?_⟩|refine ⟨by decide,?_⟩|apply τt|apply τf))
                      exact back (1 + 1, nx8) ⟨by dsimp only; omega, fun j hj => by dsimp only at hj; rcases Nat.lt_or_ge j 1 with q | q; exact n4 j q; rw [show j = 1 by omega]; exact e⟩ (by dsimp only; omega) (ele_tell (pm := []) _ [] rfl rfl (List.Sublist.refl _) (List.Sublist.refl _) (BxLe.refl _) trivial ⟨AVle.refl _, AVle.refl _, AVle.refl _, AVle.refl _, AVle.refl _, trivial⟩)
                    | true =>
                      ((repeat((conv=>whnf);first|apply ω0|apply ω2|refine τ3 rfl ?_|refine τ4 rfl ?_|refine ⟨rfl,?_⟩|apply τa|refine τb rfl ?_|refine ⟨⟨by kernel_rfl,by kernel_rfl⟩,?_⟩|refine ⟨by decide,?_⟩|apply τt|apply τf)); refine aw_region ?_; (repeat((conv=>whnf);first|apply ω0|apply ω2|refine τ3 rfl ?_|refine τ4 rfl ?_|refine ⟨rfl,?_⟩|apply τa|refine τb rfl ?_|refine ⟨⟨by kernel_rfl,by kernel_rfl⟩,?_⟩|refine ⟨by decide,?_⟩|apply τt|apply τf)))
                      (refine aw_draw 19 ?_ ?_ ?_ ?_; (· kernel_rfl); (· kernel_rfl); (· kernel_rfl))
                      (repeat((conv=>whnf);first|apply ω0|apply ω1|apply ω2|refine τ3 rfl ?_|refine τ4 rfl ?_|refine ⟨rfl,?_⟩|apply τa|refine τb rfl ?_|refine ⟨⟨by kernel_rfl,by kernel_rfl⟩,?_⟩|refine ⟨by decide,?_⟩|apply τt|apply τf))
                      refine ⟨⟨Int.natCast_nonneg _, show ((1 : Nat) : Int) < 5 by decide⟩, splitO_eq (b := .bp (0, nx) (1 + 1)) (congrArg (AV.bp (0, nx)) (by rw [c_intT]; rfl)) ?_⟩
                      (repeat((conv=>whnf);first|apply ω0|apply ω1|apply ω2|refine τ3 rfl ?_|refine τ4 rfl ?_|refine ⟨rfl,?_⟩|apply τa|refine τb rfl ?_|refine ⟨⟨by kernel_rfl,by kernel_rfl⟩,?_⟩|refine ⟨by decide,?_⟩|apply τt|apply τf))
                      (conv => whnf)
                      refine lit_eq hd ?_
                      (repeat((conv=>whnf);first|apply ω0|apply ω1|apply ω2|refine τ3 rfl ?_|refine τ4 rfl ?_|refine ⟨rfl,?_⟩|apply τa|refine τb rfl ?_|refine ⟨⟨by kernel_rfl,by kernel_rfl⟩,?_⟩|refine ⟨by decide,?_⟩|apply τt|apply τf))
                      refine ⟨⟨by first | omega | (dsimp only; omega), by first | omega | (dsimp only; omega)⟩, ?_⟩
                      (repeat((conv=>whnf);first|apply ω0|apply ω1|apply ω2|refine τ3 rfl ?_|refine τ4 rfl ?_|refine ⟨rfl,?_⟩|apply τa|refine τb rfl ?_|refine ⟨⟨by kernel_rfl,by kernel_rfl⟩,?_⟩|refine ⟨by decide,?_⟩|apply τt|apply τf))
                      refine ⟨⟨Int.natCast_nonneg _, show ((1 : Nat) : Int) < 5 by decide, by rw [c_intT]; exact Nat.le_of_ble_eq_true rfl⟩, splitO_eq (b := .rp (List.drop (1 + 1) (trowC (l.getD k trow0)))) (congrArg AV.rp (by rw [c_intT]; rfl)) ?_⟩
                      (repeat((conv=>whnf);first|apply ω0|apply ω1|apply ω2|refine τ3 rfl ?_|refine τ4 rfl ?_|refine ⟨rfl,?_⟩|apply τa|refine τb rfl ?_|refine ⟨⟨by kernel_rfl,by kernel_rfl⟩,?_⟩|refine ⟨by decide,?_⟩|apply τt|apply τf))
                      refine ⟨⟨Int.natCast_nonneg _, show ((1 : Nat) : Int) < 5 by decide⟩, splitO_eq (b := .bp (0, nx) (1 + 1)) (congrArg (AV.bp (0, nx)) (by rw [c_intT]; rfl)) ?_⟩
                      (repeat((conv=>whnf);first|apply ω0|apply ω1|apply ω2|refine τ3 rfl ?_|refine τ4 rfl ?_|refine ⟨rfl,?_⟩|apply τa|refine τb rfl ?_|refine ⟨⟨by kernel_rfl,by kernel_rfl⟩,?_⟩|refine ⟨by decide,?_⟩|apply τt|apply τf))
                      intro c hc
                      have hc2 : c = decide ((l.getD k trow0).a1 = r.a1) := hc.trans (by rw [Bool.eq_iff_iff]; simp)
                      clear hc
                      rw [hd, ← hc2, Bool.true_and] at hcn
                      clear hc2
                      cases c
                      · have e := hcn
                        (repeat((conv=>whnf);first|apply ω0|apply ω1|apply ω2|refine τ3 rfl ?_|refine τ4 rfl ?_|refine ⟨rfl,?_⟩|apply τa|refine τb rfl ?_|refine ⟨⟨by kernel_rfl,by kernel_rfl⟩,?_⟩|refine ⟨by decide,?_⟩|apply τt|apply τf))
                        exact back (1 + 1, nx8) ⟨by dsimp only; omega, fun j hj => by dsimp only at hj; rcases Nat.lt_or_ge j 1 with q | q; exact n4 j q; rw [show j = 1 by omega]; exact e⟩ (by dsimp only; omega) (ele_tell (pm := []) _ [] rfl rfl (List.Sublist.refl _) (List.Sublist.refl _) (BxLe.refl _) trivial ⟨AVle.refl _, AVle.refl _, AVle.refl _, AVle.refl _, AVle.refl _, trivial⟩)
                      · rw [clash_true hrr hk hi (by rw [clashN_true (a := 1) (by decide) hcn]; rfl), if_pos rfl]
                        (repeat((conv=>whnf);first|apply ω0|apply ω1|apply ω2|refine τ3 rfl ?_|refine τ4 rfl ?_|refine ⟨rfl,?_⟩|apply τa|refine τb rfl ?_|refine ⟨⟨by kernel_rfl,by kernel_rfl⟩,?_⟩|refine ⟨by decide,?_⟩|apply τt|apply τf))
                        exact ret_tells rfl (AVle.refl _)
                  · have hcn : cN r (l.getD k trow0) 2 = (decide (r.a2 ≥ 0) && decide ((l.getD k trow0).a2 = r.a2)) := rfl
                    cases hd : decide (r.a2 ≥ 0) with
                    | false =>
                      have e : cN r (l.getD k trow0) 2 = false := by rw [hcn, hd]; rfl
                      ((repeat((conv=>whnf);first|apply ω0|apply ω2|refine τ3 rfl ?_|refine τ4 rfl ?_|refine ⟨rfl,?_⟩|apply τa|refine τb rfl ?_|refine ⟨⟨by kernel_rfl,by kernel_rfl⟩,?_⟩|refine ⟨by decide,?_⟩|apply τt|apply τf)); refine aw_region ?_; (repeat((conv=>whnf);first|apply ω0|apply ω2|refine τ3 rfl ?_|refine τ4 rfl ?_|refine ⟨rfl,?_⟩|apply τa|refine τb rfl ?_|refine ⟨⟨by kernel_rfl,by kernel_rfl⟩,?_⟩|refine ⟨by decide,?_⟩|apply τt|apply τf)))
                      (refine aw_draw 19 ?_ ?_ ?_ ?_; (· kernel_rfl); (· kernel_rfl); (· kernel_rfl))
                      (repeat((conv=>whnf);first|apply ω0|apply ω1|apply ω2|refine τ3 rfl ?_|refine τ4 rfl ?_|refine ⟨rfl,?_⟩|apply τa|refine τb rfl ?_|refine ⟨⟨by kernel_rfl,by kernel_rfl⟩,?_⟩|refine ⟨by decide,?_⟩|apply τt|apply τf))
                      refine ⟨⟨Int.natCast_nonneg _, show ((2 : Nat) : Int) < 5 by decide⟩, splitO_eq (b := .bp (0, nx) (1 + 2)) (congrArg (AV.bp (0, nx)) (by rw [c_intT]; rfl)) ?_⟩
                      (repeat((conv=>whnf);first|apply ω0|apply ω1|apply ω2|refine τ3 rfl ?_|refine τ4 rfl ?_|refine ⟨rfl,?_⟩|apply τa|refine τb rfl ?_|refine ⟨⟨by kernel_rfl,by kernel_rfl⟩,?_⟩|refine ⟨by decide,?_⟩|apply τt|apply τf))
                      (conv => whnf)
                      refine lit_eq hd ?_
                      (repeat((conv=>whnf);first|apply ω0|apply ω1|apply ω2|refine τ3 rfl ?_|refine τ4 rfl ?_|refine ⟨rfl,?_⟩|apply τa|refine τb rfl ?_|refine ⟨⟨by kernel_rfl,by kernel_rfl⟩,?_⟩|refine ⟨by decide,?_⟩|apply τt|apply τf))
                      exact back (2 + 1, nx8) ⟨by dsimp only; omega, fun j hj => by dsimp only at hj; rcases Nat.lt_or_ge j 2 with q | q; exact n4 j q; rw [show j = 2 by omega]; exact e⟩ (by dsimp only; omega) (ele_tell (pm := []) _ [] rfl rfl (List.Sublist.refl _) (List.Sublist.refl _) (BxLe.refl _) trivial ⟨AVle.refl _, AVle.refl _, AVle.refl _, AVle.refl _, AVle.refl _, trivial⟩)
                    | true =>
                      ((repeat((conv=>whnf);first|apply ω0|apply ω2|refine τ3 rfl ?_|refine τ4 rfl ?_|refine ⟨rfl,?_⟩|apply τa|refine τb rfl ?_|refine ⟨⟨by kernel_rfl,by kernel_rfl⟩,?_⟩|refine ⟨by decide,?_⟩|apply τt|apply τf)); refine aw_region ?_; (repeat((conv=>whnf);first|apply ω0|apply ω2|refine τ3 rfl ?_|refine τ4 rfl ?_|refine ⟨rfl,?_⟩|apply τa|refine τb rfl ?_|refine ⟨⟨by kernel_rfl,by kernel_rfl⟩,?_⟩|refine ⟨by decide,?_⟩|apply τt|apply τf)))
                      (refine aw_draw 19 ?_ ?_ ?_ ?_; (· kernel_rfl); (· kernel_rfl); (· kernel_rfl))
                      (repeat((conv=>whnf);first|apply ω0|apply ω1|apply ω2|refine τ3 rfl ?_|refine τ4 rfl ?_|refine ⟨rfl,?_⟩|apply τa|refine τb rfl ?_|refine ⟨⟨by kernel_rfl,by kernel_rfl⟩,?_⟩|refine ⟨by decide,?_⟩|apply τt|apply τf))
                      refine ⟨⟨Int.natCast_nonneg _, show ((2 : Nat) : Int) < 5 by decide⟩, splitO_eq (b := .bp (0, nx) (1 + 2)) (congrArg (AV.bp (0, nx)) (by rw [c_intT]; rfl)) ?_⟩
                      (repeat((conv=>whnf);first|apply ω0|apply ω1|apply ω2|refine τ3 rfl ?_|refine τ4 rfl ?_|refine ⟨rfl,?_⟩|apply τa|refine τb rfl ?_|refine ⟨⟨by kernel_rfl,by kernel_rfl⟩,?_⟩|refine ⟨by decide,?_⟩|apply τt|apply τf))
                      (conv => whnf)
                      refine lit_eq hd ?_
                      (repeat((conv=>whnf);first|apply ω0|apply ω1|apply ω2|refine τ3 rfl ?_|refine τ4 rfl ?_|refine ⟨rfl,?_⟩|apply τa|refine τb rfl ?_|refine ⟨⟨by kernel_rfl,by kernel_rfl⟩,?_⟩|refine ⟨by decide,?_⟩|apply τt|apply τf))
                      refine ⟨⟨by first | omega | (dsimp only; omega), by first | omega | (dsimp only; omega)⟩, ?_⟩
                      (repeat((conv=>whnf);first|apply ω0|apply ω1|apply ω2|refine τ3 rfl ?_|refine τ4 rfl ?_|refine ⟨rfl,?_⟩|apply τa|refine τb rfl ?_|refine ⟨⟨by kernel_rfl,by kernel_rfl⟩,?_⟩|refine ⟨by decide,?_⟩|apply τt|apply τf))
                      refine ⟨⟨Int.natCast_nonneg _, show ((2 : Nat) : Int) < 5 by decide, by rw [c_intT]; exact Nat.le_of_ble_eq_true rfl⟩, splitO_eq (b := .rp (List.drop (1 + 2) (trowC (l.getD k trow0)))) (congrArg AV.rp (by rw [c_intT]; rfl)) ?_⟩
                      (repeat((conv=>whnf);first|apply ω0|apply ω1|apply ω2|refine τ3 rfl ?_|refine τ4 rfl ?_|refine ⟨rfl,?_⟩|apply τa|refine τb rfl ?_|refine ⟨⟨by kernel_rfl,by kernel_rfl⟩,?_⟩|refine ⟨by decide,?_⟩|apply τt|apply τf))
                      refine ⟨⟨Int.natCast_nonneg _, show ((2 : Nat) : Int) < 5 by decide⟩, splitO_eq (b := .bp (0, nx) (1 + 2)) (congrArg (AV.bp (0, nx)) (by rw [c_intT]; rfl)) ?_⟩
                      (repeat((conv=>whnf);first|apply ω0|apply ω1|apply ω2|refine τ3 rfl ?_|refine τ4 rfl ?_|refine ⟨rfl,?_⟩|apply τa|refine τb rfl ?_|refine ⟨⟨by kernel_rfl,by kernel_rfl⟩,?_⟩|refine ⟨by decide,?_⟩|apply τt|apply τf))
                      intro c hc
                      have hc2 : c = decide ((l.getD k trow0).a2 = r.a2) := hc.trans (by rw [Bool.eq_iff_iff]; simp)
                      clear hc
                      rw [hd, ← hc2, Bool.true_and] at hcn
                      clear hc2
                      cases c
                      · have e := hcn
                        (repeat((conv=>whnf);first|apply ω0|apply ω1|apply ω2|refine τ3 rfl ?_|refine τ4 rfl ?_|refine ⟨rfl,?_⟩|apply τa|refine τb rfl ?_|refine ⟨⟨by kernel_rfl,by kernel_rfl⟩,?_⟩|refine ⟨by decide,?_⟩|apply τt|apply τf))
                        exact back (2 + 1, nx8) ⟨by dsimp only; omega, fun j hj => by dsimp only at hj; rcases Nat.lt_or_ge j 2 with q | q; exact n4 j q; rw [show j = 2 by omega]; exact e⟩ (by dsimp only; omega) (ele_tell (pm := []) _ [] rfl rfl (List.Sublist.refl _) (List.Sublist.refl _) (BxLe.refl _) trivial ⟨AVle.refl _, AVle.refl _, AVle.refl _, AVle.refl _, AVle.refl _, trivial⟩)
                      · rw [clash_true hrr hk hi (by rw [clashN_true (a := 2) (by decide) hcn]; rfl), if_pos rfl]
                        (repeat((conv=>whnf);first|apply ω0|apply ω1|apply ω2|refine τ3 rfl ?_|refine τ4 rfl ?_|refine ⟨rfl,?_⟩|apply τa|refine τb rfl ?_|refine ⟨⟨by kernel_rfl,by kernel_rfl⟩,?_⟩|refine ⟨by decide,?_⟩|apply τt|apply τf))
                        exact ret_tells rfl (AVle.refl _)
                  · have hcn : cN r (l.getD k trow0) 3 = (decide (r.a3 ≥ 0) && decide ((l.getD k trow0).a3 = r.a3)) := rfl
                    cases hd : decide (r.a3 ≥ 0) with
                    | false =>
                      have e : cN r (l.getD k trow0) 3 = false := by rw [hcn, hd]; rfl
                      ((repeat((conv=>whnf);first|apply ω0|apply ω2|refine τ3 rfl ?_|refine τ4 rfl ?_|refine ⟨rfl,?_⟩|apply τa|refine τb rfl ?_|refine ⟨⟨by kernel_rfl,by kernel_rfl⟩,?_⟩|refine ⟨by decide,?_⟩|apply τt|apply τf)); refine aw_region ?_; (repeat((conv=>whnf);first|apply ω0|apply ω2|refine τ3 rfl ?_|refine τ4 rfl ?_|refine ⟨rfl,?_⟩|apply τa|refine τb rfl ?_|refine ⟨⟨by kernel_rfl,by kernel_rfl⟩,?_⟩|refine ⟨by decide,?_⟩|apply τt|apply τf)))
                      (refine aw_draw 19 ?_ ?_ ?_ ?_; (· kernel_rfl); (· kernel_rfl); (· kernel_rfl))
                      (repeat((conv=>whnf);first|apply ω0|apply ω1|apply ω2|refine τ3 rfl ?_|refine τ4 rfl ?_|refine ⟨rfl,?_⟩|apply τa|refine τb rfl ?_|refine ⟨⟨by kernel_rfl,by kernel_rfl⟩,?_⟩|refine ⟨by decide,?_⟩|apply τt|apply τf))
                      refine ⟨⟨Int.natCast_nonneg _, show ((3 : Nat) : Int) < 5 by decide⟩, splitO_eq (b := .bp (0, nx) (1 + 3)) (congrArg (AV.bp (0, nx)) (by rw [c_intT]; rfl)) ?_⟩
                      (repeat((conv=>whnf);first|apply ω0|apply ω1|apply ω2|refine τ3 rfl ?_|refine τ4 rfl ?_|refine ⟨rfl,?_⟩|apply τa|refine τb rfl ?_|refine ⟨⟨by kernel_rfl,by kernel_rfl⟩,?_⟩|refine ⟨by decide,?_⟩|apply τt|apply τf))
                      (conv => whnf)
                      refine lit_eq hd ?_
                      (repeat((conv=>whnf);first|apply ω0|apply ω1|apply ω2|refine τ3 rfl ?_|refine τ4 rfl ?_|refine ⟨rfl,?_⟩|apply τa|refine τb rfl ?_|refine ⟨⟨by kernel_rfl,by kernel_rfl⟩,?_⟩|refine ⟨by decide,?_⟩|apply τt|apply τf))
                      exact back (3 + 1, nx8) ⟨by dsimp only; omega, fun j hj => by dsimp only at hj; rcases Nat.lt_or_ge j 3 with q | q; exact n4 j q; rw [show j = 3 by omega]; exact e⟩ (by dsimp only; omega) (ele_tell (pm := []) _ [] rfl rfl (List.Sublist.refl _) (List.Sublist.refl _) (BxLe.refl _) trivial ⟨AVle.refl _, AVle.refl _, AVle.refl _, AVle.refl _, AVle.refl _, trivial⟩)
                    | true =>
                      ((repeat((conv=>whnf);first|apply ω0|apply ω2|refine τ3 rfl ?_|refine τ4 rfl ?_|refine ⟨rfl,?_⟩|apply τa|refine τb rfl ?_|refine ⟨⟨by kernel_rfl,by kernel_rfl⟩,?_⟩|refine ⟨by decide,?_⟩|apply τt|apply τf)); refine aw_region ?_; (repeat((conv=>whnf);first|apply ω0|apply ω2|refine τ3 rfl ?_|refine τ4 rfl ?_|refine ⟨rfl,?_⟩|apply τa|refine τb rfl ?_|refine ⟨⟨by kernel_rfl,by kernel_rfl⟩,?_⟩|refine ⟨by decide,?_⟩|apply τt|apply τf)))
                      (refine aw_draw 19 ?_ ?_ ?_ ?_; (· kernel_rfl); (· kernel_rfl); (· kernel_rfl))
                      (repeat((conv=>whnf);first|apply ω0|apply ω1|apply ω2|refine τ3 rfl ?_|refine τ4 rfl ?_|refine ⟨rfl,?_⟩|apply τa|refine τb rfl ?_|refine ⟨⟨by kernel_rfl,by kernel_rfl⟩,?_⟩|refine ⟨by decide,?_⟩|apply τt|apply τf))
                      refine ⟨⟨Int.natCast_nonneg _, show ((3 : Nat) : Int) < 5 by decide⟩, splitO_eq (b := .bp (0, nx) (1 + 3)) (congrArg (AV.bp (0, nx)) (by rw [c_intT]; rfl)) ?_⟩
                      (repeat((conv=>whnf);first|apply ω0|apply ω1|apply ω2|refine τ3 rfl ?_|refine τ4 rfl ?_|refine ⟨rfl,?_⟩|apply τa|refine τb rfl ?_|refine ⟨⟨by kernel_rfl,by kernel_rfl⟩,?_⟩|refine ⟨by decide,?_⟩|apply τt|apply τf))
                      (conv => whnf)
                      refine lit_eq hd ?_
                      (repeat((conv=>whnf);first|apply ω0|apply ω1|apply ω2|refine τ3 rfl ?_|refine τ4 rfl ?_|refine ⟨rfl,?_⟩|apply τa|refine τb rfl ?_|refine ⟨⟨by kernel_rfl,by kernel_rfl⟩,?_⟩|refine ⟨by decide,?_⟩|apply τt|apply τf))
                      refine ⟨⟨by first | omega | (dsimp only; omega), by first | omega | (dsimp only; omega)⟩, ?_⟩
                      (repeat((conv=>whnf);first|apply ω0|apply ω1|apply ω2|refine τ3 rfl ?_|refine τ4 rfl ?_|refine ⟨rfl,?_⟩|apply τa|refine τb rfl ?_|refine ⟨⟨by kernel_rfl,by kernel_rfl⟩,?_⟩|refine ⟨by decide,?_⟩|apply τt|apply τf))
                      refine ⟨⟨Int.natCast_nonneg _, show ((3 : Nat) : Int) < 5 by decide, by rw [c_intT]; exact Nat.le_of_ble_eq_true rfl⟩, splitO_eq (b := .rp (List.drop (1 + 3) (trowC (l.getD k trow0)))) (congrArg AV.rp (by rw [c_intT]; rfl)) ?_⟩
                      (repeat((conv=>whnf);first|apply ω0|apply ω1|apply ω2|refine τ3 rfl ?_|refine τ4 rfl ?_|refine ⟨rfl,?_⟩|apply τa|refine τb rfl ?_|refine ⟨⟨by kernel_rfl,by kernel_rfl⟩,?_⟩|refine ⟨by decide,?_⟩|apply τt|apply τf))
                      refine ⟨⟨Int.natCast_nonneg _, show ((3 : Nat) : Int) < 5 by decide⟩, splitO_eq (b := .bp (0, nx) (1 + 3)) (congrArg (AV.bp (0, nx)) (by rw [c_intT]; rfl)) ?_⟩
                      (repeat((conv=>whnf);first|apply ω0|apply ω1|apply ω2|refine τ3 rfl ?_|refine τ4 rfl ?_|refine ⟨rfl,?_⟩|apply τa|refine τb rfl ?_|refine ⟨⟨by kernel_rfl,by kernel_rfl⟩,?_⟩|refine ⟨by decide,?_⟩|apply τt|apply τf))
                      intro c hc
                      have hc2 : c = decide ((l.getD k trow0).a3 = r.a3) := hc.trans (by rw [Bool.eq_iff_iff]; simp)
                      clear hc
                      rw [hd, ← hc2, Bool.true_and] at hcn
                      clear hc2
                      cases c
                      · have e := hcn
                        (repeat((conv=>whnf);first|apply ω0|apply ω1|apply ω2|refine τ3 rfl ?_|refine τ4 rfl ?_|refine ⟨rfl,?_⟩|apply τa|refine τb rfl ?_|refine ⟨⟨by kernel_rfl,by kernel_rfl⟩,?_⟩|refine ⟨by decide,?_⟩|apply τt|apply τf))
                        exact back (3 + 1, nx8) ⟨by dsimp only; omega, fun j hj => by dsimp only at hj; rcases Nat.lt_or_ge j 3 with q | q; exact n4 j q; rw [show j = 3 by omega]; exact e⟩ (by dsimp only; omega) (ele_tell (pm := []) _ [] rfl rfl (List.Sublist.refl _) (List.Sublist.refl _) (BxLe.refl _) trivial ⟨AVle.refl _, AVle.refl _, AVle.refl _, AVle.refl _, AVle.refl _, trivial⟩)
                      · rw [clash_true hrr hk hi (by rw [clashN_true (a := 3) (by decide) hcn]; rfl), if_pos rfl]
                        (repeat((conv=>whnf);first|apply ω0|apply ω1|apply ω2|refine τ3 rfl ?_|refine τ4 rfl ?_|refine ⟨rfl,?_⟩|apply τa|refine τb rfl ?_|refine ⟨⟨by kernel_rfl,by kernel_rfl⟩,?_⟩|refine ⟨by decide,?_⟩|apply τt|apply τf))
                        exact ret_tells rfl (AVle.refl _)
                  · have hcn : cN r (l.getD k trow0) 4 = (decide (r.a4 ≥ 0) && decide ((l.getD k trow0).a4 = r.a4)) := rfl
                    cases hd : decide (r.a4 ≥ 0) with
                    | false =>
                      have e : cN r (l.getD k trow0) 4 = false := by rw [hcn, hd]; rfl
                      ((repeat((conv=>whnf);first|apply ω0|apply ω2|refine τ3 rfl ?_|refine τ4 rfl ?_|refine ⟨rfl,?_⟩|apply τa|refine τb rfl ?_|refine ⟨⟨by kernel_rfl,by kernel_rfl⟩,?_⟩|refine ⟨by decide,?_⟩|apply τt|apply τf)); refine aw_region ?_; (repeat((conv=>whnf);first|apply ω0|apply ω2|refine τ3 rfl ?_|refine τ4 rfl ?_|refine ⟨rfl,?_⟩|apply τa|refine τb rfl ?_|refine ⟨⟨by kernel_rfl,by kernel_rfl⟩,?_⟩|refine ⟨by decide,?_⟩|apply τt|apply τf)))
                      (refine aw_draw 19 ?_ ?_ ?_ ?_; (· kernel_rfl); (· kernel_rfl); (· kernel_rfl))
                      (repeat((conv=>whnf);first|apply ω0|apply ω1|apply ω2|refine τ3 rfl ?_|refine τ4 rfl ?_|refine ⟨rfl,?_⟩|apply τa|refine τb rfl ?_|refine ⟨⟨by kernel_rfl,by kernel_rfl⟩,?_⟩|refine ⟨by decide,?_⟩|apply τt|apply τf))
                      refine ⟨⟨Int.natCast_nonneg _, show ((4 : Nat) : Int) < 5 by decide⟩, splitO_eq (b := .bp (0, nx) (1 + 4)) (congrArg (AV.bp (0, nx)) (by rw [c_intT]; rfl)) ?_⟩
                      (repeat((conv=>whnf);first|apply ω0|apply ω1|apply ω2|refine τ3 rfl ?_|refine τ4 rfl ?_|refine ⟨rfl,?_⟩|apply τa|refine τb rfl ?_|refine ⟨⟨by kernel_rfl,by kernel_rfl⟩,?_⟩|refine ⟨by decide,?_⟩|apply τt|apply τf))
                      (conv => whnf)
                      refine lit_eq hd ?_
                      (repeat((conv=>whnf);first|apply ω0|apply ω1|apply ω2|refine τ3 rfl ?_|refine τ4 rfl ?_|refine ⟨rfl,?_⟩|apply τa|refine τb rfl ?_|refine ⟨⟨by kernel_rfl,by kernel_rfl⟩,?_⟩|refine ⟨by decide,?_⟩|apply τt|apply τf))
                      exact back (4 + 1, nx8) ⟨by dsimp only; omega, fun j hj => by dsimp only at hj; rcases Nat.lt_or_ge j 4 with q | q; exact n4 j q; rw [show j = 4 by omega]; exact e⟩ (by dsimp only; omega) (ele_tell (pm := []) _ [] rfl rfl (List.Sublist.refl _) (List.Sublist.refl _) (BxLe.refl _) trivial ⟨AVle.refl _, AVle.refl _, AVle.refl _, AVle.refl _, AVle.refl _, trivial⟩)
                    | true =>
                      ((repeat((conv=>whnf);first|apply ω0|apply ω2|refine τ3 rfl ?_|refine τ4 rfl ?_|refine ⟨rfl,?_⟩|apply τa|refine τb rfl ?_|refine ⟨⟨by kernel_rfl,by kernel_rfl⟩,?_⟩|refine ⟨by decide,?_⟩|apply τt|apply τf)); refine aw_region ?_; (repeat((conv=>whnf);first|apply ω0|apply ω2|refine τ3 rfl ?_|refine τ4 rfl ?_|refine ⟨rfl,?_⟩|apply τa|refine τb rfl ?_|refine ⟨⟨by kernel_rfl,by kernel_rfl⟩,?_⟩|refine ⟨by decide,?_⟩|apply τt|apply τf)))
                      (refine aw_draw 19 ?_ ?_ ?_ ?_; (· kernel_rfl); (· kernel_rfl); (· kernel_rfl))
                      (repeat((conv=>whnf);first|apply ω0|apply ω1|apply ω2|refine τ3 rfl ?_|refine τ4 rfl ?_|refine ⟨rfl,?_⟩|apply τa|refine τb rfl ?_|refine ⟨⟨by kernel_rfl,by kernel_rfl⟩,?_⟩|refine ⟨by decide,?_⟩|apply τt|apply τf))
                      refine ⟨⟨Int.natCast_nonneg _, show ((4 : Nat) : Int) < 5 by decide⟩, splitO_eq (b := .bp (0, nx) (1 + 4)) (congrArg (AV.bp (0, nx)) (by rw [c_intT]; rfl)) ?_⟩
                      (repeat((conv=>whnf);first|apply ω0|apply ω1|apply ω2|refine τ3 rfl ?_|refine τ4 rfl ?_|refine ⟨rfl,?_⟩|apply τa|refine τb rfl ?_|refine ⟨⟨by kernel_rfl,by kernel_rfl⟩,?_⟩|refine ⟨by decide,?_⟩|apply τt|apply τf))
                      (conv => whnf)
                      refine lit_eq hd ?_
                      (repeat((conv=>whnf);first|apply ω0|apply ω1|apply ω2|refine τ3 rfl ?_|refine τ4 rfl ?_|refine ⟨rfl,?_⟩|apply τa|refine τb rfl ?_|refine ⟨⟨by kernel_rfl,by kernel_rfl⟩,?_⟩|refine ⟨by decide,?_⟩|apply τt|apply τf))
                      refine ⟨⟨by first | omega | (dsimp only; omega), by first | omega | (dsimp only; omega)⟩, ?_⟩
                      (repeat((conv=>whnf);first|apply ω0|apply ω1|apply ω2|refine τ3 rfl ?_|refine τ4 rfl ?_|refine ⟨rfl,?_⟩|apply τa|refine τb rfl ?_|refine ⟨⟨by kernel_rfl,by kernel_rfl⟩,?_⟩|refine ⟨by decide,?_⟩|apply τt|apply τf))
                      refine ⟨⟨Int.natCast_nonneg _, show ((4 : Nat) : Int) < 5 by decide, by rw [c_intT]; exact Nat.le_of_ble_eq_true rfl⟩, splitO_eq (b := .rp (List.drop (1 + 4) (trowC (l.getD k trow0)))) (congrArg AV.rp (by rw [c_intT]; rfl)) ?_⟩
                      (repeat((conv=>whnf);first|apply ω0|apply ω1|apply ω2|refine τ3 rfl ?_|refine τ4 rfl ?_|refine ⟨rfl,?_⟩|apply τa|refine τb rfl ?_|refine ⟨⟨by kernel_rfl,by kernel_rfl⟩,?_⟩|refine ⟨by decide,?_⟩|apply τt|apply τf))
                      refine ⟨⟨Int.natCast_nonneg _, show ((4 : Nat) : Int) < 5 by decide⟩, splitO_eq (b := .bp (0, nx) (1 + 4)) (congrArg (AV.bp (0, nx)) (by rw [c_intT]; rfl)) ?_⟩
                      (repeat((conv=>whnf);first|apply ω0|apply ω1|apply ω2|refine τ3 rfl ?_|refine τ4 rfl ?_|refine ⟨rfl,?_⟩|apply τa|refine τb rfl ?_|refine ⟨⟨by kernel_rfl,by kernel_rfl⟩,?_⟩|refine ⟨by decide,?_⟩|apply τt|apply τf))
                      intro c hc
                      have hc2 : c = decide ((l.getD k trow0).a4 = r.a4) := hc.trans (by rw [Bool.eq_iff_iff]; simp)
                      clear hc
                      rw [hd, ← hc2, Bool.true_and] at hcn
                      clear hc2
                      cases c
                      · have e := hcn
                        (repeat((conv=>whnf);first|apply ω0|apply ω1|apply ω2|refine τ3 rfl ?_|refine τ4 rfl ?_|refine ⟨rfl,?_⟩|apply τa|refine τb rfl ?_|refine ⟨⟨by kernel_rfl,by kernel_rfl⟩,?_⟩|refine ⟨by decide,?_⟩|apply τt|apply τf))
                        exact back (4 + 1, nx8) ⟨by dsimp only; omega, fun j hj => by dsimp only at hj; rcases Nat.lt_or_ge j 4 with q | q; exact n4 j q; rw [show j = 4 by omega]; exact e⟩ (by dsimp only; omega) (ele_tell (pm := []) _ [] rfl rfl (List.Sublist.refl _) (List.Sublist.refl _) (BxLe.refl _) trivial ⟨AVle.refl _, AVle.refl _, AVle.refl _, AVle.refl _, AVle.refl _, trivial⟩)
                      · rw [clash_true hrr hk hi (by rw [clashN_true (a := 4) (by decide) hcn]; rfl), if_pos rfl]
                        (repeat((conv=>whnf);first|apply ω0|apply ω1|apply ω2|refine τ3 rfl ?_|refine τ4 rfl ?_|refine ⟨rfl,?_⟩|apply τa|refine τb rfl ?_|refine ⟨⟨by kernel_rfl,by kernel_rfl⟩,?_⟩|refine ⟨by decide,?_⟩|apply τt|apply τf))
                        exact ret_tells rfl (AVle.refl _)
                  · have hN := clashN_false n4
                    have hM := clashM_tests r (l.getD k trow0)
                    cases hd1 : decide (r.mux > 0) with
                    | false =>
                      have e : clashM r (l.getD k trow0) = false := by rw [hM, hd1]; rfl
                      ((repeat((conv=>whnf);first|apply ω0|apply ω2|refine τ3 rfl ?_|refine τ4 rfl ?_|refine ⟨rfl,?_⟩|apply τa|refine τb rfl ?_|refine ⟨⟨by kernel_rfl,by kernel_rfl⟩,?_⟩|refine ⟨by decide,?_⟩|apply τt|apply τf)); refine aw_region ?_; (repeat((conv=>whnf);first|apply ω0|apply ω2|refine τ3 rfl ?_|refine τ4 rfl ?_|refine ⟨rfl,?_⟩|apply τa|refine τb rfl ?_|refine ⟨⟨by kernel_rfl,by kernel_rfl⟩,?_⟩|refine ⟨by decide,?_⟩|apply τt|apply τf)))
                      (refine aw_draw 23 ?_ ?_ ?_ ?_; (· kernel_rfl); (· kernel_rfl); (· kernel_rfl))
                      (repeat((conv=>whnf);first|apply ω0|apply ω1|apply ω2|refine τ3 rfl ?_|refine τ4 rfl ?_|refine ⟨rfl,?_⟩|apply τa|refine τb rfl ?_|refine ⟨⟨by kernel_rfl,by kernel_rfl⟩,?_⟩|refine ⟨by decide,?_⟩|apply τt|apply τf))
                      (conv => whnf)
                      refine lit_eq hd1 ?_
                      (repeat((conv=>whnf);first|apply ω0|apply ω1|apply ω2|refine τ3 rfl ?_|refine τ4 rfl ?_|refine ⟨rfl,?_⟩|apply τa|refine τb rfl ?_|refine ⟨⟨by kernel_rfl,by kernel_rfl⟩,?_⟩|refine ⟨by decide,?_⟩|apply τt|apply τf))
                      exact back (k + 1, nx8) ⟨by dsimp only; omega, fun j hj => by dsimp only at hj; rcases Nat.lt_or_ge j k with q | q; exact m4 j q; rw [show j = k by omega, hN, Bool.false_or]; exact e⟩ (by dsimp only; omega) (ele_tell (pm := []) _ [] rfl rfl (List.Sublist.refl _) (List.Sublist.refl _) (BxLe.refl _) trivial ⟨AVle.refl _, AVle.refl _, AVle.refl _, le_int (wrap_succ (by first | omega | (dsimp only; omega))), trivial⟩)
                    | true =>
                      cases hd2 : ((l.getD k trow0).mux == r.mux) with
                      | false =>
                        have e : clashM r (l.getD k trow0) = false := by rw [hM, hd1, hd2]; rfl
                        ((repeat((conv=>whnf);first|apply ω0|apply ω2|refine τ3 rfl ?_|refine τ4 rfl ?_|refine ⟨rfl,?_⟩|apply τa|refine τb rfl ?_|refine ⟨⟨by kernel_rfl,by kernel_rfl⟩,?_⟩|refine ⟨by decide,?_⟩|apply τt|apply τf)); refine aw_region ?_; (repeat((conv=>whnf);first|apply ω0|apply ω2|refine τ3 rfl ?_|refine τ4 rfl ?_|refine ⟨rfl,?_⟩|apply τa|refine τb rfl ?_|refine ⟨⟨by kernel_rfl,by kernel_rfl⟩,?_⟩|refine ⟨by decide,?_⟩|apply τt|apply τf)))
                        (refine aw_draw 23 ?_ ?_ ?_ ?_; (· kernel_rfl); (· kernel_rfl); (· kernel_rfl))
                        (repeat((conv=>whnf);first|apply ω0|apply ω1|apply ω2|refine τ3 rfl ?_|refine τ4 rfl ?_|refine ⟨rfl,?_⟩|apply τa|refine τb rfl ?_|refine ⟨⟨by kernel_rfl,by kernel_rfl⟩,?_⟩|refine ⟨by decide,?_⟩|apply τt|apply τf))
                        (conv => whnf)
                        refine lit_eq hd1 ?_
                        (repeat((conv=>whnf);first|apply ω0|apply ω1|apply ω2|refine τ3 rfl ?_|refine τ4 rfl ?_|refine ⟨rfl,?_⟩|apply τa|refine τb rfl ?_|refine ⟨⟨by kernel_rfl,by kernel_rfl⟩,?_⟩|refine ⟨by decide,?_⟩|apply τt|apply τf))
                        refine ⟨⟨by first | omega | (dsimp only; omega), by first | omega | (dsimp only; omega)⟩, ?_⟩
                        (repeat((conv=>whnf);first|apply ω0|apply ω1|apply ω2|refine τ3 rfl ?_|refine τ4 rfl ?_|refine ⟨rfl,?_⟩|apply τa|refine τb rfl ?_|refine ⟨⟨by kernel_rfl,by kernel_rfl⟩,?_⟩|refine ⟨by decide,?_⟩|apply τt|apply τf))
                        (conv => whnf)
                        refine lit_eq hd2 ?_
                        (repeat((conv=>whnf);first|apply ω0|apply ω1|apply ω2|refine τ3 rfl ?_|refine τ4 rfl ?_|refine ⟨rfl,?_⟩|apply τa|refine τb rfl ?_|refine ⟨⟨by kernel_rfl,by kernel_rfl⟩,?_⟩|refine ⟨by decide,?_⟩|apply τt|apply τf))
                        exact back (k + 1, nx8) ⟨by dsimp only; omega, fun j hj => by dsimp only at hj; rcases Nat.lt_or_ge j k with q | q; exact m4 j q; rw [show j = k by omega, hN, Bool.false_or]; exact e⟩ (by dsimp only; omega) (ele_tell (pm := []) _ [] rfl rfl (List.Sublist.refl _) (List.Sublist.refl _) (BxLe.refl _) trivial ⟨AVle.refl _, AVle.refl _, AVle.refl _, le_int (wrap_succ (by first | omega | (dsimp only; omega))), trivial⟩)
                      | true =>
                        ((repeat((conv=>whnf);first|apply ω0|apply ω2|refine τ3 rfl ?_|refine τ4 rfl ?_|refine ⟨rfl,?_⟩|apply τa|refine τb rfl ?_|refine ⟨⟨by kernel_rfl,by kernel_rfl⟩,?_⟩|refine ⟨by decide,?_⟩|apply τt|apply τf)); refine aw_region ?_; (repeat((conv=>whnf);first|apply ω0|apply ω2|refine τ3 rfl ?_|refine τ4 rfl ?_|refine ⟨rfl,?_⟩|apply τa|refine τb rfl ?_|refine ⟨⟨by kernel_rfl,by kernel_rfl⟩,?_⟩|refine ⟨by decide,?_⟩|apply τt|apply τf)))
                        (refine aw_draw 23 ?_ ?_ ?_ ?_; (· kernel_rfl); (· kernel_rfl); (· kernel_rfl))
                        (repeat((conv=>whnf);first|apply ω0|apply ω1|apply ω2|refine τ3 rfl ?_|refine τ4 rfl ?_|refine ⟨rfl,?_⟩|apply τa|refine τb rfl ?_|refine ⟨⟨by kernel_rfl,by kernel_rfl⟩,?_⟩|refine ⟨by decide,?_⟩|apply τt|apply τf))
                        (conv => whnf)
                        refine lit_eq hd1 ?_
                        (repeat((conv=>whnf);first|apply ω0|apply ω1|apply ω2|refine τ3 rfl ?_|refine τ4 rfl ?_|refine ⟨rfl,?_⟩|apply τa|refine τb rfl ?_|refine ⟨⟨by kernel_rfl,by kernel_rfl⟩,?_⟩|refine ⟨by decide,?_⟩|apply τt|apply τf))
                        refine ⟨⟨by first | omega | (dsimp only; omega), by first | omega | (dsimp only; omega)⟩, ?_⟩
                        (repeat((conv=>whnf);first|apply ω0|apply ω1|apply ω2|refine τ3 rfl ?_|refine τ4 rfl ?_|refine ⟨rfl,?_⟩|apply τa|refine τb rfl ?_|refine ⟨⟨by kernel_rfl,by kernel_rfl⟩,?_⟩|refine ⟨by decide,?_⟩|apply τt|apply τf))
                        (conv => whnf)
                        refine lit_eq hd2 ?_
                        (repeat((conv=>whnf);first|apply ω0|apply ω1|apply ω2|refine τ3 rfl ?_|refine τ4 rfl ?_|refine ⟨rfl,?_⟩|apply τa|refine τb rfl ?_|refine ⟨⟨by kernel_rfl,by kernel_rfl⟩,?_⟩|refine ⟨by decide,?_⟩|apply τt|apply τf))
                        refine ⟨⟨by first | omega | (dsimp only; omega), by first | omega | (dsimp only; omega)⟩, ?_⟩
                        (repeat((conv=>whnf);first|apply ω0|apply ω1|apply ω2|refine τ3 rfl ?_|refine τ4 rfl ?_|refine ⟨rfl,?_⟩|apply τa|refine τb rfl ?_|refine ⟨⟨by kernel_rfl,by kernel_rfl⟩,?_⟩|refine ⟨by decide,?_⟩|apply τt|apply τf))
                        intro c hc
                        have hc2 : c = ((l.getD k trow0).sub == r.sub) := hc
                        clear hc
                        rw [hd1, hd2, ← hc2, Bool.true_and, Bool.true_and] at hM
                        clear hc2
                        cases c
                        · have e := hM
                          (repeat((conv=>whnf);first|apply ω0|apply ω1|apply ω2|refine τ3 rfl ?_|refine τ4 rfl ?_|refine ⟨rfl,?_⟩|apply τa|refine τb rfl ?_|refine ⟨⟨by kernel_rfl,by kernel_rfl⟩,?_⟩|refine ⟨by decide,?_⟩|apply τt|apply τf))
                          exact back (k + 1, nx8) ⟨by dsimp only; omega, fun j hj => by dsimp only at hj; rcases Nat.lt_or_ge j k with q | q; exact m4 j q; rw [show j = k by omega, hN, Bool.false_or]; exact e⟩ (by dsimp only; omega) (ele_tell (pm := []) _ [] rfl rfl (List.Sublist.refl _) (List.Sublist.refl _) (BxLe.refl _) trivial ⟨AVle.refl _, AVle.refl _, AVle.refl _, le_int (wrap_succ (by first | omega | (dsimp only; omega))), trivial⟩)
                        · rw [clash_true hrr hk hi (by rw [hM, Bool.or_true]), if_pos rfl]
                          (repeat((conv=>whnf);first|apply ω0|apply ω1|apply ω2|refine τ3 rfl ?_|refine τ4 rfl ?_|refine ⟨rfl,?_⟩|apply τa|refine τb rfl ?_|refine ⟨⟨by kernel_rfl,by kernel_rfl⟩,?_⟩|refine ⟨by decide,?_⟩|apply τt|apply τf))
                          exact ret_tells rfl (AVle.refl _)
end Go.Proofs.W

namespace Go.Proofs.W
open Go.Vl
set_option maxRecDepth 100000

def right11 (l : List TRow) : Int × Int := if 400 < l.length then (0, 3) else match (List.range l.length).find? (fun i => decide (rowI l i ≠ 0)) with
  | some i => ((i : Int), rowI l i)
  | none => (0, 0)
theorem find_range {n : Nat} {p : Nat → Bool} {i : Nat} (hi : i < n) (h : ∀ j, j < i → p j = false) (hp : p i = true) : (List.range n).find? p = some i := by
  rw [List.find?_range_eq_some]
  exact ⟨hp, List.mem_range.2 hi, fun j hj => by rw [h j hj]; rfl⟩
theorem find_range0 {n : Nat} {p : Nat → Bool} (h : ∀ j, j < n → p j = false) : (List.range n).find? p = none := by
  rw [List.find?_eq_none]
  intro x hx
  rw [h x (List.mem_range.1 hx)]; decide
theorem ref11right_spec (l : List TRow) (hl : l.length ≤ 1000000) : Tells Tryz.prog 9 [trows l] (.tup [int (right11 l).1, int (right11 l).2]) := by
  unfold right11
  refine tells_of_aw Tryz.func9 rfl rfl fun nx => ?_
  by_cases h4 : 400 < l.length
  · rw [if_pos h4]
    (repeat((conv=>whnf);first|apply ω0|apply ω1|apply ω2|refine τ3 rfl ?_|refine τ4 rfl ?_|refine ⟨rfl,?_⟩|apply τa|refine τb rfl ?_|refine ⟨⟨by kernel_rfl,by kernel_rfl⟩,?_⟩|refine ⟨by decide,?_⟩|apply τt|apply τf))
    intro c hc
    obtain rfl : c = true := hc.trans (decide_eq_true (by omega))
    (repeat((conv=>whnf);first|apply ω0|apply ω1|apply ω2|refine τ3 rfl ?_|refine τ4 rfl ?_|refine ⟨rfl,?_⟩|apply τa|refine τb rfl ?_|refine ⟨⟨by kernel_rfl,by kernel_rfl⟩,?_⟩|refine ⟨by decide,?_⟩|apply τt|apply τf))
    exact ret_tells rfl (AVle.refl _)
  · rw [if_neg h4]
    (repeat((conv=>whnf);first|apply ω0|apply ω1|apply ω2|refine τ3 rfl ?_|refine τ4 rfl ?_|refine ⟨rfl,?_⟩|apply τa|refine τb rfl ?_|refine ⟨⟨by kernel_rfl,by kernel_rfl⟩,?_⟩|refine ⟨by decide,?_⟩|apply τt|apply τf))
    intro c hc
    obtain rfl : c = false := hc.trans (decide_eq_false (by omega))
    (repeat((conv=>whnf);first|apply ω0|apply ω1|apply ω2|refine τ3 rfl ?_|refine τ4 rfl ?_|refine ⟨rfl,?_⟩|apply τa|refine τb rfl ?_|refine ⟨⟨by kernel_rfl,by kernel_rfl⟩,?_⟩|refine ⟨by decide,?_⟩|apply τt|apply τf))
    refine aw_loop (fun y : Nat × Nat => mk 22 [(0, trows l), (4, int y.1)] ⟨[], [], y.2, 0⟩) (fun y => y.1 ≤ l.length ∧ ∀ j, j < y.1 → rowI l j = 0) (fun y => l.length - y.1) ?_ ?_
    · exact ⟨(0, nx), ⟨Nat.zero_le _, fun j hj => absurd hj (Nat.not_lt_zero _)⟩, ele_mk rfl rfl ⟨AVle.refl _, AVle.refl _, trivial⟩⟩
    · rintro ⟨i, nx2⟩ ⟨h1, h2⟩
      dsimp only at h1 h2
      (repeat((conv=>whnf);first|apply ω0|apply ω1|apply ω2|refine τ3 rfl ?_|refine τ4 rfl ?_|refine ⟨rfl,?_⟩|apply τa|refine τb rfl ?_|refine ⟨⟨by kernel_rfl,by kernel_rfl⟩,?_⟩|refine ⟨by decide,?_⟩|apply τt|apply τf))
      intro c g; cases c
      · have g := not_of g
        try dsimp only at g
        have hi : i = l.length := by omega
        subst hi
        rw [find_range0 (fun j hj => decide_eq_false (fun q => q (h2 j hj)))]
        (repeat((conv=>whnf);first|apply ω0|apply ω1|apply ω2|refine τ3 rfl ?_|refine τ4 rfl ?_|refine ⟨rfl,?_⟩|apply τa|refine τb rfl ?_|refine ⟨⟨by kernel_rfl,by kernel_rfl⟩,?_⟩|refine ⟨by decide,?_⟩|apply τt|apply τf))
        exact ret_tells rfl (AVle.refl _)
      · have g := yes_of g
        try dsimp only at g
        have hi : i < l.length := by omega
        have hrow := ref11row_spec l i hi hl
        (repeat((conv=>whnf);first|apply ω0|apply ω1|apply ω2|refine τ3 rfl ?_|refine τ4 rfl ?_|refine ⟨rfl,?_⟩|apply τa|refine τb rfl ?_|refine ⟨⟨by kernel_rfl,by kernel_rfl⟩,?_⟩|refine ⟨by decide,?_⟩|apply τt|apply τf))
        refine aop_tells rfl rfl hrow ⟨AVle.refl _, AVle.refl _, trivial⟩ fun nx3 => ?_
        (repeat((conv=>whnf);first|apply ω0|apply ω1|apply ω2|refine τ3 rfl ?_|refine τ4 rfl ?_|refine ⟨rfl,?_⟩|apply τa|refine τb rfl ?_|refine ⟨⟨by kernel_rfl,by kernel_rfl⟩,?_⟩|refine ⟨by decide,?_⟩|apply τt|apply τf))
        intro c hc
        have hc2 : c = decide (rowI l i ≠ 0) := hc.trans (by rw [Bool.eq_iff_iff]; simp)
        clear hc
        cases c
        · have e : rowI l i = 0 := by have := of_decide_eq_false hc2.symm; omega
          clear hc2
          (repeat((conv=>whnf);first|apply ω0|apply ω1|apply ω2|refine τ3 rfl ?_|refine τ4 rfl ?_|refine ⟨rfl,?_⟩|apply τa|refine τb rfl ?_|refine ⟨⟨by kernel_rfl,by kernel_rfl⟩,?_⟩|refine ⟨by decide,?_⟩|apply τt|apply τf))
          exact back (i + 1, nx3) ⟨hi, fun j hj => by dsimp only at hj; rcases Nat.lt_or_ge j i with q | q; exact h2 j q; rw [show j = i by omega]; exact e⟩ (by dsimp only; omega) (ele_mk rfl rfl ⟨AVle.refl _, le_int (wrap_succ (by first | omega | (dsimp only; omega))), trivial⟩)
        · have e : (List.range l.length).find? (fun i => decide (rowI l i ≠ 0)) = some i := find_range hi (fun j hj => decide_eq_false (fun q => q (h2 j hj))) hc2.symm
          clear hc2
          rw [e]
          (repeat((conv=>whnf);first|apply ω0|apply ω1|apply ω2|refine τ3 rfl ?_|refine τ4 rfl ?_|refine ⟨rfl,?_⟩|apply τa|refine τb rfl ?_|refine ⟨⟨by kernel_rfl,by kernel_rfl⟩,?_⟩|refine ⟨by decide,?_⟩|apply τt|apply τf))
          exact ret_tells rfl (AVle.refl _)
end Go.Proofs.W

namespace Go.Proofs.W
open Go.Vl
set_option maxRecDepth 100000

/-- What was seen of the rows so far. -/
def SeenOf (l : List TRow) (k : Nat) (S : Seen) : Prop := (∀ (a : Nat) (n : Int), a < 5 → (((a : Int), n) ∈ S ↔ n ≠ -1 ∧ ∃ j, j < k ∧ (l.getD j trow0).num a = n)) ∧ (∀ m s : Int, m = 1 ∨ m = 2 → ((5 + m, s) ∈ S ↔ ∃ j, j < k ∧ (l.getD j trow0).mux = m ∧ (l.getD j trow0).sub = s))
theorem numsR_none {r : TRow} {S : Seen} : ∀ {k : Nat}, numsR r S k = none → ∃ a, a < k ∧ r.num a ≠ -1 ∧ ((a : Int), r.num a) ∈ S
  | 0, h => by unfold numsR at h; cases h
  | k + 1, h => by
    unfold numsR at h
    cases hk : numsR r S k with
    | none => obtain ⟨a, h1, h2⟩ := numsR_none hk; exact ⟨a, by omega, h2⟩
    | some S' =>
      rw [hk] at h
      dsimp only at h
      split at h
      · cases h
      · rename_i hn
        split at h
        · rename_i hm
          refine ⟨k, Nat.lt_succ_self _, hn, ?_⟩
          have : ∀ {m : Nat} {S' : Seen}, numsR r S m = some S' → ∀ x ∈ S', x ∈ S ∨ ∃ a, a < m ∧ x = ((a : Int), r.num a) := by
            intro m
            induction m with
            | zero => intro S' h x hx; unfold numsR at h; cases h; exact .inl hx
            | succ m ih =>
              intro S' h x hx
              unfold numsR at h
              cases hm : numsR r S m with
              | none => rw [hm] at h; cases h
              | some S1 =>
                rw [hm] at h
                dsimp only at h
                split at h
                · cases h
                  rcases ih hm x hx with q | ⟨a, q1, q2⟩
                  · exact .inl q
                  · exact .inr ⟨a, by omega, q2⟩
                · split at h
                  · cases h
                  · cases h
                    rcases List.mem_append.1 hx with hx | hx
                    · rcases ih hm x hx with q | ⟨a, q1, q2⟩
                      · exact .inl q
                      · exact .inr ⟨a, by omega, q2⟩
                    · exact .inr ⟨m, Nat.lt_succ_self _, List.mem_singleton.1 hx⟩
          rcases this hk _ hm with q | ⟨a, q1, q2⟩
          · exact q
          · have := congrArg Prod.fst q2
            dsimp only at this
            omega
        · cases h
theorem numsR_some {r : TRow} {S : Seen} : ∀ {k : Nat} {S' : Seen}, numsR r S k = some S' → (∀ x, x ∈ S' ↔ x ∈ S ∨ ∃ a, a < k ∧ r.num a ≠ -1 ∧ x = ((a : Int), r.num a)) ∧ ∀ a, a < k → r.num a ≠ -1 → ¬ ((a : Int), r.num a) ∈ S
  | 0, S', h => by
    unfold numsR at h; cases h
    exact ⟨fun x => ⟨.inl, fun q => by rcases q with q | ⟨a, q, _⟩; exact q; omega⟩, fun a ha => by omega⟩
  | k + 1, S', h => by
    unfold numsR at h
    cases hk : numsR r S k with
    | none => rw [hk] at h; cases h
    | some S1 =>
      rw [hk] at h
      dsimp only at h
      obtain ⟨i1, i2⟩ := numsR_some hk
      split at h
      · rename_i hn
        cases h
        refine ⟨fun x => (i1 x).trans ⟨fun q => ?_, fun q => ?_⟩, fun a ha hna => ?_⟩
        · rcases q with q | ⟨a, q1, q2⟩
          · exact .inl q
          · exact .inr ⟨a, by omega, q2⟩
        · rcases q with q | ⟨a, q1, q2⟩
          · exact .inl q
          · rcases Nat.lt_or_ge a k with w | w
            · exact .inr ⟨a, w, q2⟩
            · rw [show a = k by omega] at q2; exact absurd hn q2.1
        · rcases Nat.lt_or_ge a k with w | w
          · exact i2 a w hna
          · rw [show a = k by omega] at hna; exact absurd hn hna
      · rename_i hn
        split at h
        · cases h
        · rename_i hm
          cases h
          refine ⟨fun x => ?_, fun a ha hna => ?_⟩
          · rw [List.mem_append, i1, List.mem_singleton]
            constructor
            · rintro ((q | ⟨a, q1, q2⟩) | q)
              · exact .inl q
              · exact .inr ⟨a, by omega, q2⟩
              · exact .inr ⟨k, Nat.lt_succ_self _, hn, q⟩
            · rintro (q | ⟨a, q1, q2, q3⟩)
              · exact .inl (.inl q)
              · rcases Nat.lt_or_ge a k with w | w
                · exact .inl (.inr ⟨a, w, q2, q3⟩)
                · rw [show a = k by omega] at q3; exact .inr q3
          · rcases Nat.lt_or_ge a k with w | w
            · exact i2 a w hna
            · rw [show a = k by omega]
              exact fun q => hm ((i1 _).2 (.inl q))
theorem clash_iff {l : List TRow} {i : Nat} (hi : i < l.length) : clashB l i = true ↔ ∃ j, j < i ∧ ((∃ a, a < 5 ∧ 0 ≤ (l.getD i trow0).num a ∧ (l.getD j trow0).num a = (l.getD i trow0).num a) ∨ (0 < (l.getD i trow0).mux ∧ (l.getD j trow0).mux = (l.getD i trow0).mux ∧ (l.getD j trow0).sub = (l.getD i trow0).sub)) := by
  constructor
  · intro h
    unfold clashB at h
    rw [List.any_eq_true] at h
    obtain ⟨s, hs, h⟩ := h
    obtain ⟨j, hj, rfl⟩ := List.mem_iff_getElem.1 hs
    rw [List.length_take] at hj
    rw [List.getElem_take] at h
    have hg : l.getD j trow0 = l[j] := by simp [List.getD, show j < l.length by omega]
    refine ⟨j, by omega, ?_⟩
    rw [hg]
    rw [Bool.or_eq_true] at h
    rcases h with h | h
    · left
      unfold clashN at h
      rw [List.any_eq_true] at h
      obtain ⟨a, ha, h⟩ := h
      rw [Bool.and_eq_true, decide_eq_true_iff, decide_eq_true_iff] at h
      exact ⟨a, by simp at ha; omega, h⟩
    · right
      unfold clashM at h
      rw [Bool.and_eq_true, Bool.and_eq_true, decide_eq_true_iff, decide_eq_true_iff, decide_eq_true_iff] at h
      exact h
  · rintro ⟨j, hj, h⟩
    refine clash_true rfl hj hi ?_
    rw [Bool.or_eq_true]
    rcases h with ⟨a, ha, h1, h2⟩ | ⟨h1, h2, h3⟩
    · exact .inl (clashN_true ha (by unfold cN; rw [decide_eq_true h1, decide_eq_true h2]; rfl))
    · exact .inr (by unfold clashM; rw [decide_eq_true h1, decide_eq_true h2, decide_eq_true h3]; rfl)
theorem bad_num {r : TRow} (h : badR r = false) {a : Nat} (ha : a < 5) : -1 ≤ r.num a := by
  have : badN (r.num a) = false := by
    cases hq : badN (r.num a) with
    | false => rfl
    | true => rw [bad_some ha hq.symm] at h; cases h
  unfold badN at this
  rw [Bool.or_eq_false_iff, decide_eq_false_iff_not] at this
  omega
theorem row_iff {l : List TRow} {i : Nat} {S : Seen} (hi : i < l.length) (hS : SeenOf l i S) : (rowI l i = 0 → ∃ S', rowE l i S = .ok S' ∧ SeenOf l (i + 1) S') ∧ (rowI l i ≠ 0 → ∃ e, rowE l i S = .error e ∧ e ≠ 0) := by
  obtain ⟨s1, s2⟩ := hS
  cases hn : nameB (l.getD i trow0).name.data.toList with
  | false => rw [rowI_13 hn]; exact ⟨(fun h => by cases h), fun _ => ⟨13, rowE_13 hn, by decide⟩⟩
  | true =>
    rw [rowI_ord hn]
    cases ho : ordB l i with
    | true => rw [if_pos rfl]; exact ⟨(fun h => by cases h), fun _ => ⟨15, rowE_15 hn ho, by decide⟩⟩
    | false =>
      rw [if_neg (by decide)]
      cases hb : badR (l.getD i trow0) with
      | true =>
        rw [if_pos rfl]
        exact ⟨(fun h => by cases h), fun _ => ⟨16, rowE_16 hn ho (by rw [ranged_eq, hb]; rfl), by decide⟩⟩
      | false =>
        rw [if_neg (by decide)]
        cases hm : muxBad (l.getD i trow0) with
        | true =>
          rw [if_pos rfl]
          exact ⟨(fun h => by cases h), fun _ => ⟨16, rowE_16 hn ho (by rw [ranged_eq, hb, hm]; rfl), by decide⟩⟩
        | false =>
          rw [if_neg (by decide)]
          have hrg : rangedR (l.getD i trow0) = true := by rw [ranged_eq, hb, hm]; rfl
          cases ha : a2Bad (l.getD i trow0) with
          | true =>
            rw [if_pos rfl]
            have ha' : (l.getD i trow0).a2 = 102 ∨ (l.getD i trow0).a2 = 117 := by unfold a2Bad at ha; simpa using ha
            exact ⟨(fun h => by cases h), fun _ => ⟨17, rowE_17 hn ho hrg ha', by decide⟩⟩
          | false =>
            rw [if_neg (by decide)]
            have ha' : ¬ ((l.getD i trow0).a2 = 102 ∨ (l.getD i trow0).a2 = 117) := fun q => by
              unfold a2Bad at ha
              rcases q with q | q
              · rw [decide_eq_true q] at ha; cases ha
              · rw [decide_eq_true q, Bool.or_true] at ha; cases ha
            rw [rowE_rest hn ho hrg ha']
            cases hns : numsR (l.getD i trow0) S 5 with
            | none =>
              obtain ⟨a, h1, h2, h3⟩ := numsR_none hns
              obtain ⟨_, j, hj, h4⟩ := (s1 a _ h1).1 h3
              have hc : clashB l i = true := (clash_iff hi).2 ⟨j, hj, .inl ⟨a, h1, by have := bad_num hb h1; omega, h4⟩⟩
              rw [hc, if_pos rfl]
              exact ⟨(fun h => by cases h), fun _ => ⟨15, rfl, by decide⟩⟩
            | some S1 =>
              obtain ⟨i1, i2⟩ := numsR_some hns
              dsimp only
              have hnoN : ∀ j, j < i → ∀ a, a < 5 → 0 ≤ (l.getD i trow0).num a → (l.getD j trow0).num a ≠ (l.getD i trow0).num a := fun j hj a h1 h2 h3 => i2 a h1 (by omega) ((s1 a _ h1).2 ⟨by omega, j, hj, h3⟩)
              have hS1 : ∀ (a : Nat) (n : Int), a < 5 → (((a : Int), n) ∈ S1 ↔ n ≠ -1 ∧ ∃ j, j < i + 1 ∧ (l.getD j trow0).num a = n) := fun a n h5 => by
                rw [i1, s1 a n h5]
                constructor
                · rintro (⟨q1, j, q2, q3⟩ | ⟨b, q1, q2, q3⟩)
                  · exact ⟨q1, j, by omega, q3⟩
                  · have e1 : a = b := by have := congrArg Prod.fst q3; dsimp only at this; omega
                    have e2 : n = (l.getD i trow0).num b := congrArg Prod.snd q3
                    subst e1
                    exact ⟨by rw [e2]; exact q2, i, Nat.lt_succ_self _, e2.symm⟩
                · rintro ⟨q1, j, q2, q3⟩
                  rcases Nat.lt_or_ge j i with w | w
                  · exact .inl ⟨q1, j, w, q3⟩
                  · have e : j = i := by omega
                    subst e
                    exact .inr ⟨a, h5, by rw [q3]; exact q1, by rw [q3]⟩
              unfold muxR
              by_cases hm0 : (l.getD i trow0).mux = 0
              · rw [if_pos hm0]
                have hc : clashB l i = false := by
                  rw [Bool.eq_false_iff, Ne, clash_iff hi]
                  rintro ⟨j, hj, ⟨a, h1, h2, h3⟩ | ⟨h1, _⟩⟩
                  · exact hnoN j hj a h1 h2 h3
                  · omega
                rw [hc, if_neg (by decide)]
                refine ⟨fun _ => ⟨S1, rfl, hS1, fun m s hms => ?_⟩, fun h => absurd rfl h⟩
                rw [i1, s2 m s hms]
                constructor
                · rintro (⟨j, q2, q3⟩ | ⟨b, q1, q2, q3⟩)
                  · exact ⟨j, by omega, q3⟩
                  · have := congrArg Prod.fst q3; dsimp only at this; omega
                · rintro ⟨j, q2, q3, q4⟩
                  rcases Nat.lt_or_ge j i with w | w
                  · exact .inl ⟨j, w, q3, q4⟩
                  · have e : j = i := by omega
                    subst e; omega
              · rw [if_neg hm0]
                have hm12 := ranged_mux hrg hm0
                by_cases hin : (5 + (l.getD i trow0).mux, (l.getD i trow0).sub) ∈ S1
                · rw [if_pos hin]
                  have hinS : (5 + (l.getD i trow0).mux, (l.getD i trow0).sub) ∈ S := by
                    rcases (i1 _).1 hin with q | ⟨b, q1, q2, q3⟩
                    · exact q
                    · have := congrArg Prod.fst q3; dsimp only at this; omega
                  obtain ⟨j, hj, q1, q2⟩ := (s2 _ _ hm12).1 hinS
                  have hc : clashB l i = true := (clash_iff hi).2 ⟨j, hj, .inr ⟨by omega, q1, q2⟩⟩
                  rw [hc, if_pos rfl]
                  exact ⟨(fun h => by cases h), fun _ => ⟨15, rfl, by decide⟩⟩
                · rw [if_neg hin]
                  have hc : clashB l i = false := by
                    rw [Bool.eq_false_iff, Ne, clash_iff hi]
                    rintro ⟨j, hj, ⟨a, h1, h2, h3⟩ | ⟨h1, h2, h3⟩⟩
                    · exact hnoN j hj a h1 h2 h3
                    · exact hin ((i1 _).2 (.inl ((s2 _ _ hm12).2 ⟨j, hj, h2, h3⟩)))
                  rw [hc, if_neg (by decide)]
                  refine ⟨fun _ => ⟨_, rfl, fun a n h5 => ?_, fun m s hms => ?_⟩, fun h => absurd rfl h⟩
                  · rw [List.mem_append, hS1 a n h5, List.mem_singleton]
                    constructor
                    · rintro (q | q)
                      · exact q
                      · have := congrArg Prod.fst q; dsimp only at this; omega
                    · exact .inl
                  · rw [List.mem_append, i1, s2 m s hms, List.mem_singleton]
                    constructor
                    · rintro ((⟨j, q2, q3⟩ | ⟨b, q1, q2, q3⟩) | q)
                      · exact ⟨j, by omega, q3⟩
                      · have := congrArg Prod.fst q3; dsimp only at this; omega
                      · have e1 := congrArg Prod.fst q
                        have e2 := congrArg Prod.snd q
                        dsimp only at e1 e2
                        exact ⟨i, Nat.lt_succ_self _, by omega, e2.symm⟩
                    · rintro ⟨j, q2, q3, q4⟩
                      rcases Nat.lt_or_ge j i with w | w
                      · exact .inl (.inl ⟨j, w, q3, q4⟩)
                      · have e : j = i := by omega
                        subst e
                        exact .inr (by rw [q3, q4])
theorem rowsS_ok {l : List TRow} : ∀ {k : Nat}, k ≤ l.length → (∀ j, j < k → rowI l j = 0) → ∃ S, rowsS l k = .ok S ∧ SeenOf l k S
  | 0, _, _ => ⟨[], rfl, fun a n _ => by simp, fun m s _ => by simp⟩
  | k + 1, hk, h => by
    obtain ⟨S, h1, h2⟩ := rowsS_ok (k := k) (by omega) fun j hj => h j (by omega)
    obtain ⟨S', h3, h4⟩ := (row_iff (by omega) h2).1 (h k (by omega))
    exact ⟨S', rows_next h1 h3, h4⟩
theorem first_bad {l : List TRow} : (∀ j, j < l.length → rowI l j = 0) ∨ ∃ i, i < l.length ∧ rowI l i ≠ 0 ∧ ∀ j, j < i → rowI l j = 0 := by
  have : ∀ n, n ≤ l.length → (∀ j, j < n → rowI l j = 0) ∨ ∃ i, i < l.length ∧ rowI l i ≠ 0 ∧ ∀ j, j < i → rowI l j = 0 := by
    intro n
    induction n with
    | zero => exact fun _ => .inl fun j hj => absurd hj (Nat.not_lt_zero j)
    | succ n ih =>
      intro hn
      rcases ih (by omega) with h | h
      · by_cases q : rowI l n = 0
        · exact .inl fun j hj => by rcases Nat.lt_or_ge j n with w | w; exact h j w; rw [show j = n by omega]; exact q
        · exact .inr ⟨n, by omega, q, h⟩
      · exact .inr h
  exact this _ (Nat.le_refl _)
theorem tab_right (l : List TRow) : (tabR l).2 = 0 ↔ (right11 l).2 = 0 := by
  by_cases h4 : 400 < l.length
  · unfold tabR right11
    rw [if_pos h4, if_pos h4]
  · rcases first_bad (l := l) with h | ⟨i, hi, h1, h2⟩
    · obtain ⟨S, hS, -⟩ := rowsS_ok (Nat.le_refl _) h
      rw [tab_ok h4 hS]
      unfold right11
      rw [if_neg h4, find_range0 (fun j hj => decide_eq_false (fun q => q (h j hj)))]
    · obtain ⟨S, hS, hs⟩ := rowsS_ok (k := i) (by omega) h2
      obtain ⟨e, he, hne⟩ := (row_iff hi hs).2 h1
      rw [tab_err h4 hi hS he]
      unfold right11
      rw [if_neg h4, find_range (p := fun i => decide (rowI l i ≠ 0)) hi (fun j hj => decide_eq_false (fun q => q (h2 j hj))) (decide_eq_true h1)]
      exact ⟨fun q => absurd q hne, fun q => absurd q h1⟩
theorem right_rows {l : List TRow} (h : (tabR l).2 = 0) : l.length ≤ 400 ∧ ∀ j, j < l.length → rowI l j = 0 := by
  rw [tab_right] at h
  unfold right11 at h
  by_cases h4 : 400 < l.length
  · rw [if_pos h4] at h; cases h
  · rcases first_bad (l := l) with q | ⟨i, hi, h1, h2⟩
    · exact ⟨by omega, q⟩
    · rw [if_neg h4, find_range (p := fun i => decide (rowI l i ≠ 0)) hi (fun j hj => decide_eq_false (fun q => q (h2 j hj))) (decide_eq_true h1)] at h
      exact absurd h h1
theorem row_good {l : List TRow} {i : Nat} (h : rowI l i = 0) : nameB (l.getD i trow0).name.data.toList = true ∧ ordB l i = false ∧ badR (l.getD i trow0) = false ∧ muxBad (l.getD i trow0) = false ∧ a2Bad (l.getD i trow0) = false ∧ clashB l i = false := by
  cases hn : nameB (l.getD i trow0).name.data.toList with
  | false => rw [rowI_13 hn] at h; cases h
  | true =>
    rw [rowI_ord hn] at h
    split at h
    · cases h
    split at h
    · cases h
    split at h
    · cases h
    split at h
    · cases h
    split at h
    · cases h
    simp_all
theorem tab_sorted {l : List TRow} (h : (tabR l).2 = 0) : sortedT l := by
  obtain ⟨_, hr⟩ := right_rows h
  have step : ∀ i, i + 1 < l.length → Go.Sort.ltStr (l.getD i trow0).name.data.toList (l.getD (i + 1) trow0).name.data.toList = true := fun i hi => by
    have := (row_good (hr (i + 1) hi)).2.1
    unfold ordB at this
    rw [decide_eq_true (Nat.succ_pos i), Bool.true_and] at this
    exact leB_no this
  intro i j hij hj
  have : ∀ n, i + 1 + n < l.length → Go.Sort.ltStr (l.getD i trow0).name.data.toList (l.getD (i + 1 + n) trow0).name.data.toList = true := by
    intro n
    induction n with
    | zero => exact step i
    | succ n ih => exact fun hn => Go.Sort.swo_ltStr.trans _ _ _ (ih (by omega)) (step (i + 1 + n) (by omega))
  have := this (j - i - 1) (by omega)
  rwa [show i + 1 + (j - i - 1) = j by omega] at this
theorem tab_name {l : List TRow} (h : (tabR l).2 = 0) {i : Nat} (hi : i < l.length) : (l.getD i trow0).name.size ≠ 0 := by
  have := (row_good ((right_rows h).2 i hi)).1
  have := ((nameB_ref _).1 this).1
  exact this
end Go.Proofs.W

namespace Go.Proofs.W
open Go.Vl
set_option maxRecDepth 100000

def nameR (l : List TRow) (r : Rec) : ByteArray := (ofI l r).name
def ownN (l : List TRow) (s : ByteArray) (rs : List Rec) : List Rec := rs.filter fun r => kS s (nameR l r)
def xarg (l : List TRow) (r : Rec) (k : Nat) : Nat := argI (ofI l r).abi.toNat r k
theorem addG_no {s : ByteArray} {x : Nat → Nat} : ∀ {G : List Gat}, (∀ g ∈ G, kS s g.name = false) → addG s x G = G ++ [noteG ⟨s, 0, fun _ => 0, fun _ => false⟩ x]
  | [], _ => rfl
  | g :: G, h => by
    show (if kS s g.name = true then _ else g :: addG s x G) = _
    rw [if_neg (by rw [h g (.head _)]; decide), addG_no fun z hz => h z (.tail _ hz)]; rfl
theorem addG_in {s : ByteArray} {x : Nat → Nat} {g : Gat} (hg : g.name = s) {G2 : List Gat} : ∀ {G1 : List Gat}, (∀ z ∈ G1, kS s z.name = false) → addG s x (G1 ++ g :: G2) = G1 ++ noteG g x :: G2
  | [], _ => by
    show (if kS s g.name = true then noteG g x :: _ else _) = noteG g x :: _
    rw [if_pos (kS_eq.2 hg.symm)]
  | z :: G, h => by
    show (if kS s z.name = true then _ else z :: addG s x (G ++ g :: G2)) = _
    rw [if_neg (by rw [h z (.head _)]; decide), addG_in hg fun y hy => h y (.tail _ hy)]; rfl
def OwnOk (l : List TRow) (rs : List Rec) (g : Gat) : Prop := ∃ r0 rest, ownN l g.name rs = r0 :: rest ∧ g.m = rest.length + 1 ∧ (∀ k, g.a k = xarg l r0 k) ∧ ∀ k, g.b k = rest.all fun r => decide (xarg l r0 k = xarg l r k)
structure GInv (l : List TRow) (rs : List Rec) (S : List Gat × Bool) : Prop where
  nd : (S.1.map Gat.name).Nodup
  nz : ∀ g ∈ S.1, g.name.size ≠ 0
  own : ∀ g ∈ S.1, OwnOk l rs g
  all : ∀ r ∈ rs, (nameR l r).size ≠ 0 → ∃ g ∈ S.1, g.name = nameR l r
  x : S.2 = rs.any fun r => decide ((nameR l r).size ≠ 0) && decide ((ofI l r).abi = 1)
theorem ownN_snoc {l : List TRow} {s : ByteArray} {rs : List Rec} {r : Rec} : ownN l s (rs ++ [r]) = if kS s (nameR l r) then ownN l s rs ++ [r] else ownN l s rs := by
  unfold ownN
  rw [List.filter_append, List.filter_cons]
  split <;> simp
theorem own_keep {l : List TRow} {rs : List Rec} {r : Rec} {g : Gat} (h : OwnOk l rs g) (hk : kS g.name (nameR l r) = false) : OwnOk l (rs ++ [r]) g := by
  obtain ⟨r0, rest, h1, h2⟩ := h
  exact ⟨r0, rest, by rw [ownN_snoc, if_neg (by rw [hk]; decide)]; exact h1, h2⟩
theorem own_note {l : List TRow} {rs : List Rec} {r : Rec} {g : Gat} (h : OwnOk l rs g) (hk : g.name = nameR l r) : OwnOk l (rs ++ [r]) (noteG g (xarg l r)) := by
  obtain ⟨r0, rest, h1, h2, h3, h4⟩ := h
  have hm : ¬ g.m = 0 := by omega
  unfold noteG
  rw [if_neg hm]
  refine ⟨r0, rest ++ [r], ?_, by dsimp only; rw [h2]; simp, h3, fun k => ?_⟩
  · dsimp only
    rw [ownN_snoc, if_pos (kS_eq.2 hk), h1]; rfl
  · dsimp only
    rw [h4, h3, List.all_append]; simp
theorem kS_ne {s t : ByteArray} (h : s ≠ t) : kS s t = false := by
  cases hk : kS s t with
  | false => rfl
  | true => exact absurd (kS_eq.1 hk) h
theorem kS_no {s t : ByteArray} (h : kS s t = false) : s ≠ t := fun e => by rw [kS_eq.2 e] at h; cases h
theorem ginv_nil (l : List TRow) : GInv l [] ([], false) := ⟨List.nodup_nil, by simp, by simp, by simp, rfl⟩
theorem ginv_snoc {l : List TRow} {rs : List Rec} {S : List Gat × Bool} {r : Rec} (h : GInv l rs S) : GInv l (rs ++ [r]) (gatStep l S r) := by
  obtain ⟨G, x⟩ := S
  obtain ⟨nd, nz, own, all, hx⟩ := h
  dsimp only at nd nz own all hx
  have hxs : (rs ++ [r]).any (fun r => decide ((nameR l r).size ≠ 0) && decide ((ofI l r).abi = 1)) = (x || (decide ((nameR l r).size ≠ 0) && decide ((ofI l r).abi = 1))) := by rw [List.any_append, ← hx]; simp
  unfold gatStep
  by_cases hz : (ofI l r).name.size = 0
  · rw [if_pos hz]
    refine ⟨nd, nz, fun g hg => own_keep (own g hg) (kS_ne fun e => nz g hg (by rw [e]; exact hz)), fun r' hr' hs => ?_, ?_⟩
    · rcases List.mem_append.1 hr' with q | q
      · exact all r' q hs
      · rw [List.mem_singleton.1 q] at hs; exact absurd hz hs
    · rw [hxs, decide_eq_false (fun q => q hz)]; simp
  · rw [if_neg hz]
    have hx2 : (x || decide ((ofI l r).abi = 1)) = (rs ++ [r]).any (fun r => decide ((nameR l r).size ≠ 0) && decide ((ofI l r).abi = 1)) := by
      rw [hxs, show decide ((nameR l r).size ≠ 0) = true from decide_eq_true hz, Bool.true_and]
    have hxr : argI (ofI l r).abi.toNat r = xarg l r := rfl
    rcases nm_cases Gat.name (ofI l r).name G with hno | ⟨G1, g, G2, rfl, hgn, hno⟩
    · have hnew : OwnOk l (rs ++ [r]) (noteG ⟨(ofI l r).name, 0, fun _ => 0, fun _ => false⟩ (xarg l r)) := by
        have hown : ownN l (ofI l r).name rs = [] := by
          unfold ownN
          rw [List.filter_eq_nil_iff]
          intro r' hr' hk
          have e := kS_eq.1 hk
          obtain ⟨g, hg, hge⟩ := all r' hr' (by rw [← e]; exact hz)
          exact kS_no (hno g hg) (by rw [hge, e])
        refine ⟨r, [], ?_, rfl, fun k => rfl, fun k => rfl⟩
        show ownN l (ofI l r).name (rs ++ [r]) = _
        rw [ownN_snoc, if_pos (show kS (ofI l r).name (nameR l r) = true from kS_refl _), hown]; rfl
      refine ⟨?_, fun g hg => ?_, fun g hg => ?_, fun r' hr' hs => ?_, hx2⟩
      · dsimp only
        rw [addG_no hno, List.map_append, List.nodup_append]
        refine ⟨nd, by simp, fun a ha b hb => ?_⟩
        obtain ⟨g, hg, rfl⟩ := List.mem_map.1 ha
        simp only [List.map_cons, List.map_nil, List.mem_singleton] at hb
        rw [hb, noteG_name]
        exact fun e => kS_no (hno g hg) e.symm
      · dsimp only at hg
        rw [addG_no hno] at hg
        rcases List.mem_append.1 hg with q | q
        · exact nz g q
        · rw [List.mem_singleton.1 q, noteG_name]; exact hz
      · dsimp only at hg
        rw [addG_no hno] at hg
        rcases List.mem_append.1 hg with q | q
        · exact own_keep (own g q) (kS_ne fun e => kS_no (hno g q) e.symm)
        · rw [List.mem_singleton.1 q]; exact hnew
      · dsimp only
        rw [addG_no hno]
        rcases List.mem_append.1 hr' with q | q
        · obtain ⟨g, hg, e⟩ := all r' q hs; exact ⟨g, List.mem_append_left _ hg, e⟩
        · rw [List.mem_singleton.1 q]
          exact ⟨_, List.mem_append_right _ (.head _), noteG_name _ _⟩
    · rw [List.map_append, List.map_cons] at nd
      have hdis : ∀ z, z ∈ G1 ∨ z ∈ G2 → z.name ≠ g.name := fun z hz => by
        rw [List.nodup_append] at nd
        obtain ⟨n1, n2, n3⟩ := nd
        rcases hz with q | q
        · exact n3 _ (List.mem_map_of_mem q) _ (.head _)
        · rw [List.nodup_cons] at n2
          exact fun e => n2.1 (by rw [← e]; exact List.mem_map_of_mem q)
      refine ⟨?_, fun z hz => ?_, fun z hz' => ?_, fun r' hr' hs => ?_, hx2⟩
      · dsimp only
        rw [addG_in hgn hno, List.map_append, List.map_cons, noteG_name]; exact nd
      · dsimp only at hz
        rw [addG_in hgn hno] at hz
        rcases List.mem_append.1 hz with q | q
        · exact nz z (List.mem_append_left _ q)
        · rcases List.mem_cons.1 q with rfl | q
          · rw [noteG_name]; exact nz g (by simp)
          · exact nz z (by simp [q])
      · dsimp only at hz'
        rw [addG_in hgn hno] at hz'
        rcases List.mem_append.1 hz' with q | q
        · exact own_keep (own z (List.mem_append_left _ q)) (kS_ne fun e => hdis z (.inl q) (by rw [e, hgn]; rfl))
        · rcases List.mem_cons.1 q with rfl | q
          · exact own_note (own g (by simp)) hgn
          · exact own_keep (own z (by simp [q])) (kS_ne fun e => hdis z (.inr q) (by rw [e, hgn]; rfl))
      · dsimp only
        rw [addG_in hgn hno]
        rcases List.mem_append.1 hr' with q | q
        · obtain ⟨z, hz, e⟩ := all r' q hs
          rcases List.mem_append.1 hz with q | q
          · exact ⟨z, List.mem_append_left _ q, e⟩
          · rcases List.mem_cons.1 q with rfl | q
            · exact ⟨noteG z (argI (ofI l r).abi.toNat r), by simp, by rw [noteG_name]; exact e⟩
            · exact ⟨z, by simp [q], e⟩
        · rw [List.mem_singleton.1 q]
          exact ⟨noteG g (argI (ofI l r).abi.toNat r), by simp, by rw [noteG_name]; exact hgn⟩
theorem ginv_fold {l : List TRow} : ∀ (rs2 rs1 : List Rec) (S : List Gat × Bool), GInv l rs1 S → GInv l (rs1 ++ rs2) (rs2.foldl (gatStep l) S)
  | [], rs1, S, h => by rw [List.append_nil]; exact h
  | r :: rs2, rs1, S, h => by
    have := ginv_fold rs2 (rs1 ++ [r]) _ (ginv_snoc (r := r) h)
    rw [List.append_assoc] at this
    exact this
theorem gather_inv (l : List TRow) (rs : List Rec) : GInv l rs (gather l rs) := ginv_fold rs [] _ (ginv_nil l)
/-- The names that are called. -/
theorem keys_mem {l : List TRow} {rs : List Rec} {z : List UInt8} : z ∈ keysG (gather l rs).1 ↔ ∃ r ∈ rs, (nameR l r).size ≠ 0 ∧ (nameR l r).data.toList = z := by
  have hi := gather_inv l rs
  unfold keysG
  rw [sortBy_mem, List.mem_map]
  constructor
  · rintro ⟨g, hg, rfl⟩
    obtain ⟨r0, rest, h1, _⟩ := hi.own g hg
    have hm : r0 ∈ ownN l g.name rs := by rw [h1]; exact .head _
    unfold ownN at hm
    rw [List.mem_filter] at hm
    have e := kS_eq.1 hm.2
    exact ⟨r0, hm.1, by rw [← e]; exact hi.nz g hg, by rw [← e]⟩
  · rintro ⟨r, hr, h1, rfl⟩
    obtain ⟨g, hg, e⟩ := hi.all r hr h1
    exact ⟨g, hg, by rw [e]⟩
def RSb (a b : List UInt8) : Prop := Go.Sort.ltStr a b = true
theorem RSb_irr (x : List UInt8) : ¬ RSb x x := by unfold RSb; rw [Go.Sort.swo_ltStr.irrefl]; decide
theorem RSb_tr (x y z : List UInt8) (h : RSb x y) (k : RSb y z) : RSb x z := Go.Sort.swo_ltStr.trans x y z h k
theorem keys_strict' (l : List TRow) (rs : List Rec) : (keysG (gather l rs).1).Pairwise RSb := by
  have hi := gather_inv l rs
  have hn := hi.nd
  generalize (gather l rs).1 = G at hn
  have h1 := sortBy_pair Go.Sort.swo_ltStr (G.map fun g => g.name.data.toList)
  have h2 : (keysG G).Nodup := by
    refine (List.mergeSort_perm _ _).nodup_iff.2 ?_
    have : (G.map fun g => g.name.data.toList) = (G.map Gat.name).map (fun s : ByteArray => s.data.toList) := by rw [List.map_map]; rfl
    rw [this]
    rw [List.nodup_iff_pairwise_ne] at hn ⊢
    rw [List.pairwise_map]
    exact hn.imp fun h e => h (data_inj' e)
  rw [List.nodup_iff_pairwise_ne] at h2
  have h3 := h1.and h2
  refine h3.imp fun {a b} h => ?_
  unfold RSb
  cases hl : Go.Sort.ltStr a b with
  | true => rfl
  | false => exact absurd (ltStr_tot' _ _ hl h.1) h.2
theorem strict_ext : ∀ {a b : List (List UInt8)}, a.Pairwise RSb → b.Pairwise RSb → (∀ z, z ∈ a ↔ z ∈ b) → a = b
  | [], [], _, _, _ => rfl
  | [], y :: b, _, _, h => by have := (h y).2 (.head _); cases this
  | x :: a, [], _, _, h => by have := (h x).1 (.head _); cases this
  | x :: a, y :: b, ha, hb, h => by
    rw [List.pairwise_cons] at ha hb
    have hxy : x = y := by
      rcases List.mem_cons.1 ((h x).1 (.head _)) with e | hx
      · exact e
      · rcases List.mem_cons.1 ((h y).2 (.head _)) with e | hy
        · exact e.symm
        · exact absurd (RSb_tr _ _ _ (ha.1 y hy) (hb.1 x hx)) (RSb_irr x)
    subst hxy
    rw [strict_ext ha.2 hb.2 fun z => ⟨fun hz => ?_, fun hz => ?_⟩]
    · rcases List.mem_cons.1 ((h z).1 (.tail _ hz)) with e | q
      · subst e; exact absurd (ha.1 _ hz) (RSb_irr _)
      · exact q
    · rcases List.mem_cons.1 ((h z).2 (.tail _ hz)) with e | q
      · subst e; exact absurd (hb.1 _ hz) (RSb_irr _)
      · exact q
/-- What is gathered of a name. -/
theorem gat_own {l : List TRow} {rs : List Rec} {z : List UInt8} (h : z ∈ keysG (gather l rs).1) : (gatOf (gather l rs).1 ⟨z.toArray⟩).name = ⟨z.toArray⟩ ∧ OwnOk l rs (gatOf (gather l rs).1 ⟨z.toArray⟩) := by
  have hi := gather_inv l rs
  unfold keysG at h
  rw [sortBy_mem, List.mem_map] at h
  obtain ⟨g0, hg0, he⟩ := h
  rcases nm_cases Gat.name ⟨z.toArray⟩ (gather l rs).1 with hno | ⟨G1, g, G2, hG, hgn, hno⟩
  · exact absurd (by rw [← he] : (⟨z.toArray⟩ : ByteArray) = g0.name) (kS_no (hno g0 hg0))
  · have hm : g ∈ (gather l rs).1 := by rw [hG]; simp
    have e : gatOf (gather l rs).1 ⟨z.toArray⟩ = g := by rw [hG]; exact gatOf_at hgn hno
    rw [e]
    exact ⟨hgn, hi.own g hm⟩
end Go.Proofs.W

namespace Go.Proofs.W
open Go.Vl
set_option maxRecDepth 100000

theorem sorted_inj {l : List TRow} (h : sortedT l) {i j : Nat} (hi : i < l.length) (hj : j < l.length) (e : (l.getD i trow0).name = (l.getD j trow0).name) : i = j := by
  rcases Nat.lt_trichotomy i j with q | q | q
  · have := h i j q hj; rw [e] at this; exact absurd this (RSb_irr _)
  · exact q
  · have := h j i q hi; rw [e] at this; exact absurd this (RSb_irr _)
theorem nameR_eq (l : List TRow) (r : Rec) : nameR l r = nameO l (atO l r) := by
  unfold nameR ofI atO
  cases selO r.arch r.num with
  | none => rfl
  | some a => dsimp only; split <;> rfl
theorem atO_lt {l : List TRow} {r : Rec} {i : Nat} (h : atO l r = some i) : i < l.length := by
  unfold atO at h
  cases hs : selO r.arch r.num with
  | none => rw [hs] at h; cases h
  | some a =>
    rw [hs] at h
    dsimp only at h
    split at h <;> exact idx_lt h
theorem at_name {l : List TRow} (hok : (tabR l).2 = 0) {r : Rec} {a : Nat} (ha : a < l.length) : kS (l.getD a trow0).name (nameR l r) = decide (atO l r = some a) := by
  rw [nameR_eq, Bool.eq_iff_iff, kS_eq, decide_eq_true_iff]
  cases hat : atO l r with
  | none =>
    constructor
    · intro e
      have := tab_name hok ha
      rw [e] at this
      exact absurd rfl this
    · intro e; cases e
  | some i =>
    constructor
    · intro e; rw [sorted_inj (tab_sorted hok) ha (atO_lt hat) e]
    · intro e; cases e; rfl
theorem own_of {l : List TRow} (hok : (tabR l).2 = 0) (rs : List Rec) {a : Nat} (ha : a < l.length) : ownN l (l.getD a trow0).name rs = ofR l a rs := by
  unfold ownN ofR
  exact List.filter_congr fun r _ => at_name hok ha
def idxs (l : List TRow) (rs : List Rec) (n : Nat) : List Nat := (List.range n).filter fun a => !(ofR l a rs).isEmpty
theorem idxs_next {l : List TRow} {rs : List Rec} {n : Nat} : idxs l rs (n + 1) = if (ofR l n rs).length = 0 then idxs l rs n else idxs l rs n ++ [n] := by
  unfold idxs
  rw [List.range_succ, List.filter_append, List.filter_cons]
  cases h : ofR l n rs with
  | nil => simp
  | cons x xs => simp
theorem keys_idx {l : List TRow} (hok : (tabR l).2 = 0) (rs : List Rec) : keysG (gather l rs).1 = (idxs l rs l.length).map fun a => (l.getD a trow0).name.data.toList := by
  refine strict_ext (keys_strict' l rs) ?_ fun z => ?_
  · rw [List.pairwise_map]
    unfold idxs
    have h1 : (List.range l.length).Pairwise (· < ·) := List.pairwise_lt_range
    have h2 : ((List.range l.length).filter fun a => !(ofR l a rs).isEmpty).Pairwise fun a b => a < b ∧ b < l.length := by
      refine List.Pairwise.filter _ ?_
      have h3 : ∀ b ∈ List.range l.length, b < l.length := fun b hb => List.mem_range.1 hb
      refine List.Pairwise.imp_of_mem ?_ h1
      exact fun {a b} ha hb h => ⟨h, h3 b hb⟩
    exact h2.imp fun {a b} h => tab_sorted hok a b h.1 h.2
  · rw [keys_mem, List.mem_map]
    constructor
    · rintro ⟨r, hr, h1, h2⟩
      rw [nameR_eq] at h1 h2
      cases hat : atO l r with
      | none => rw [hat] at h1; exact absurd rfl h1
      | some a =>
        rw [hat] at h2
        refine ⟨a, ?_, h2⟩
        unfold idxs
        rw [List.mem_filter]
        refine ⟨List.mem_range.2 (atO_lt hat), ?_⟩
        have : r ∈ ofR l a rs := by unfold ofR; rw [List.mem_filter]; exact ⟨hr, decide_eq_true hat⟩
        cases hq : ofR l a rs with
        | nil => rw [hq] at this; cases this
        | cons => rfl
    · rintro ⟨a, ha, h2⟩
      unfold idxs at ha
      rw [List.mem_filter, List.mem_range] at ha
      obtain ⟨ha, hb⟩ := ha
      cases hq : ofR l a rs with
      | nil => rw [hq] at hb; cases hb
      | cons r rest =>
        have hm : r ∈ ofR l a rs := by rw [hq]; exact .head _
        unfold ofR at hm
        rw [List.mem_filter, decide_eq_true_iff] at hm
        have e : nameR l r = (l.getD a trow0).name := by rw [nameR_eq, hm.2]; rfl
        exact ⟨r, hm.1, by rw [e]; exact tab_name hok ha, by rw [e]; exact h2⟩
theorem toA (s : ByteArray) : (⟨s.data.toList.toArray⟩ : ByteArray) = s := rfl
end Go.Proofs.W

namespace Go.Proofs.W
open Go.Vl
set_option maxRecDepth 100000

theorem ownEq_trow {a b : Own} (h : a = b) : OwnLe a b := h ▸ OwnLe.refl a
theorem gr_trow : growOk Tryz.prog 78 = true := by kernel_rfl
theorem gc_trow : Tryz.prog.cellsOf 78 = 8 := by kernel_rfl
theorem gb_trow : Tryz.prog.bytesOf 78 = 72 := by kernel_rfl
theorem gl_trow (x : TRow) : (trowA x).cells.length = 8 := rfl
theorem g1_trow (x : TRow) : (trowA x).cells.all isOne = true := rfl
/-- slices.Grow of nil: a box with room. -/
theorem grow_trow (n : Nat) (h0 : 0 < n) (hn : n ≤ 100000) (nx : Nat) :
    ECall Tryz.prog 71 [.os 0 0 (fun _ => .any) none, int n] ⟨[], [], nx, 0⟩ (fun r h' => ∃ s cap nx' nn', n ≤ cap ∧ r = .hs (0, s) 0 0 cap ∧ h' = ⟨[((0, s), .c (List.replicate (cap * 8) .any))], [], nx', nn'⟩) := by
  refine ECall.wk (ecall_of_aw Tryz.func71 rfl rfl ?_)
  (repeat((conv=>whnf);first|apply ω0|apply ω1|apply ω2|refine τ3 rfl ?_|refine τ4 rfl ?_|refine ⟨rfl,?_⟩|apply τa|refine τb rfl ?_|refine ⟨⟨by kernel_rfl,by kernel_rfl⟩,?_⟩|refine ⟨by decide,?_⟩|apply τt|apply τf))
  refine aop_cap0 rfl rfl Tryz.underlying29 ?_
  (repeat((conv=>whnf);first|apply ω0|apply ω1|apply ω2|refine τ3 rfl ?_|refine τ4 rfl ?_|refine ⟨rfl,?_⟩|apply τa|refine τb rfl ?_|refine ⟨⟨by kernel_rfl,by kernel_rfl⟩,?_⟩|refine ⟨by decide,?_⟩|apply τt|apply τf))
  intro c hc
  replace hc : c = decide (IntKind.i64.wrap ((n : Int) - 0) > 0) := hc
  rw [wrap_id (by omega) (by omega), decide_eq_true (by omega)] at hc
  subst hc
  (repeat((conv=>whnf);first|apply ω0|apply ω2|refine τ3 rfl ?_|refine τ4 rfl ?_|refine ⟨rfl,?_⟩|apply τa|refine τb rfl ?_|refine ⟨⟨by kernel_rfl,by kernel_rfl⟩,?_⟩|refine ⟨by decide,?_⟩|apply τt|apply τf))
  refine aw_regionY (fun i => match i with | 7 => true | 6 => true | 4 => true | 1 => true | _ => false) 10 ?_
  (repeat((conv=>whnf);first|apply ω0|apply ω1|apply ω2|refine τ3 rfl ?_|refine τ4 rfl ?_|refine ⟨rfl,?_⟩|apply τa|refine τb rfl ?_|refine ⟨⟨by kernel_rfl,by kernel_rfl⟩,?_⟩|refine ⟨by decide,?_⟩|apply τt|apply τf))
  refine aop_cap0 rfl rfl Tryz.underlying29 ?_
  (repeat((conv=>whnf);first|apply ω0|apply ω1|apply ω2|refine τ3 rfl ?_|refine τ4 rfl ?_|refine ⟨rfl,?_⟩|apply τa|refine τb rfl ?_|refine ⟨⟨by kernel_rfl,by kernel_rfl⟩,?_⟩|refine ⟨by decide,?_⟩|apply τt|apply τf))
  refine aop_cut0 rfl rfl rfl Tryz.underlying29 Tryz.underlying78 ?_
  (repeat((conv=>whnf);first|apply ω0|apply ω1|apply ω2|refine τ3 rfl ?_|refine τ4 rfl ?_|refine ⟨rfl,?_⟩|apply τa|refine τb rfl ?_|refine ⟨⟨by kernel_rfl,by kernel_rfl⟩,?_⟩|refine ⟨by decide,?_⟩|apply τt|apply τf))
  have hw : IntKind.i64.wrap ((n : Int) - 0) = n := by rw [wrap_id (by omega) (by omega)]; omega
  refine aop_appendZB0 (m := n) (kq := .i64) (kn := .i64) (e := 78) rfl rfl (congrArg (fun z => AV.v (.int .i64 z)) hw) (by omega) Tryz.underlying3 Tryz.underlying29 gr_trow (by rw [gb_trow]; omega) (by omega) fun cap hcap => ?_
  (repeat((conv=>whnf);first|apply ω0|apply ω1|apply ω2|refine τ3 rfl ?_|refine τ4 rfl ?_|refine ⟨rfl,?_⟩|apply τa|refine τb rfl ?_|refine ⟨⟨by kernel_rfl,by kernel_rfl⟩,?_⟩|refine ⟨by decide,?_⟩|apply τt|apply τf))
  refine aop_cutB (l := 0) (k' := .i64) rfl rfl rfl Tryz.underlying29 Tryz.underlying78 (Nat.zero_le _) (by omega) ?_
  (repeat((conv=>whnf);first|apply ω0|apply ω1|apply ω2|refine τ3 rfl ?_|refine τ4 rfl ?_|refine ⟨rfl,?_⟩|apply τa|refine τb rfl ?_|refine ⟨⟨by kernel_rfl,by kernel_rfl⟩,?_⟩|refine ⟨by decide,?_⟩|apply τt|apply τf))
  exact ret_is rfl ⟨_, _, AVle.refl _, HLe.refl _, nx, cap, _, _, hcap, rfl, by rw [gc_trow]; rfl⟩
theorem grow0_trow : Tells Tryz.prog 71 [.os 0 0 (fun _ => .any) none, int (0 : Nat)] (.os 0 0 (fun _ => .any) none) := by
  refine tells_of_aw Tryz.func71 rfl rfl fun nx => ?_
  (repeat((conv=>whnf);first|apply ω0|apply ω1|apply ω2|refine τ3 rfl ?_|refine τ4 rfl ?_|refine ⟨rfl,?_⟩|apply τa|refine τb rfl ?_|refine ⟨⟨by kernel_rfl,by kernel_rfl⟩,?_⟩|refine ⟨by decide,?_⟩|apply τt|apply τf))
  refine aop_cap0 rfl rfl Tryz.underlying29 ?_
  (repeat((conv=>whnf);first|apply ω0|apply ω1|apply ω2|refine τ3 rfl ?_|refine τ4 rfl ?_|refine ⟨rfl,?_⟩|apply τa|refine τb rfl ?_|refine ⟨⟨by kernel_rfl,by kernel_rfl⟩,?_⟩|refine ⟨by decide,?_⟩|apply τt|apply τf))
  exact ret_tells rfl (AVle.refl _)
/-- Rows, one behind the other. -/
def rows2_trow (L : List (List TRow)) (oi : Option Vl.Id) : AV := .os 1 L.length (fun k => slOf 8 trowA trow0 (L.getD k [])) oi
theorem flat_trow (l : List TRow) : rowCells l.length (fun k => trowA (l.getD k trow0)) = l.flatMap fun x => (trowA x).cells := by
  have key : ∀ m, m ≤ l.length → rowCells m (fun k => trowA (l.getD k trow0)) = (l.take m).flatMap fun x => (trowA x).cells := by
    intro m
    induction m with
    | zero => intro _; rfl
    | succ m ih =>
      intro hm
      have hm' : m < l.length := by omega
      have e : rowCells (m + 1) (fun k => trowA (l.getD k trow0)) = rowCells m (fun k => trowA (l.getD k trow0)) ++ (trowA (l.getD m trow0)).cells := by unfold rowCells; rw [List.range_succ, List.flatMap_append]; simp
      rw [e, ih (by omega), List.take_add_one, List.flatMap_append]
      simp [List.getD, hm']
  rw [key _ (Nat.le_refl _), List.take_of_length_le (Nat.le_refl _)]
theorem flen_trow (l : List TRow) : (l.flatMap fun x => (trowA x).cells).length = l.length * 8 := by
  induction l with
  | nil => rfl
  | cons x l ih => rw [List.flatMap_cons, List.length_append, ih, gl_trow, List.length_cons]; omega
theorem fget_trow (l : List TRow) (k j : Nat) (hk : k < l.length) (hj : j < 8) : (l.flatMap fun x => (trowA x).cells)[k * 8 + j]? = (trowA (l.getD k trow0)).cells[j]? := by
  rw [← flat_trow]
  exact (rowCells_get (sz := 8) (fun i hi => gl_trow _)).2 k j hk hj
set_option maxHeartbeats 1000000 in
theorem concat_trow (L : List (List TRow)) (hL : L.length ≤ 1000) (hn : L.flatten.length ≤ 100000) (oi : Option Vl.Id) : Tells Tryz.prog 45 [rows2_trow L none] (slOf 8 trowA trow0 L.flatten) := by
  have hpre : ∀ i, i < L.length → (L.take (i + 1)).flatten.length = (L.take i).flatten.length + (L.getD i []).length := fun i hi => by
    rw [take_getD [] hi, List.flatten_append, List.length_append]; simp
  have hle : ∀ i, (L.take i).flatten.length ≤ L.flatten.length := fun i => by
    conv => rhs; rw [← List.take_append_drop i L, List.flatten_append, List.length_append]
    omega
  refine tells_of_aw Tryz.func45 rfl rfl fun nx => ?_
  (repeat((conv=>whnf);first|apply ω0|apply ω1|apply ω2|refine τ3 rfl ?_|refine τ4 rfl ?_|refine ⟨rfl,?_⟩|apply τa|refine τb rfl ?_|refine ⟨⟨by kernel_rfl,by kernel_rfl⟩,?_⟩|refine ⟨by decide,?_⟩|apply τt|apply τf))
  refine aw_midB (fun y : Nat => mk 36 [(0, rows2_trow L none), (3, int (L.flatten.length : Nat))] ⟨[], [], y, 0⟩) (fun _ => True) ?_ ?_
  · refine aw_loop (fun y : Nat × Nat => mk 36 [(0, rows2_trow L none), (3, int ((L.take y.1).flatten.length : Nat)), (9, rows2_trow L none), (10, int L.length), (11, int y.1)] ⟨[], [], y.2, 0⟩) (fun y => y.1 ≤ L.length) (fun y => L.length - y.1) ?_ ?_
    · exact ⟨(0, nx), Nat.zero_le _, ele_keep rfl rfl (List.Sublist.refl _) (List.Sublist.refl _) ⟨AVle.refl _, AVle.refl _, AVle.refl _, AVle.refl _, AVle.refl _, trivial⟩⟩
    · rintro ⟨i, nx1⟩ h1
      dsimp only at h1
      (repeat((conv=>whnf);first|apply ω0|apply ω1|apply ω2|refine τ3 rfl ?_|refine τ4 rfl ?_|refine ⟨rfl,?_⟩|apply τa|refine τb rfl ?_|refine ⟨⟨by kernel_rfl,by kernel_rfl⟩,?_⟩|refine ⟨by decide,?_⟩|apply τt|apply τf))
      intro c g; cases c
      · have g := not_of g
        try dsimp only at g
        obtain rfl : i = L.length := by omega
        (repeat((conv=>whnf);first|apply ω0|apply ω1|apply ω2|refine τ3 rfl ?_|refine τ4 rfl ?_|refine ⟨rfl,?_⟩|apply τa|refine τb rfl ?_|refine ⟨⟨by kernel_rfl,by kernel_rfl⟩,?_⟩|refine ⟨by decide,?_⟩|apply τt|apply τf))
        refine ⟨nx1, trivial, ele_keep rfl rfl (List.Sublist.refl _) (List.Sublist.refl _) ⟨AVle.refl _, ?_, trivial⟩⟩
        exact AVle.of_eq (congrArg (fun z : List (List TRow) => int (z.flatten.length : Nat)) List.take_length)
      · have g := yes_of g
        try dsimp only at g
        have hi : i < L.length := by omega
        have e1 := hpre i hi
        have e2 := hle (i + 1)
        (repeat((conv=>whnf);first|apply ω0|apply ω1|apply ω2|refine τ3 rfl ?_|refine τ4 rfl ?_|refine ⟨rfl,?_⟩|apply τa|refine τb rfl ?_|refine ⟨⟨by kernel_rfl,by kernel_rfl⟩,?_⟩|refine ⟨by decide,?_⟩|apply τt|apply τf))
        refine ⟨⟨by first | omega | (dsimp only; omega), by first | omega | (dsimp only; omega)⟩, ?_⟩
        have hw : IntKind.i64.wrap ((((L.take i).flatten.length : Nat) : Int) + ((L.getD i []).length : Int)) = (((L.take (i + 1)).flatten.length : Nat) : Int) := by rw [wrap_id (by omega) (by omega)]; omega
        (repeat((conv=>whnf);first|apply ω0|apply ω1|apply ω2|refine τ3 rfl ?_|refine τ4 rfl ?_|refine ⟨rfl,?_⟩|apply τa|refine τb rfl ?_|refine ⟨⟨by kernel_rfl,by kernel_rfl⟩,?_⟩|refine ⟨by decide,?_⟩|apply τt|apply τf))
        intro c hc
        replace hc : c = decide (IntKind.i64.wrap ((((L.take i).flatten.length : Nat) : Int) + ((L.getD i []).length : Int)) < 0) := hc
        rw [hw, decide_eq_false (by omega)] at hc
        subst hc
        (repeat((conv=>whnf);first|apply ω0|apply ω1|apply ω2|refine τ3 rfl ?_|refine τ4 rfl ?_|refine ⟨rfl,?_⟩|apply τa|refine τb rfl ?_|refine ⟨⟨by kernel_rfl,by kernel_rfl⟩,?_⟩|refine ⟨by decide,?_⟩|apply τt|apply τf))
        exact back (i + 1, nx1) hi (by dsimp only; omega) (ele_keep rfl rfl (List.Sublist.refl _) (List.Sublist.refl _) ⟨AVle.refl _, le_int hw, AVle.refl _, AVle.refl _, le_int (wrap_succ (by first | omega | (dsimp only; omega))), trivial⟩)
  · intro nx1 _
    rcases Nat.eq_zero_or_pos L.flatten.length with h0 | h0
    · have hemp : ∀ i, i < L.length → (L.getD i []).length = 0 := fun i hi => by
        have := hpre i hi; have := hle (i + 1); omega
      have hnil : L.flatten = [] := List.eq_nil_of_length_eq_zero h0
      rw [hnil]
      (repeat((conv=>whnf);first|apply ω0|apply ω1|apply ω2|refine τ3 rfl ?_|refine τ4 rfl ?_|refine ⟨rfl,?_⟩|apply τa|refine τb rfl ?_|refine ⟨⟨by kernel_rfl,by kernel_rfl⟩,?_⟩|refine ⟨by decide,?_⟩|apply τt|apply τf))
      refine aop_tells rfl rfl grow0_trow ⟨AVle.refl _, AVle.refl _, trivial⟩ fun nx2 => ?_
      (repeat((conv=>whnf);first|apply ω0|apply ω1|apply ω2|refine τ3 rfl ?_|refine τ4 rfl ?_|refine ⟨rfl,?_⟩|apply τa|refine τb rfl ?_|refine ⟨⟨by kernel_rfl,by kernel_rfl⟩,?_⟩|refine ⟨by decide,?_⟩|apply τt|apply τf))
      refine aw_loop (fun y : Nat × Nat => mk 36 [(6, .os 0 0 (fun _ => .any) none), (25, rows2_trow L none), (26, int L.length), (27, int y.1)] ⟨[], [], y.2, 0⟩) (fun y => y.1 ≤ L.length) (fun y => L.length - y.1) ?_ ?_
      · exact ⟨(0, nx2), Nat.zero_le _, ele_keep rfl rfl (List.Sublist.refl _) (List.Sublist.refl _) ⟨AVle.refl _, AVle.refl _, AVle.refl _, AVle.refl _, trivial⟩⟩
      · rintro ⟨i, nx3⟩ h1
        dsimp only at h1
        (repeat((conv=>whnf);first|apply ω0|apply ω1|apply ω2|refine τ3 rfl ?_|refine τ4 rfl ?_|refine ⟨rfl,?_⟩|apply τa|refine τb rfl ?_|refine ⟨⟨by kernel_rfl,by kernel_rfl⟩,?_⟩|refine ⟨by decide,?_⟩|apply τt|apply τf))
        intro c g; cases c
        · (repeat((conv=>whnf);first|apply ω0|apply ω1|apply ω2|refine τ3 rfl ?_|refine τ4 rfl ?_|refine ⟨rfl,?_⟩|apply τa|refine τb rfl ?_|refine ⟨⟨by kernel_rfl,by kernel_rfl⟩,?_⟩|refine ⟨by decide,?_⟩|apply τt|apply τf))
          exact ret_tells rfl AVle.os_sl0
        · have g := yes_of g
          try dsimp only at g
          have hi : i < L.length := by omega
          have e1 := hemp i hi
          have e2 : L.getD i [] = [] := List.eq_nil_of_length_eq_zero e1
          (repeat((conv=>whnf);first|apply ω0|apply ω1|apply ω2|refine τ3 rfl ?_|refine τ4 rfl ?_|refine ⟨rfl,?_⟩|apply τa|refine τb rfl ?_|refine ⟨⟨by kernel_rfl,by kernel_rfl⟩,?_⟩|refine ⟨by decide,?_⟩|apply τt|apply τf))
          refine ⟨⟨by first | omega | (dsimp only; omega), by first | omega | (dsimp only; omega)⟩, ?_⟩
          (repeat((conv=>whnf);first|apply ω0|apply ω1|apply ω2|refine τ3 rfl ?_|refine τ4 rfl ?_|refine ⟨rfl,?_⟩|apply τa|refine τb rfl ?_|refine ⟨⟨by kernel_rfl,by kernel_rfl⟩,?_⟩|refine ⟨by decide,?_⟩|apply τt|apply τf))
          refine appK_intro (fun _ => ?_) (fun h => absurd e1 h)
          (repeat((conv=>whnf);first|apply ω0|apply ω1|apply ω2|refine τ3 rfl ?_|refine τ4 rfl ?_|refine ⟨rfl,?_⟩|apply τa|refine τb rfl ?_|refine ⟨⟨by kernel_rfl,by kernel_rfl⟩,?_⟩|refine ⟨by decide,?_⟩|apply τt|apply τf))
          exact back (i + 1, nx3) hi (by dsimp only; omega) (ele_keep rfl rfl (List.Sublist.refl _) (List.Sublist.refl _) ⟨AVle.refl _, AVle.refl _, AVle.refl _, le_int (wrap_succ (by first | omega | (dsimp only; omega))), trivial⟩)
    · (repeat((conv=>whnf);first|apply ω0|apply ω1|apply ω2|refine τ3 rfl ?_|refine τ4 rfl ?_|refine ⟨rfl,?_⟩|apply τa|refine τb rfl ?_|refine ⟨⟨by kernel_rfl,by kernel_rfl⟩,?_⟩|refine ⟨by decide,?_⟩|apply τt|apply τf))
      refine aop_callF (xs := [.os 0 0 (fun _ => .any) none, int (L.flatten.length : Nat)]) [] [] 1 rfl rfl rfl rfl ⟨AVle.refl _, AVle.refl _, trivial⟩ (grow_trow L.flatten.length h0 hn nx1) (BxLe.refl _) (PmEq.refl _) rfl fun r h' hq => ?_
      obtain ⟨s, cap, nx2, nn2, hcap, rfl, rfl⟩ := hq
      (repeat((conv=>whnf);first|apply ω0|apply ω1|apply ω2|refine τ3 rfl ?_|refine τ4 rfl ?_|refine ⟨rfl,?_⟩|apply τa|refine τb rfl ?_|refine ⟨⟨by kernel_rfl,by kernel_rfl⟩,?_⟩|refine ⟨by decide,?_⟩|apply τt|apply τf))
      refine aw_loop (fun y : Nat × List AV × Nat => mk 36 [(6, .hs (0, s) 0 ((L.take y.1).flatten.length) cap), (25, rows2_trow L none), (26, int L.length), (27, int y.1)] ⟨[((0, s), .c y.2.1)], [], y.2.2, 1⟩) (fun y => y.1 ≤ L.length ∧ y.2.1.length = cap * 8 ∧ y.2.1.take ((L.take y.1).flatten.length * 8) = (L.take y.1).flatten.flatMap fun x => (trowA x).cells) (fun y => L.length - y.1) ?_ ?_
      · exact ⟨(0, List.replicate (cap * 8) .any, nx2), ⟨Nat.zero_le _, by simp, by simp⟩, ele_tell _ _ rfl rfl (List.Sublist.refl _) .slnil (BxLe.refl _) trivial ⟨AVle.refl _, AVle.refl _, AVle.refl _, AVle.refl _, trivial⟩⟩
      · rintro ⟨i, cs, nx3⟩ ⟨h1, h2, h3⟩
        dsimp only at h1 h2 h3
        (repeat((conv=>whnf);first|apply ω0|apply ω1|apply ω2|refine τ3 rfl ?_|refine τ4 rfl ?_|refine ⟨rfl,?_⟩|apply τa|refine τb rfl ?_|refine ⟨⟨by kernel_rfl,by kernel_rfl⟩,?_⟩|refine ⟨by decide,?_⟩|apply τt|apply τf))
        intro c g; cases c
        · have g := not_of g
          try dsimp only at g
          obtain rfl : i = L.length := by omega
          rw [List.take_length] at h3
          have hcl : L.flatten.length * 8 ≤ cap * 8 := Nat.mul_le_mul_right _ hcap
          (repeat((conv=>whnf);first|apply ω0|apply ω2|refine τ3 rfl ?_|refine τ4 rfl ?_|refine ⟨rfl,?_⟩|apply τa|refine τb rfl ?_|refine ⟨⟨by kernel_rfl,by kernel_rfl⟩,?_⟩|refine ⟨by decide,?_⟩|apply τt|apply τf))
          refine AW.le (ele_freeze (L := [(6, slOf 8 trowA trow0 L.flatten)]) (bx := []) (pm := []) (nn := 1) [((0, s), .c cs)] rfl rfl (List.Sublist.refl _) .slnil ⟨?_, trivial⟩) ?_
          · refine (Frz.of_le (AVle.of_eq (b := .hs (0, s) 0 L.flatten.length cap) ?_)).trans (Frz.hs (cs := cs) (.head _) hcap (.inr (by omega)) (fun k hk => gl_trow _) (fun k hk j c hj => ?_) (by omega))
            · show AV.hs (0, s) 0 ((L.take L.length).flatten.length) cap = _
              rw [List.take_length]
            · have hjl : j < 8 := by have := (List.getElem?_eq_some_iff.1 hj).1; rw [gl_trow] at this; exact this
              refine ⟨c, ?_, AVle.refl _⟩
              have hkk : k * 8 + j < L.flatten.length * 8 := by
                have : (k + 1) * 8 ≤ L.flatten.length * 8 := Nat.mul_le_mul_right _ hk
                omega
              have h4 := fget_trow L.flatten k j hk hjl
              rw [← h3, List.getElem?_take, if_pos hkk, hj] at h4
              rw [Nat.zero_add]; exact h4
          · (repeat((conv=>whnf);first|apply ω0|apply ω1|apply ω2|refine τ3 rfl ?_|refine τ4 rfl ?_|refine ⟨rfl,?_⟩|apply τa|refine τb rfl ?_|refine ⟨⟨by kernel_rfl,by kernel_rfl⟩,?_⟩|refine ⟨by decide,?_⟩|apply τt|apply τf))
            exact ret_tells rfl (AVle.refl _)
        · have g := yes_of g
          try dsimp only at g
          have hi : i < L.length := by omega
          have e1 := hpre i hi
          have e2 := hle (i + 1)
          have hfl : (L.take (i + 1)).flatten = (L.take i).flatten ++ L.getD i [] := by rw [take_getD [] hi, List.flatten_append]; simp
          have hcl : ((L.take i).flatten.length + (L.getD i []).length) * 8 ≤ cap * 8 := Nat.mul_le_mul_right _ (by omega)
          (repeat((conv=>whnf);first|apply ω0|apply ω1|apply ω2|refine τ3 rfl ?_|refine τ4 rfl ?_|refine ⟨rfl,?_⟩|apply τa|refine τb rfl ?_|refine ⟨⟨by kernel_rfl,by kernel_rfl⟩,?_⟩|refine ⟨by decide,?_⟩|apply τt|apply τf))
          refine ⟨⟨by first | omega | (dsimp only; omega), by first | omega | (dsimp only; omega)⟩, ?_⟩
          (repeat((conv=>whnf);first|apply ω0|apply ω2|refine τ3 rfl ?_|refine τ4 rfl ?_|refine ⟨rfl,?_⟩|apply τa|refine τb rfl ?_|refine ⟨⟨by kernel_rfl,by kernel_rfl⟩,?_⟩|refine ⟨by decide,?_⟩|apply τt|apply τf))
          refine aw_regionY (fun i => match i with | 1 => true | _ => false) 4 ?_
          (repeat((conv=>whnf);first|apply ω0|apply ω1|apply ω2|refine τ3 rfl ?_|refine τ4 rfl ?_|refine ⟨rfl,?_⟩|apply τa|refine τb rfl ?_|refine ⟨⟨by kernel_rfl,by kernel_rfl⟩,?_⟩|refine ⟨by decide,?_⟩|apply τt|apply τf))
          refine aop_appendB (m := (L.getD i []).length) (f' := fun k => trowA ((L.getD i []).getD k trow0)) (szx := 8) (n := (L.take i).flatten.length) (cap := cap) (cs := cs) (i := (0, s)) rfl rfl (.inl rfl) Tryz.underlying29 gr_trow (.inr gc_trow.symm) (by rfl) (by omega) (by rw [gc_trow]; omega) (fun k hk => g1_trow _) (fun _ => by rw [gb_trow]; omega) (fun _ => by omega) (fun hm => ?_) (fun hm hfit => ?_) (fun hm hnf => absurd (by omega) hnf)
          · have e3 : L.getD i [] = [] := List.eq_nil_of_length_eq_zero hm
            rw [e3, List.append_nil] at hfl
            (repeat((conv=>whnf);first|apply ω0|apply ω1|apply ω2|refine τ3 rfl ?_|refine τ4 rfl ?_|refine ⟨rfl,?_⟩|apply τa|refine τb rfl ?_|refine ⟨⟨by kernel_rfl,by kernel_rfl⟩,?_⟩|refine ⟨by decide,?_⟩|apply τt|apply τf))
            exact back (i + 1, cs, nx3) ⟨hi, h2, by dsimp only; rw [hfl]; exact h3⟩ (by dsimp only; omega) (ele_tell _ _ rfl rfl (List.Sublist.refl _) .slnil (BxLe.refl _) trivial ⟨AVle.of_eq (congrArg (fun z => AV.hs (0, s) 0 z cap) (by rw [hfl] : (L.take i).flatten.length = (L.take (i + 1)).flatten.length)), AVle.refl _, AVle.refl _, le_int (wrap_succ (by first | omega | (dsimp only; omega))), trivial⟩)
          · (repeat((conv=>whnf);first|apply ω0|apply ω1|apply ω2|refine τ3 rfl ?_|refine τ4 rfl ?_|refine ⟨rfl,?_⟩|apply τa|refine τb rfl ?_|refine ⟨⟨by kernel_rfl,by kernel_rfl⟩,?_⟩|refine ⟨by decide,?_⟩|apply τt|apply τf))
            refine back (i + 1, splice cs ((L.take i).flatten.length * 8) ((L.getD i []).flatMap fun x => (trowA x).cells), nx3) ⟨hi, ?_, ?_⟩ (by dsimp only; omega) (ele_tell _ _ rfl rfl (List.Sublist.refl _) .slnil ⟨rfl, ownEq_trow (congrArg Own.c ?_), trivial⟩ trivial ⟨AVle.of_eq (congrArg (fun z => AV.hs (0, s) 0 z cap) e1.symm), AVle.refl _, AVle.refl _, le_int (wrap_succ (by first | omega | (dsimp only; omega))), trivial⟩)
            · have hf := flen_trow (L.getD i [])
              simp only [splice_def, List.length_append, List.length_take, List.length_drop, hf]
              omega
            · have hf := flen_trow (L.getD i [])
              dsimp only
              rw [hfl, List.flatMap_append, splice_def, List.length_append, ← List.append_assoc, h3]
              have hpl : (List.flatMap (fun x => (trowA x).cells) (L.take i).flatten ++ List.flatMap (fun x => (trowA x).cells) (L.getD i [])).length = ((L.take i).flatten.length + (L.getD i []).length) * 8 := by
                rw [List.length_append, hf, flen_trow]; omega
              rw [← hpl, List.take_left]
            · rw [gc_trow, flat_trow]
end Go.Proofs.W

