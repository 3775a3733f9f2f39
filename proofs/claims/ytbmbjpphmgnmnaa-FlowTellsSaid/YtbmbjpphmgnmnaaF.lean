import Derived.Test.YtbmbjpphmgnmnaaE
import Derived.Test.YtbmbjpphmgnmnaaC
set_option linter.unusedVariables false
set_option linter.unusedSimpArgs false
namespace Go.Proofs.W

def stopC (l : List Ins) (c : Nat) (n : Nat) : Bool := decide (isStore (kind l n)) && decide ((l.getD n ins0).k = c)
theorem fold_bit (now c : Nat) : ∀ (ts : List Nat) (a : List Nat) (n : Nat), (∀ t ∈ ts, t < a.length) → ((ts.foldl (goI now) a).getD n 0).testBit c = ((a.getD n 0).testBit c && (!decide (n ∈ ts) || now.testBit c))
  | [], a, n, _ => by simp
  | t :: ts, a, n, h => by
    rw [List.foldl_cons, fold_bit now c ts (goI now a t) n (fun x hx => by rw [goI_length]; exact h x (by simp [hx])), goI_get]
    have ht := h t (by simp)
    by_cases h1 : t = n
    · subst h1
      rw [if_pos ⟨rfl, ht⟩, Nat.testBit_and]
      by_cases h2 : t ∈ ts <;> cases (a.getD t 0).testBit c <;> cases now.testBit c <;> simp [h2]
    · rw [if_neg (fun h => h1 h.1)]
      have h3 : decide (n ∈ t :: ts) = decide (n ∈ ts) := decide_eq_decide.2 (by rw [List.mem_cons]; exact ⟨fun h => h.resolve_left fun h2 => h1 h2.symm, .inr⟩)
      rw [h3]
theorem foldT_bit : ∀ (ts : List Nat) (o : List Bool) (k : Nat), (∀ t ∈ ts, t < o.length) → (ts.foldl setT o).getD k false = (o.getD k false || decide (k ∈ ts)) := fun ts o k h => by
  rw [Bool.eq_iff_iff, foldT_get ts o k h]; simp
theorem init_bit {n k c : Nat} (hn : n ≤ 4096) (hk : k < n) (hc : c < 16) : ((initS n).getD k 0).testBit c = !(scan0 n).getD k false := by
  rw [initS_get hn]
  by_cases h : k = 0
  · subst h
    rw [(scan0_get hk 0).2 rfl]; simp
  · have h1 : (scan0 n).getD k false = false := by
      cases h2 : (scan0 n).getD k false
      · rfl
      · exact absurd ((scan0_get (by omega) k).1 h2) h
    rw [h1, if_pos ⟨by omega, hk⟩]
    show (2 ^ 16 - 1).testBit c = _
    rw [Nat.testBit_two_pow_sub_one]; simp [hc]
theorem now_bit {l : List Ins} (n c a : Nat) : (nowI (l.getD n ins0) a).testBit c = (a.testBit c || stopC l c n) := by
  unfold nowI stopC
  have hk : (kof (l.getD n ins0).code).1 = kind l n := rfl
  rw [hk]
  by_cases h : isStore (kind l n)
  · rw [if_pos h, Nat.testBit_or, Nat.testBit_two_pow]; simp [h]
  · rw [if_neg h]; simp [h]
/-- What is stored on every way, bit by bit: the cells without which nothing leads there. -/
theorem at_scan {l : List Ins} (hf : Formed l) {c : Nat} (hc : c < 16) : ∀ k, k ≤ l.length → ∀ n, n < l.length → ((atI l k).getD n 0).testBit c = !(scanN l (stopC l c) k).getD n false := by
  intro k
  induction k with
  | zero => intro _ n hn; exact init_bit hf.le hn hc
  | succ k ih =>
    intro hk n hn
    have hnx := nexts_lt hf (n := k) (by omega)
    rw [atI_succ, scanN_succ, stepS, scanStep, fold_bit _ _ _ _ _ (fun t ht => by rw [atI_length hf.le]; have := hnx t ht; have := hf.le; omega), now_bit, ih (by omega) n hn, ih (by omega) k (by omega)]
    split
    · rename_i h
      rw [foldT_bit _ _ _ (fun t ht => by rw [scanN_length]; exact (hnx t ht).2)]
      simp only [Bool.and_eq_true, Bool.not_eq_true'] at h
      rw [h.1, h.2]
      cases (scanN l (stopC l c) k).getD n false <;> cases decide (n ∈ nextsI l k) <;> rfl
    · rename_i h
      cases h1 : (scanN l (stopC l c) k).getD k false <;> cases h2 : stopC l c k
      · simp
      · simp
      · rw [h1, h2] at h; exact absurd rfl h
      · simp
theorem stored_bit {l : List Ins} (hf : Formed l) {c n : Nat} (hc : c < 16) (hn : n < l.length) : ((storedI l).getD n 0).testBit c = true ↔ ¬ Rch l (stopC l c) n := by
  have h1 : (storedI l).getD n 0 = (atI l l.length).getD n 0 := by
    unfold storedI; simp only [List.getD, List.getElem?_take]; rw [if_pos hn]
  rw [h1, at_scan hf hc l.length (Nat.le_refl _) n hn, Bool.not_eq_true', ← reachC_iff hf]
  show reachC l _ |>.getD n false |> fun x => x = false ↔ _
  simp [reachC]
def Right (l : List Ins) : Prop := Formed l ∧ ∀ n, n < l.length → kind l n = 3 ∨ kind l n = 6 → ¬ Rch l (stopC l (l.getD n ins0).k) n
theorem check_iff {l : List Ins} : (checkI l).2 = 0 ↔ Right l := by
  have key : ∀ (hf : Formed l) n, n < l.length → kind l n = 3 ∨ kind l n = 6 → ((storedI l).getD n 0 / 2 ^ (l.getD n ins0).k % 2 = 0 ↔ Rch l (stopC l (l.getD n ins0).k) n) := by
    intro hf n hn hk
    have hk16 : (l.getD n ins0).k < 16 := by
      have := (wrong_parts (hf.ok n hn)).2.2.1
      have hkd : (kof (l.getD n ins0).code).1 = kind l n := rfl
      omega
    have h1 := stored_bit hf hk16 hn
    rw [Nat.testBit_eq_decide_div_mod_eq, decide_eq_true_eq] at h1
    constructor
    · intro h
      refine Classical.byContradiction fun h2 => ?_
      have := h1.2 h2
      omega
    · intro h
      have h3 : ¬ ((storedI l).getD n 0 / 2 ^ (l.getD n ins0).k % 2 = 1) := fun h2 => h1.1 h2 h
      omega
  constructor
  · intro h
    unfold checkI at h
    split at h
    · exact absurd h (by assumption)
    · rename_i h0
      have hf : Formed l := formed_of (by omega)
      split at h
      · cases h
      · rename_i hn
        rw [List.find?_range_eq_none] at hn
        refine ⟨hf, fun n hnl hk hr => ?_⟩
        have := hn n hnl
        simp only [Bool.not_eq_true', decide_eq_false_iff_not] at this
        exact this ⟨hk, (key hf n hnl hk).2 hr⟩
  · rintro ⟨hf, h⟩
    unfold checkI
    rw [if_neg (fun h0 => formed_fail h0 hf)]
    rw [List.find?_range_eq_none.2 (fun i hi => by
      simp only [Bool.not_eq_true', decide_eq_false_iff_not]
      rintro ⟨h1, h2⟩
      exact h i hi h1 ((key hf i hi h1).1 h2))]
end Go.Proofs.W

namespace Go.Proofs.W
open Go.Vl
set_option maxRecDepth 100000

def aloneC : List Nat := [32, 0, 96, 128, 1, 97, 129, 2, 3, 7, 135, 132, 5, 6, 22]
def bothC : List Nat := [4, 20, 36, 52, 68, 84, 100, 116, 164, 21, 37, 53, 69]
theorem build15 : abuildCells Try.prog 32 15 [(0, int 32), (1, int 0), (2, int 96), (3, int 128), (4, int 1), (5, int 97), (6, int 129), (7, int 2), (8, int 3), (9, int 7), (10, int 135), (11, int 132), (12, int 5), (13, int 6), (14, int 22)] = some (3, [int 32, int 0, int 96, int 128, int 1, int 97, int 129, int 2, int 3, int 7, int 135, int 132, int 5, int 6, int 22]) := by kernel_rfl
theorem build13 : abuildCells Try.prog 32 13 [(0, int 4), (1, int 20), (2, int 36), (3, int 52), (4, int 68), (5, int 84), (6, int 100), (7, int 116), (8, int 164), (9, int 21), (10, int 37), (11, int 53), (12, int 69)] = some (3, [int 4, int 20, int 36, int 52, int 68, int 84, int 100, int 116, int 164, int 21, int 37, int 53, int 69]) := by kernel_rfl
theorem findIdx_some {l : List Nat} {p : Nat → Bool} {i : Nat} (hi : i < l.length) (h : p (l.getD i 0) = true) (hb : ∀ j, j < i → p (l.getD j 0) = false) : l.findIdx? p = some i := by
  rw [List.findIdx?_eq_some_iff_getElem]
  refine ⟨hi, ?_, fun j hj => ?_⟩
  · simpa [List.getD, hi] using h
  · have := hb j hj
    simpa [List.getD, show j < l.length by omega] using this
theorem findIdx_none {l : List Nat} {p : Nat → Bool} (hb : ∀ j, j < l.length → p (l.getD j 0) = false) : l.findIdx? p = none := by
  rw [List.findIdx?_eq_none_iff]
  intro x hx
  obtain ⟨j, hj, rfl⟩ := List.getElem_of_mem hx
  have := hb j hj
  simpa [List.getD, hj] using this
theorem refOf_alone {c i : Nat} (hi : i < 15) (h : c = aloneC.getD i 0) (hb : ∀ j, j < i → (c == aloneC.getD j 0) = false) : refOf c = (i + 1, false) := by
  have e : aloneC.findIdx? (fun a => c == a) = some i := findIdx_some hi (by rw [h]; simp) hb
  show (match aloneC.findIdx? (fun a => c == a) with | some i => (i + 1, false) | none => _) = _
  rw [e]
theorem refOf_not {c : Nat} (hb : ∀ j, j < 15 → (c == aloneC.getD j 0) = false) : refOf c = match bothC.findIdx? (fun a => c == a || c == a + 8) with | some i => (i + 16, c != bothC.getD i 0) | none => (0, false) := by
  have e : aloneC.findIdx? (fun a => c == a) = none := findIdx_none hb
  show (match aloneC.findIdx? (fun a => c == a) with | some i => (i + 1, false) | none => (match bothC.findIdx? (fun a => c == a || c == a + 8) with | some i => (i + 16, c != bothC.getD i 0) | none => (0, false))) = _
  rw [e]
theorem both_lt : ∀ i, i < 13 → bothC.getD i 0 < 200 := by decide
theorem refof_spec (c : Nat) (hc : c < 65536) : Tells Try.prog 31 [u16 c] (.tup [int (kof c).1, boolA (kof c).2]) := by
  rw [← refOf_eq]
  have hw : IntKind.i64.wrap (c : Int) = (c : Int) := wrap_id (by omega) (by omega)
  refine tells_of_aw Try.func31 rfl rfl fun nx => ?_
  ((repeat((conv=>whnf);first|apply ω0|apply ω2|refine τ3 rfl ?_|refine τ4 rfl ?_|refine ⟨rfl,?_⟩|apply τa|refine τb rfl ?_|refine ⟨⟨by kernel_rfl,by kernel_rfl⟩,?_⟩|refine ⟨by decide,?_⟩|apply τt|apply τf)); refine aw_region ?_; (repeat((conv=>whnf);first|apply ω0|apply ω2|refine τ3 rfl ?_|refine τ4 rfl ?_|refine ⟨rfl,?_⟩|apply τa|refine τb rfl ?_|refine ⟨⟨by kernel_rfl,by kernel_rfl⟩,?_⟩|refine ⟨by decide,?_⟩|apply τt|apply τf)))
  refine aw_regionY (fun n => match n with | 0 => true | _ => false) 1 ?_
  refine aop_build rfl build15 ?_
  (repeat((conv=>whnf);first|apply ω0|apply ω1|apply ω2|refine τ3 rfl ?_|refine τ4 rfl ?_|refine ⟨rfl,?_⟩|apply τa|refine τb rfl ?_|refine ⟨⟨by kernel_rfl,by kernel_rfl⟩,?_⟩|refine ⟨by decide,?_⟩|apply τt|apply τf))
  refine aw_loop (fun y : Nat × Nat => mk 50 [(0, u16 c), (4, .os 1 15 (fun k => int (aloneC.getD k 0 : Nat)) none), (5, int y.1)] ⟨[], [], y.2, 0⟩) (fun y => y.1 ≤ 15 ∧ ∀ j, j < y.1 → (c == aloneC.getD j 0) = false) (fun y => 15 - y.1) ?_ ?_
  · exact ⟨(0, nx), ⟨Nat.zero_le _, fun j h => absurd h (Nat.not_lt_zero _)⟩, ele_keep rfl rfl (List.nil_sublist _) (List.nil_sublist _) ⟨AVle.refl _, AVle.os_fun (allK_use ⟨⟨⟨⟨⟨⟨⟨⟨⟨⟨⟨⟨⟨⟨⟨trivial, rfl⟩, rfl⟩, rfl⟩, rfl⟩, rfl⟩, rfl⟩, rfl⟩, rfl⟩, rfl⟩, rfl⟩, rfl⟩, rfl⟩, rfl⟩, rfl⟩, rfl⟩), AVle.refl _, trivial⟩⟩
  · rintro ⟨i, nx1⟩ ⟨h1, h2⟩
    dsimp only at h1 h2
    (repeat((conv=>whnf);first|apply ω0|apply ω1|apply ω2|refine τ3 rfl ?_|refine τ4 rfl ?_|refine ⟨rfl,?_⟩|apply τa|refine τb rfl ?_|refine ⟨⟨by kernel_rfl,by kernel_rfl⟩,?_⟩|refine ⟨by decide,?_⟩|apply τt|apply τf))
    intro c g; cases c
    · have g := not_of g
      dsimp only at g
      obtain rfl : i = 15 := by omega
      have hr := refOf_not h2
      ((repeat((conv=>whnf);first|apply ω0|apply ω2|refine τ3 rfl ?_|refine τ4 rfl ?_|refine ⟨rfl,?_⟩|apply τa|refine τb rfl ?_|refine ⟨⟨by kernel_rfl,by kernel_rfl⟩,?_⟩|refine ⟨by decide,?_⟩|apply τt|apply τf)))
      refine aw_regionY (fun n => match n with | 0 => true | _ => false) 1 ?_
      refine aop_build rfl build13 ?_
      (repeat((conv=>whnf);first|apply ω0|apply ω1|apply ω2|refine τ3 rfl ?_|refine τ4 rfl ?_|refine ⟨rfl,?_⟩|apply τa|refine τb rfl ?_|refine ⟨⟨by kernel_rfl,by kernel_rfl⟩,?_⟩|refine ⟨by decide,?_⟩|apply τt|apply τf))
      refine aw_loop (fun y : Nat × Nat => mk 50 [(0, u16 c), (6, .os 1 13 (fun k => int (bothC.getD k 0 : Nat)) none), (7, int y.1)] ⟨[], [], y.2, 0⟩) (fun y => y.1 ≤ 13 ∧ ∀ j, j < y.1 → (c == bothC.getD j 0 || c == bothC.getD j 0 + 8) = false) (fun y => 13 - y.1) ?_ ?_
      · exact ⟨(0, nx1), ⟨Nat.zero_le _, fun j h => absurd h (Nat.not_lt_zero _)⟩, ele_keep rfl rfl (List.nil_sublist _) (List.nil_sublist _) ⟨AVle.refl _, AVle.os_fun (allK_use ⟨⟨⟨⟨⟨⟨⟨⟨⟨⟨⟨⟨⟨trivial, rfl⟩, rfl⟩, rfl⟩, rfl⟩, rfl⟩, rfl⟩, rfl⟩, rfl⟩, rfl⟩, rfl⟩, rfl⟩, rfl⟩, rfl⟩), AVle.refl _, trivial⟩⟩
      · rintro ⟨i, nx2⟩ ⟨k1, k2⟩
        dsimp only at k1 k2
        (repeat((conv=>whnf);first|apply ω0|apply ω1|apply ω2|refine τ3 rfl ?_|refine τ4 rfl ?_|refine ⟨rfl,?_⟩|apply τa|refine τb rfl ?_|refine ⟨⟨by kernel_rfl,by kernel_rfl⟩,?_⟩|refine ⟨by decide,?_⟩|apply τt|apply τf))
        intro c g3; cases c
        · have g3 := not_of g3
          dsimp only at g3
          obtain rfl : i = 13 := by omega
          have hn : bothC.findIdx? (fun a => c == a || c == a + 8) = none := findIdx_none k2
          rw [hn] at hr
          rw [hr]
          (repeat((conv=>whnf);first|apply ω0|apply ω1|apply ω2|refine τ3 rfl ?_|refine τ4 rfl ?_|refine ⟨rfl,?_⟩|apply τa|refine τb rfl ?_|refine ⟨⟨by kernel_rfl,by kernel_rfl⟩,?_⟩|refine ⟨by decide,?_⟩|apply τt|apply τf))
          exact ret_tells rfl (AVle.tups (cs := [_, _]) ⟨AVle.refl _, AVle.refl _, trivial⟩)
        · have g3 := yes_of g3
          dsimp only at g3
          have hi : i < 13 := by omega
          have hlt := both_lt i hi
          have hsucc : ∀ v, bothC.getD i 0 = v → c ≠ v → c ≠ v + 8 → ∀ j, j < i + 1 → (c == bothC.getD j 0 || c == bothC.getD j 0 + 8) = false := fun v hv e1 e2 j hj => by
            rcases Nat.lt_or_ge j i with h | h
            · exact k2 j h
            · obtain rfl : j = i := by omega
              rw [hv]; simp [e1, e2]
          have hfound : ∀ v, bothC.getD i 0 = v → (c = v ∨ c = v + 8) → refOf c = (i + 16, c != v) := fun v hv e => by
            have hn : bothC.findIdx? (fun a => c == a || c == a + 8) = some i := findIdx_some hi (by rw [hv]; rcases e with e | e <;> simp [e]) k2
            rw [hn] at hr
            rw [hr]; dsimp only; rw [hv]
          generalize hv : bothC.getD i 0 = v at hlt
          have hsucc := hsucc v hv
          have hfound := hfound v hv
          have hw8 : IntKind.i64.wrap ((v : Int) + 8) = ((v + 8 : Nat) : Int) := wrap_id (by omega) (by omega)
          (repeat((conv=>whnf);first|apply ω0|apply ω1|apply ω2|refine τ3 rfl ?_|refine τ4 rfl ?_|refine ⟨rfl,?_⟩|apply τa|refine τb rfl ?_|refine ⟨⟨by kernel_rfl,by kernel_rfl⟩,?_⟩|refine ⟨by decide,?_⟩|apply τt|apply τf))
          refine ⟨⟨by first | omega | (dsimp only; omega), by first | omega | (dsimp only; omega)⟩, ?_⟩
          (repeat((conv=>whnf);first|apply ω0|apply ω1|apply ω2|refine τ3 rfl ?_|refine τ4 rfl ?_|refine ⟨rfl,?_⟩|apply τa|refine τb rfl ?_|refine ⟨⟨by kernel_rfl,by kernel_rfl⟩,?_⟩|refine ⟨by decide,?_⟩|apply τt|apply τf))
          intro c q1; cases c
          · have q1 : c ≠ v := by
              have q1 := fct_b0.1 q1
              intro h
              apply q1
              rw [hw]
              show ((c : Nat) : Int) = ((bothC.getD i 0 : Nat) : Int)
              rw [hv, h]
            (repeat((conv=>whnf);first|apply ω0|apply ω1|apply ω2|refine τ3 rfl ?_|refine τ4 rfl ?_|refine ⟨rfl,?_⟩|apply τa|refine τb rfl ?_|refine ⟨⟨by kernel_rfl,by kernel_rfl⟩,?_⟩|refine ⟨by decide,?_⟩|apply τt|apply τf))
            refine ⟨⟨by first | omega | (dsimp only; omega), by first | omega | (dsimp only; omega)⟩, ?_⟩
            (repeat((conv=>whnf);first|apply ω0|apply ω1|apply ω2|refine τ3 rfl ?_|refine τ4 rfl ?_|refine ⟨rfl,?_⟩|apply τa|refine τb rfl ?_|refine ⟨⟨by kernel_rfl,by kernel_rfl⟩,?_⟩|refine ⟨by decide,?_⟩|apply τt|apply τf))
            intro c q2; cases c
            · have q2 : c ≠ v + 8 := by
                have q2 := fct_b0.1 q2
                intro h
                apply q2
                rw [hw]
                show ((c : Nat) : Int) = IntKind.i64.wrap (((bothC.getD i 0 : Nat) : Int) + 8)
                rw [hv, hw8, h]
              (repeat((conv=>whnf);first|apply ω0|apply ω1|apply ω2|refine τ3 rfl ?_|refine τ4 rfl ?_|refine ⟨rfl,?_⟩|apply τa|refine τb rfl ?_|refine ⟨⟨by kernel_rfl,by kernel_rfl⟩,?_⟩|refine ⟨by decide,?_⟩|apply τt|apply τf))
              exact back (i + 1, _) ⟨(by first | omega | (dsimp only at *; omega) | (simp; done) | (simp; omega)), hsucc q1 q2⟩ (by first | omega | (dsimp only at *; omega) | (simp; done) | (simp; omega)) (ele_keep rfl rfl (List.nil_sublist _) (List.nil_sublist _) ⟨AVle.refl _, AVle.refl _, le_int (wrap_succ (by first | omega | (dsimp only at *; omega) | (simp; done) | (simp; omega))), trivial⟩)
            · have q2 : c = v + 8 := by
                have q2 := fct_b1.1 q2
                rw [hw] at q2
                have q3 : ((c : Nat) : Int) = IntKind.i64.wrap (((bothC.getD i 0 : Nat) : Int) + 8) := q2
                rw [hv, hw8] at q3
                omega
              rw [hfound (.inr q2)]
              (repeat((conv=>whnf);first|apply ω0|apply ω1|apply ω2|refine τ3 rfl ?_|refine τ4 rfl ?_|refine ⟨rfl,?_⟩|apply τa|refine τb rfl ?_|refine ⟨⟨by kernel_rfl,by kernel_rfl⟩,?_⟩|refine ⟨by decide,?_⟩|apply τt|apply τf))
              refine ret_tells rfl (AVle.tups (cs := [_, _]) ⟨le_int (wrap_id (by first | omega | (dsimp only at *; omega) | (simp; done) | (simp; omega)) (by first | omega | (dsimp only at *; omega) | (simp; done) | (simp; omega))), le_bool ?_, trivial⟩)
              rw [q2]; simp
          · have q1 : c = v := by
              have q1 := fct_b1.1 q1
              rw [hw] at q1
              have q3 : ((c : Nat) : Int) = ((bothC.getD i 0 : Nat) : Int) := q1
              rw [hv] at q3
              omega
            rw [hfound (.inl q1)]
            (repeat((conv=>whnf);first|apply ω0|apply ω1|apply ω2|refine τ3 rfl ?_|refine τ4 rfl ?_|refine ⟨rfl,?_⟩|apply τa|refine τb rfl ?_|refine ⟨⟨by kernel_rfl,by kernel_rfl⟩,?_⟩|refine ⟨by decide,?_⟩|apply τt|apply τf))
            refine ret_tells rfl (AVle.tups (cs := [_, _]) ⟨le_int (wrap_id (by first | omega | (dsimp only at *; omega) | (simp; done) | (simp; omega)) (by first | omega | (dsimp only at *; omega) | (simp; done) | (simp; omega))), le_bool ?_, trivial⟩)
            rw [q1]; simp
    · have g := yes_of g
      dsimp only at g
      have hi : i < 15 := by omega
      (repeat((conv=>whnf);first|apply ω0|apply ω1|apply ω2|refine τ3 rfl ?_|refine τ4 rfl ?_|refine ⟨rfl,?_⟩|apply τa|refine τb rfl ?_|refine ⟨⟨by kernel_rfl,by kernel_rfl⟩,?_⟩|refine ⟨by decide,?_⟩|apply τt|apply τf))
      refine ⟨⟨by first | omega | (dsimp only; omega), by first | omega | (dsimp only; omega)⟩, ?_⟩
      (repeat((conv=>whnf);first|apply ω0|apply ω1|apply ω2|refine τ3 rfl ?_|refine τ4 rfl ?_|refine ⟨rfl,?_⟩|apply τa|refine τb rfl ?_|refine ⟨⟨by kernel_rfl,by kernel_rfl⟩,?_⟩|refine ⟨by decide,?_⟩|apply τt|apply τf))
      intro c q1; cases c
      · have q1 : (c == aloneC.getD i 0) = false := by
          have q1 := fct_b0.1 q1
          rw [hw] at q1
          have q3 : ((c : Nat) : Int) ≠ ((aloneC.getD i 0 : Nat) : Int) := q1
          simp only [beq_eq_false_iff_ne]
          omega
        (repeat((conv=>whnf);first|apply ω0|apply ω1|apply ω2|refine τ3 rfl ?_|refine τ4 rfl ?_|refine ⟨rfl,?_⟩|apply τa|refine τb rfl ?_|refine ⟨⟨by kernel_rfl,by kernel_rfl⟩,?_⟩|refine ⟨by decide,?_⟩|apply τt|apply τf))
        refine back (i + 1, _) ⟨(by first | omega | (dsimp only at *; omega) | (simp; done) | (simp; omega)), fun j hj => ?_⟩ (by first | omega | (dsimp only at *; omega) | (simp; done) | (simp; omega)) (ele_keep rfl rfl (List.nil_sublist _) (List.nil_sublist _) ⟨AVle.refl _, AVle.refl _, le_int (wrap_succ (by first | omega | (dsimp only at *; omega) | (simp; done) | (simp; omega))), trivial⟩)
        rcases Nat.lt_or_ge j i with h | h
        · exact h2 j h
        · obtain rfl : j = i := by omega
          exact q1
      · have q1 : c = aloneC.getD i 0 := by
          have q1 := fct_b1.1 q1
          rw [hw] at q1
          have q3 : ((c : Nat) : Int) = ((aloneC.getD i 0 : Nat) : Int) := q1
          omega
        rw [refOf_alone hi q1 h2]
        (repeat((conv=>whnf);first|apply ω0|apply ω1|apply ω2|refine τ3 rfl ?_|refine τ4 rfl ?_|refine ⟨rfl,?_⟩|apply τa|refine τb rfl ?_|refine ⟨⟨by kernel_rfl,by kernel_rfl⟩,?_⟩|refine ⟨by decide,?_⟩|apply τt|apply τf))
        exact ret_tells rfl (AVle.tups (cs := [_, _]) ⟨le_int (wrap_succ (by first | omega | (dsimp only at *; omega) | (simp; done) | (simp; omega))), AVle.refl _, trivial⟩)
theorem nextR_spec (l : List Ins) (hok : okL l) (hf : Formed l) (n : Nat) (hn : n < l.length) : Tells Try.prog 32 [inss l, int n] (ints (nextsI l n)) := by
  have hle := hf.le
  have hki : (l.getD n ins0).ok := hok.get hn
  have hnx := nexts_lt hf hn
  have hof := refof_spec (l.getD n ins0).code hki.1
  unfold nextsI at hnx ⊢
  unfold kind at hnx ⊢
  generalize hK : (kof (l.getD n ins0).code).1 = K at hof hnx
  generalize (kof (l.getD n ins0).code).2 = x at hof
  refine tells_of_aw Try.func32 rfl rfl fun nx => ?_
  (repeat((conv=>whnf);first|apply ω0|apply ω1|apply ω2|refine τ3 rfl ?_|refine τ4 rfl ?_|refine ⟨rfl,?_⟩|apply τa|refine τb rfl ?_|refine ⟨⟨by kernel_rfl,by kernel_rfl⟩,?_⟩|refine ⟨by decide,?_⟩|apply τt|apply τf))
  refine ⟨⟨by first | omega | (dsimp only; omega), by first | omega | (dsimp only; omega)⟩, ?_⟩
  (repeat((conv=>whnf);first|apply ω0|apply ω1|apply ω2|refine τ3 rfl ?_|refine τ4 rfl ?_|refine ⟨rfl,?_⟩|apply τa|refine τb rfl ?_|refine ⟨⟨by kernel_rfl,by kernel_rfl⟩,?_⟩|refine ⟨by decide,?_⟩|apply τt|apply τf))
  refine aop_tells rfl rfl hof ⟨AVle.refl _, trivial⟩ fun nx3 => ?_
  (repeat((conv=>whnf);first|apply ω0|apply ω1|apply ω2|refine τ3 rfl ?_|refine τ4 rfl ?_|refine ⟨rfl,?_⟩|apply τa|refine τb rfl ?_|refine ⟨⟨by kernel_rfl,by kernel_rfl⟩,?_⟩|refine ⟨by decide,?_⟩|apply τt|apply τf))
  intro cx hx
  (repeat((conv=>whnf);first|apply ω0|apply ω1|apply ω2|refine τ3 rfl ?_|refine τ4 rfl ?_|refine ⟨rfl,?_⟩|apply τa|refine τb rfl ?_|refine ⟨⟨by kernel_rfl,by kernel_rfl⟩,?_⟩|refine ⟨by decide,?_⟩|apply τt|apply τf))
  intro c a1; cases c
  · have a1 := fct_b0.1 a1
    (repeat((conv=>whnf);first|apply ω0|apply ω1|apply ω2|refine τ3 rfl ?_|refine τ4 rfl ?_|refine ⟨rfl,?_⟩|apply τa|refine τb rfl ?_|refine ⟨⟨by kernel_rfl,by kernel_rfl⟩,?_⟩|refine ⟨by decide,?_⟩|apply τt|apply τf))
    intro c a2; cases c
    · have a2 := fct_b0.1 a2
      rw [if_neg (by omega)] at hnx ⊢
      (repeat((conv=>whnf);first|apply ω0|apply ω1|apply ω2|refine τ3 rfl ?_|refine τ4 rfl ?_|refine ⟨rfl,?_⟩|apply τa|refine τb rfl ?_|refine ⟨⟨by kernel_rfl,by kernel_rfl⟩,?_⟩|refine ⟨by decide,?_⟩|apply τt|apply τf))
      intro c a3; cases c
      · have a3 := fct_b0.1 a3
        rw [if_neg (by omega)] at hnx ⊢
        (repeat((conv=>whnf);first|apply ω0|apply ω1|apply ω2|refine τ3 rfl ?_|refine τ4 rfl ?_|refine ⟨rfl,?_⟩|apply τa|refine τb rfl ?_|refine ⟨⟨by kernel_rfl,by kernel_rfl⟩,?_⟩|refine ⟨by decide,?_⟩|apply τt|apply τf))
        intro c a4; cases c
        · have a4 := not_of a4
          rw [if_neg (by omega)]
          (repeat((conv=>whnf);first|apply ω0|apply ω1|apply ω2|refine τ3 rfl ?_|refine τ4 rfl ?_|refine ⟨rfl,?_⟩|apply τa|refine τb rfl ?_|refine ⟨⟨by kernel_rfl,by kernel_rfl⟩,?_⟩|refine ⟨by decide,?_⟩|apply τt|apply τf))
          refine ret_tells rfl ?_
          exact le_ints1 rfl (wrap_succ (by omega))
        · have a4 := yes_of a4
          rw [if_pos (by omega)] at hnx ⊢
          have h1 := hnx (n + 1 + (l.getD n ins0).jt) (by simp)
          have h2 := hnx (n + 1 + (l.getD n ins0).jf) (by simp)
          (repeat((conv=>whnf);first|apply ω0|apply ω1|apply ω2|refine τ3 rfl ?_|refine τ4 rfl ?_|refine ⟨rfl,?_⟩|apply τa|refine τb rfl ?_|refine ⟨⟨by kernel_rfl,by kernel_rfl⟩,?_⟩|refine ⟨by decide,?_⟩|apply τt|apply τf))
          (refine aw_draw 20 ?_ ?_ ?_ ?_; (· kernel_rfl); (· kernel_rfl); (· kernel_rfl))
          (repeat((conv=>whnf);first|apply ω0|apply ω1|apply ω2|refine τ3 rfl ?_|refine τ4 rfl ?_|refine ⟨rfl,?_⟩|apply τa|refine τb rfl ?_|refine ⟨⟨by kernel_rfl,by kernel_rfl⟩,?_⟩|refine ⟨by decide,?_⟩|apply τt|apply τf))
          refine ⟨⟨by first | omega | (dsimp only; omega), by first | omega | (dsimp only; omega)⟩, ?_⟩
          (repeat((conv=>whnf);first|apply ω0|apply ω1|apply ω2|refine τ3 rfl ?_|refine τ4 rfl ?_|refine ⟨rfl,?_⟩|apply τa|refine τb rfl ?_|refine ⟨⟨by kernel_rfl,by kernel_rfl⟩,?_⟩|refine ⟨by decide,?_⟩|apply τt|apply τf))
          refine ⟨⟨by first | omega | (dsimp only; omega), by first | omega | (dsimp only; omega)⟩, ?_⟩
          (repeat((conv=>whnf);first|apply ω0|apply ω1|apply ω2|refine τ3 rfl ?_|refine τ4 rfl ?_|refine ⟨rfl,?_⟩|apply τa|refine τb rfl ?_|refine ⟨⟨by kernel_rfl,by kernel_rfl⟩,?_⟩|refine ⟨by decide,?_⟩|apply τt|apply τf))
          refine ret_tells rfl ?_
          exact le_ints2 rfl (wrap_two (n := n) (k := (l.getD n ins0).jt) (by omega)) rfl (wrap_two (n := n) (k := (l.getD n ins0).jf) (by omega))
      · have a3 := fct_b1.1 a3
        rw [if_pos (by omega)] at hnx ⊢
        have h1 := hnx (n + 1 + (l.getD n ins0).k) (by simp)
        (repeat((conv=>whnf);first|apply ω0|apply ω1|apply ω2|refine τ3 rfl ?_|refine τ4 rfl ?_|refine ⟨rfl,?_⟩|apply τa|refine τb rfl ?_|refine ⟨⟨by kernel_rfl,by kernel_rfl⟩,?_⟩|refine ⟨by decide,?_⟩|apply τt|apply τf))
        refine ⟨⟨by first | omega | (dsimp only; omega), by first | omega | (dsimp only; omega)⟩, ?_⟩
        (repeat((conv=>whnf);first|apply ω0|apply ω1|apply ω2|refine τ3 rfl ?_|refine τ4 rfl ?_|refine ⟨rfl,?_⟩|apply τa|refine τb rfl ?_|refine ⟨⟨by kernel_rfl,by kernel_rfl⟩,?_⟩|refine ⟨by decide,?_⟩|apply τt|apply τf))
        refine ret_tells rfl ?_
        exact le_ints1 rfl (wrap_two (n := n) (k := (l.getD n ins0).k) (by omega))
    · have a2 := fct_b1.1 a2
      rw [if_pos (by omega)]
      (repeat((conv=>whnf);first|apply ω0|apply ω1|apply ω2|refine τ3 rfl ?_|refine τ4 rfl ?_|refine ⟨rfl,?_⟩|apply τa|refine τb rfl ?_|refine ⟨⟨by kernel_rfl,by kernel_rfl⟩,?_⟩|refine ⟨by decide,?_⟩|apply τt|apply τf))
      refine ret_tells rfl ?_
      exact AVle.os_sl0
  · have a1 := fct_b1.1 a1
    rw [if_pos (by omega)]
    (repeat((conv=>whnf);first|apply ω0|apply ω1|apply ω2|refine τ3 rfl ?_|refine τ4 rfl ?_|refine ⟨rfl,?_⟩|apply τa|refine τb rfl ?_|refine ⟨⟨by kernel_rfl,by kernel_rfl⟩,?_⟩|refine ⟨by decide,?_⟩|apply τt|apply τf))
    refine ret_tells rfl ?_
    exact AVle.os_sl0
end Go.Proofs.W

namespace Go.Proofs.W
open Go.Vl
set_option maxRecDepth 100000

set_option maxHeartbeats 4000000 in
theorem aloneR_spec (i : Ins) (hi : i.ok) (r : Nat) : Tells Try.prog 44 [insA i, int r] (int (wrongI i r)) := by
  have hof := refof_spec i.code hi.1
  have hle := kof_le i.code
  have w1 : IntKind.i64.wrap (i.k : Int) = i.k := wrap_id (by have := hi.2.2.2; omega) (by have := hi.2.2.2; omega)
  have w2 : IntKind.i64.wrap (i.jt : Int) = i.jt := wrap_id (by have := hi.2.1; omega) (by have := hi.2.1; omega)
  have w3 : IntKind.i64.wrap (i.jf : Int) = i.jf := wrap_id (by have := hi.2.2.1; omega) (by have := hi.2.2.1; omega)
  unfold wrongI
  generalize kof i.code = kk at hof hle
  obtain ⟨k, x⟩ := kk
  dsimp only at hle hof ⊢
  revert hof
  refine allK_use (n := 29) (p := fun k => Tells Try.prog 31 [u16 i.code] (.tup [int k, boolA x]) → Tells Try.prog 44 [insA i, int r] (int ((if k = 0 then 5 else if k = 1 ∧ (i.k % 4 ≠ 0 ∨ 64 ≤ i.k) then 6 else if (k = 3 ∨ k = 6 ∨ k = 8 ∨ k = 9) ∧ 16 ≤ i.k then 7 else if x = false ∧ k = 19 ∧ i.k = 0 then 8 else if x = false ∧ (k = 22 ∨ k = 23) ∧ 31 < i.k then 9 else if (k = 13 ∧ r ≤ i.k) ∨ (25 ≤ k ∧ (r ≤ i.jt ∨ r ≤ i.jf)) then 10 else 0 : Nat)))) ?_ k (by omega)
  repeat (first | exact trivial | refine And.intro ?_ ?_)
  all_goals
    intro hof
    cases x
  all_goals
    refine tells_of_aw Try.func44 rfl rfl fun nx => ?_
    (repeat((conv=>whnf);first|apply ω0|apply ω1|apply ω2|refine τ3 rfl ?_|refine τ4 rfl ?_|refine ⟨rfl,?_⟩|apply τa|refine τb rfl ?_|refine ⟨⟨by kernel_rfl,by kernel_rfl⟩,?_⟩|refine ⟨by decide,?_⟩|apply τt|apply τf))
    refine aop_tells rfl rfl hof ⟨AVle.refl _, trivial⟩ fun nx3 => ?_
    (repeat' ((repeat((conv=>whnf);first|apply ω0|apply ω1|apply ω2|refine τ3 rfl ?_|refine τ4 rfl ?_|refine ⟨rfl,?_⟩|apply τa|refine τb rfl ?_|refine ⟨⟨by kernel_rfl,by kernel_rfl⟩,?_⟩|refine ⟨by decide,?_⟩|apply τt|apply τf)); intro c h; cases c))
    all_goals
      (repeat((conv=>whnf);first|apply ω0|apply ω1|apply ω2|refine τ3 rfl ?_|refine τ4 rfl ?_|refine ⟨rfl,?_⟩|apply τa|refine τb rfl ?_|refine ⟨⟨by kernel_rfl,by kernel_rfl⟩,?_⟩|refine ⟨by decide,?_⟩|apply τt|apply τf))
      refine ret_tells rfl (le_int ?_)
      (try rw [w1] at *)
      (try rw [w2] at *)
      (try rw [w3] at *)
      (try rw [show (i.k : Int).tmod 4 = ((i.k % 4 : Nat) : Int) from rfl] at *)
      (try simp only [fct_b0, fct_b1, fct_d0, fct_d1, fct_n0, fct_n1] at *)
      simp
      try ((repeat' split) <;> omega)
end Go.Proofs.W

namespace Go.Proofs.W
open Go.Vl

/-- A test, a path. -/
structure Tst where
  at' : Nat
  mask : Nat
  kind : Nat
  k : Nat
  is : Bool
def tst0 : Tst := ⟨0, 0, 0, 0, false⟩
structure Pth where
  tests : List Tst
  steps : Nat
  value : Nat
def pth0 : Pth := ⟨[], 0, 0⟩
def nextP (l : List Ins) (n : Nat) : Int × Int :=
  if kind l n = 14 then (-1, -1) else if kind l n = 13 then ((n + 1 + (l.getD n ins0).k : Nat), -1) else if 25 ≤ kind l n then ((n + 1 + (l.getD n ins0).jt : Nat), (n + 1 + (l.getD n ins0).jf : Nat)) else ((n + 1 : Nat), -1)
def asks (l : List Ins) (n : Nat) : Prop := kind l n = 21 ∨ 25 ≤ kind l n
instance (l : List Ins) (n : Nat) : Decidable (asks l n) := by unfold asks; infer_instance
/-- To which a way leads on which nothing was loaded (of the first n looked at). -/
def bareN (l : List Ins) : Nat → List Bool
  | 0 => setT (List.replicate l.length false) 0
  | n + 1 => if (bareN l n).getD n false = true ∧ kind l n = 13 then setT (bareN l n) (n + 1 + (l.getD n ins0).k) else bareN l n
def okP (l : List Ins) (n : Nat) : Prop := (asks l n ∨ kind l n = 1 ∨ kind l n = 13 ∨ kind l n = 14) ∧ (kof (l.getD n ins0).code).2 = false ∧ ¬ (asks l n ∧ (bareN l n).getD n false = true)
instance (l : List Ins) (n : Nat) : Decidable (okP l n) := by unfold okP; infer_instance
def Plain (l : List Ins) : Prop := (checkI l).2 = 0 ∧ ∀ n, n < l.length → okP l n
def plainB (l : List Ins) : Bool := decide ((checkI l).2 = 0) && (List.range l.length).all fun n => decide (okP l n)
theorem plainB_iff {l : List Ins} : plainB l = true ↔ Plain l := by
  unfold plainB Plain
  simp [List.all_eq_true]
theorem bareN_length (l : List Ins) : ∀ n, (bareN l n).length = l.length
  | 0 => by simp [bareN, setT_length]
  | n + 1 => by
    unfold bareN
    split
    · rw [setT_length, bareN_length l n]
    · exact bareN_length l n
theorem plainB_no {l : List Ins} {n : Nat} (hn : n < l.length) (h : ¬ okP l n) : plainB l = false := by
  cases hb : plainB l with
  | false => rfl
  | true => exact absurd ((plainB_iff.1 hb).2 n hn) h
theorem plainB_chk {l : List Ins} (h : (checkI l).2 ≠ 0) : plainB l = false := by
  cases hb : plainB l with
  | false => rfl
  | true => exact absurd (plainB_iff.1 hb).1 h
theorem plainB_yes {l : List Ins} (h : (checkI l).2 = 0) (hk : ∀ n, n < l.length → okP l n) : plainB l = true := plainB_iff.2 ⟨h, hk⟩

/-- All paths from an instruction on. -/
def pathsF (l : List Ins) : Nat → Nat → Nat → Nat → List Tst → Nat → List Pth
  | 0, _, _, _, _, _ => []
  | f + 1, n, at', mask, tests, steps =>
    if kind l n = 14 then [⟨tests, steps + 1, (l.getD n ins0).k⟩]
    else if kind l n = 1 then pathsF l f (n + 1) (l.getD n ins0).k 4294967295 tests (steps + 1)
    else if kind l n = 21 then pathsF l f (n + 1) at' (mask &&& (l.getD n ins0).k) tests (steps + 1)
    else if 25 ≤ kind l n then
      pathsF l f (n + 1 + (l.getD n ins0).jt) at' mask (tests ++ [⟨at', mask, kind l n, (l.getD n ins0).k, true⟩]) (steps + 1) ++
      pathsF l f (n + 1 + (l.getD n ins0).jf) at' mask (tests ++ [⟨at', mask, kind l n, (l.getD n ins0).k, false⟩]) (steps + 1)
    else pathsF l f (n + 1 + (l.getD n ins0).k) at' mask tests (steps + 1)
def pathsI (l : List Ins) : List Pth := pathsF l l.length 0 0 0 [] 0

theorem Plain.formed {l : List Ins} (h : Plain l) : Formed l := (check_iff.1 h.1).1
theorem Plain.kinds {l : List Ins} (h : Plain l) {n : Nat} (hn : n < l.length) : kind l n = 1 ∨ kind l n = 13 ∨ kind l n = 14 ∨ kind l n = 21 ∨ 25 ≤ kind l n := by
  rcases (h.2 n hn).1 with (h | h) | h | h | h <;> omega
/-- How many paths there are from an instruction on. -/
def cntF (l : List Ins) : Nat → Nat → Nat
  | 0, _ => 0
  | f + 1, n => if kind l n = 14 then 1 else if kind l n = 1 ∨ kind l n = 21 then cntF l f (n + 1) else if 25 ≤ kind l n then cntF l f (n + 1 + (l.getD n ins0).jt) + cntF l f (n + 1 + (l.getD n ins0).jf) else cntF l f (n + 1 + (l.getD n ins0).k)
theorem pathsF_length (l : List Ins) : ∀ f n a m ts s, (pathsF l f n a m ts s).length = cntF l f n
  | 0, _, _, _, _, _ => rfl
  | f + 1, n, a, m, ts, s => by
    unfold pathsF cntF
    by_cases h1 : kind l n = 14
    · rw [if_pos h1, if_pos h1]; rfl
    rw [if_neg h1, if_neg h1]
    by_cases h2 : kind l n = 1
    · rw [if_pos h2, if_pos (.inl h2), pathsF_length]
    rw [if_neg h2]
    by_cases h3 : kind l n = 21
    · rw [if_pos h3, if_pos (.inr h3), pathsF_length]
    rw [if_neg h3, if_neg (show ¬ (kind l n = 1 ∨ kind l n = 21) by omega)]
    by_cases h4 : 25 ≤ kind l n
    · rw [if_pos h4, if_pos h4, List.length_append, pathsF_length, pathsF_length]
    rw [if_neg h4, if_neg h4, pathsF_length]
theorem formed_nexts {l : List Ins} (hf : Formed l) {n : Nat} (hn : n < l.length) :
    (kind l n = 13 → n + 1 + (l.getD n ins0).k < l.length) ∧ (25 ≤ kind l n → n + 1 + (l.getD n ins0).jt < l.length ∧ n + 1 + (l.getD n ins0).jf < l.length) ∧ (kind l n ≠ 14 → kind l n ≠ 15 → kind l n ≠ 13 → ¬ 25 ≤ kind l n → n + 1 < l.length) := by
  have h := nexts_lt hf hn
  unfold nextsI at h
  refine ⟨fun hk => ?_, fun hk => ?_, fun h1 h2 h3 h4 => ?_⟩
  · rw [if_neg (by omega), if_pos hk] at h
    exact (h _ (by simp)).2
  · rw [if_neg (by omega), if_neg (by omega), if_pos hk] at h
    exact ⟨(h _ (by simp)).2, (h (n + 1 + (l.getD n ins0).jf) (by simp)).2⟩
  · rw [if_neg (by omega), if_neg h3, if_neg h4] at h
    exact (h _ (by simp)).2
/-- More time changes nothing. -/
theorem cntF_more {l : List Ins} (hp : Plain l) : ∀ f g n, n < l.length → l.length ≤ n + f → f ≤ g → cntF l g n = cntF l f n
  | 0, g, n, hn, hl, _ => by omega
  | f + 1, 0, n, hn, hl, hg => by omega
  | f + 1, g + 1, n, hn, hl, hg => by
    have hk := hp.kinds hn
    obtain ⟨q1, q2, q3⟩ := formed_nexts hp.formed hn
    unfold cntF
    split
    · rfl
    · split
      · exact cntF_more hp f g _ (q3 (by omega) (by omega) (by omega) (by omega)) (by omega) (by omega)
      · split
        · rename_i h
          obtain ⟨r1, r2⟩ := q2 h
          rw [cntF_more hp f g _ r1 (by omega) (by omega), cntF_more hp f g _ r2 (by omega) (by omega)]
        · exact cntF_more hp f g _ (q1 (by omega)) (by omega) (by omega)
end Go.Proofs.W

namespace Go.Proofs.W
open Go.Vl
set_option maxRecDepth 100000

def u64 (n : Int) : AV := .v (.int .u64 n)
def bytesA (l : List Nat) : AV := slOf 1 (fun n : Nat => u8 n) 0 l
def okB (b : List Nat) : Prop := ∀ x ∈ b, x < 256
def intsZ (l : List Int) : AV := slOf 1 int 0 l
/-- The first place where p holds; -1: none. -/
def idxOf (n : Nat) (p : Nat → Bool) : Int := match (List.range n).find? p with | some i => (i : Nat) | none => -1
theorem idxOf_some {n i : Nat} {p : Nat → Bool} (hi : i < n) (h : p i = true) (hb : ∀ j, j < i → p j = false) : idxOf n p = (i : Nat) := by
  unfold idxOf; rw [find_range_some hi h hb]
theorem idxOf_none {n : Nat} {p : Nat → Bool} (hb : ∀ j, j < n → p j = false) : idxOf n p = -1 := by
  unfold idxOf; rw [find_range_none hb]
theorem idxOf_cases (n : Nat) (p : Nat → Bool) : (∃ i, i < n ∧ p i = true ∧ (∀ j, j < i → p j = false) ∧ idxOf n p = (i : Nat)) ∨ ((∀ j, j < n → p j = false) ∧ idxOf n p = -1) := by
  cases h : (List.range n).find? p with
  | some i =>
    have h1 := List.find?_some h
    have hi : i < n := List.mem_range.1 (List.mem_of_find?_eq_some h)
    refine .inl ⟨i, hi, h1, fun j hj => ?_, by unfold idxOf; rw [h]⟩
    have := List.find?_range_eq_some.1 h
    have h4 := this.2.2 j hj
    simpa using h4
  | none =>
    refine .inr ⟨fun j hj => ?_, by unfold idxOf; rw [h]⟩
    have := List.find?_eq_none.1 h j (List.mem_range.2 hj)
    simpa using this

def okW (w : Nat) : Prop := w = 1 ∨ w = 2 ∨ w = 4 ∨ w = 8
def okI (n : Int) : Prop := -9223372036854775808 ≤ n ∧ n ≤ 9223372036854775807
def thereI (n : Nat) (at' : Int) (w : Nat) : Nat := if 0 ≤ at' ∧ at' + w ≤ n then 0 else 2
def placesI (at' w : Nat) (big : Bool) : List Nat := (List.range w).map fun i => if big then at' + i else at' + w - 1 - i
theorem placesI_length (at' w : Nat) (big : Bool) : (placesI at' w big).length = w := by simp [placesI]
theorem placesI_get {at' w i : Nat} {big : Bool} (h : i < w) : (placesI at' w big).getD i 0 = if big then at' + i else at' + w - 1 - i := by
  simp [placesI, List.getD, List.getElem?_map, List.getElem?_range h]
/-- Bytes put together, in this order. -/
def accB (b : List Nat) (ks : List Nat) : Nat := ks.foldl (fun n k => n * 256 + b.getD k 0) 0
theorem accB_snoc (b ks : List Nat) (k : Nat) : accB b (ks ++ [k]) = accB b ks * 256 + b.getD k 0 := by simp [accB]
theorem okB.get {b : List Nat} (h : okB b) (k : Nat) : b.getD k 0 < 256 := by
  rcases Nat.lt_or_ge k b.length with hk | hk
  · have e : b.getD k 0 = b[k] := by simp [List.getD, hk]
    rw [e]; exact h _ (List.getElem_mem hk)
  · simp [List.getD, List.getElem?_eq_none hk]
theorem accB_go {b : List Nat} (h : okB b) : ∀ (ks : List Nat) (n : Nat), ks.foldl (fun n k => n * 256 + b.getD k 0) n + 1 ≤ (n + 1) * 256 ^ ks.length
  | [], n => by simp
  | k :: ks, n => by
    have h1 := accB_go h ks (n * 256 + b.getD k 0)
    have h2 := h.get k
    rw [List.foldl_cons, List.length_cons, Nat.pow_succ]
    refine Nat.le_trans h1 ?_
    rw [Nat.mul_comm (256 ^ ks.length) 256, ← Nat.mul_assoc]
    exact Nat.mul_le_mul_right _ (by omega)
theorem accB_lt {b : List Nat} (h : okB b) (ks : List Nat) : accB b ks < 256 ^ ks.length := by
  have := accB_go h ks 0
  simp only [Nat.zero_add, Nat.one_mul] at this
  exact this
theorem shl_or {n x : Nat} (hn : n < 72057594037927936) (hx : x < 256) : bitsI .or .u64 (IntKind.u64.wrap ((n : Int) * 2 ^ 8)) (IntKind.u64.wrap (x : Int)) = ((n * 256 + x : Nat) : Int) := by
  have h1 : IntKind.u64.wrap ((n : Int) * 2 ^ 8) = ((n * 256 : Nat) : Int) := by
    have : ((n : Int) * 2 ^ 8) = ((n * 256 : Nat) : Int) := by push_cast; rfl
    rw [this]
    show ((n * 256 : Nat) : Int) % 18446744073709551616 = _
    omega
  have h2 : IntKind.u64.wrap (x : Int) = (x : Int) := by show (x : Int) % 18446744073709551616 = _; omega
  rw [h1, h2]
  have h3 : n * 256 ||| x = n * 256 + x := by
    have := Nat.two_pow_add_eq_or_of_lt (i := 8) (b := x) (by omega) n
    rw [Nat.mul_comm] at this
    exact this.symm
  have := bits_or (k := .u64) (a := n * 256) (b := x) (by show _ < 2 ^ 64; omega) (by show _ < 2 ^ 64; omega) (by rw [h3]; show ((n * 256 + x : Nat) : Int) % 18446744073709551616 = _; omega)
  rw [h3] at this
  exact this
end Go.Proofs.W

namespace Go.Proofs.W
open Go.Vl
set_option maxRecDepth 100000

def sums (o : List Bool) : List Nat := (List.range (o.length + 1)).map fun k => (o.take k).count true
theorem sums_length (o : List Bool) : (sums o).length = o.length + 1 := by simp [sums]
theorem sums_get {o : List Bool} {k : Nat} (h : k ≤ o.length) : (sums o).getD k 0 = (o.take k).count true := by
  have : k < o.length + 1 := by omega
  simp [sums, List.getD, this]
theorem count_take {o : List Bool} {k : Nat} (h : k < o.length) : (o.take (k + 1)).count true = (o.take k).count true + (if o.getD k false then 1 else 0) := by
  rw [take_getD false h, List.count_append]
  cases o.getD k false <;> rfl
theorem count_mono (o : List Bool) (j : Nat) : ∀ d, (o.take j).count true ≤ (o.take (j + d)).count true ∧ (o.take (j + d)).count true ≤ (o.take j).count true + d
  | 0 => ⟨Nat.le_refl _, Nat.le_refl _⟩
  | d + 1 => by
    obtain ⟨h1, h2⟩ := count_mono o j d
    rcases Nat.lt_or_ge (j + d) o.length with h | h
    · rw [show j + (d + 1) = j + d + 1 from rfl, count_take h]
      split <;> omega
    · rw [List.take_of_length_le (show o.length ≤ j + (d + 1) by omega)]
      rw [List.take_of_length_le h] at h1 h2
      omega
theorem to_sums {o : List Bool} {n k : Nat} (h : n + 1 + k ≤ o.length) (hl : o.length ≤ 1000000) : toI (sums o) n k = (((o.take (n + 1 + k)).count true - (o.take (n + 1)).count true : Nat) : Int) ∧ 0 ≤ toI (sums o) n k ∧ toI (sums o) n k ≤ k := by
  have h1 := count_mono o (n + 1) k
  have h2 : (o.take (n + 1 + k)).count true ≤ o.length := Nat.le_trans List.count_le_length (by simp; omega)
  have h3 : toI (sums o) n k = (((o.take (n + 1 + k)).count true - (o.take (n + 1)).count true : Nat) : Int) := by
    unfold toI
    rw [sums_get h, sums_get (by omega), wrap_id (by omega) (by omega)]
    omega
  rw [h3]
  refine ⟨rfl, by omega, by omega⟩
def prI (l : List Ins) (n : Nat) : Ins := prAt (sums (reachedOf l)) n (l.getD n ins0) (kind l n)
def prTo (l : List Ins) (n : Nat) : List Ins := ((List.range n).filter fun n => (reachedOf l).getD n false).map (prI l)
def pruneI (l : List Ins) : List Ins := prTo l (reachedOf l).length
theorem prTo_succ (l : List Ins) (n : Nat) : prTo l (n + 1) = if (reachedOf l).getD n false then prTo l n ++ [prI l n] else prTo l n := by
  unfold prTo
  have h0 : List.filter (fun n => (reachedOf l).getD n false) [n] = if (reachedOf l).getD n false then [n] else [] := by rw [List.filter_cons]; rfl
  rw [List.range_succ, List.filter_append, h0]
  cases h : (reachedOf l).getD n false
  · simp
  · simp
theorem prTo_length (l : List Ins) (n : Nat) : (prTo l n).length ≤ n := by
  unfold prTo
  rw [List.length_map]
  exact Nat.le_trans (List.length_filter_le _ _) (by simp)
def fillA (o : List Bool) (i : Nat) : List Nat := (sums o).take (i + 1) ++ List.replicate (o.length - i) 0
theorem fillA_zero (o : List Bool) : fillA o 0 = List.replicate (o.length + 1) 0 := by
  have : (sums o).take (0 + 1) = [0] := by simp [sums, List.range_succ_eq_map]
  unfold fillA
  rw [this, Nat.sub_zero, List.replicate_succ]; rfl
theorem fillA_length {o : List Bool} {i : Nat} (h : i ≤ o.length) : (fillA o i).length = o.length + 1 := by
  unfold fillA; rw [List.length_append, List.length_take, sums_length, List.length_replicate]; omega
theorem fillA_full (o : List Bool) : fillA o o.length = sums o := by
  unfold fillA; rw [Nat.sub_self, List.take_of_length_le (by rw [sums_length]; exact Nat.le_refl _)]; simp
theorem fillA_at {o : List Bool} {i : Nat} (h : i < o.length) : (fillA o i).getD i 0 = (o.take i).count true := by
  unfold fillA
  rw [fill_get (by rw [List.length_take, sums_length]; omega), ← sums_get (by omega)]
  simp only [List.getD, List.getElem?_take]
  rw [if_pos (by omega)]
theorem fillA_next {o : List Bool} {i : Nat} (h : i < o.length) : fillA o (i + 1) = (fillA o i).set (i + 1) ((fillA o i).getD i 0 + if o.getD i false then 1 else 0) := by
  rw [fillA_at h]
  obtain ⟨m, hm⟩ : ∃ m, o.length - i = m + 1 := ⟨o.length - i - 1, by omega⟩
  have hl : ((sums o).take (i + 1)).length = i + 1 := by rw [List.length_take, sums_length]; omega
  have h1 := fill_set ((sums o).take (i + 1)) m ((o.take i).count true + if o.getD i false then 1 else 0) 0
  rw [hl] at h1
  have h2 := take_getD (l := sums o) (i := i + 1) 0 (by rw [sums_length]; omega)
  rw [sums_get (by omega), count_take h] at h2
  show (sums o).take (i + 1 + 1) ++ _ = ((sums o).take (i + 1) ++ _).set _ _
  rw [hm, h1, h2, show o.length - (i + 1) = m by omega]
theorem check_formed {l : List Ins} (h : (checkI l).2 = 0) : Formed l := by
  refine formed_of ?_
  unfold checkI at h
  split at h
  · exact absurd h (by assumption)
  · rename_i h3; omega
theorem reachedOf_some {l : List Ins} {n : Nat} (h : n < (reachedOf l).length) : Formed l ∧ (reachedOf l).length = l.length := by
  unfold reachedOf at h ⊢
  split at h
  · rename_i h1; rw [if_pos h1]; exact ⟨check_formed h1, reachI_length l⟩
  · simp at h
theorem leave_all (l : List Ins) (hok : okL l) (s0 s1 s2 : Nat) (n : Nat) (x : List Ins × Option Nat) (nx : Nat) (hn : n < (reachedOf l).length) (hb : (reachedOf l).getD n false = true) (hx : x.1 = prTo l n ∧ (x.2 = none → x.1 = [])) :
    ECall Try.prog 21 ([int n, insA (l.getD n ins0), int (kind l n)] ++ [.bp (1, s1) 0, .bp (2, s2) 0]) ⟨prB s0 s1 s2 (sums (reachedOf l)) x.1 x.2, pmOf (nm3 x.2) (x.1.length * 4), nx, 4⟩ fun _ h' =>
      ∃ (x' : List Ins × Option Nat) (nx' nn' : Nat), h' = ⟨prB s0 s1 s2 (sums (reachedOf l)) x'.1 x'.2, pmOf (nm3 x'.2) (x'.1.length * 4), nx', nn'⟩ ∧ (x'.1 = prTo l (n + 1) ∧ (x'.2 = none → x'.1 = [])) := by
  obtain ⟨out, oi⟩ := x
  obtain ⟨h1, h2⟩ := hx
  dsimp only at h1 h2
  obtain ⟨hf, hlen⟩ := reachedOf_some hn
  have hle := hf.le
  have hnx := nexts_lt hf (n := n) (by omega)
  have hol : out.length ≤ n := by rw [h1]; exact prTo_length l n
  refine (leave_spec s0 s1 s2 nx (sums (reachedOf l)) out oi (l.getD n ins0) n (kind l n) (hok.get (by omega)) (by rw [sums_length]; omega) (by omega) h2 (fun hk => ?_) (fun hk => ?_) (fun k hk => ?_)).mono fun r h' ⟨id, nx', nn', q⟩ => ⟨(out ++ [prAt (sums (reachedOf l)) n (l.getD n ins0) (kind l n)], some id), nx', nn', q, ?_, fun h => by cases h⟩
  · have := hnx (n + 1 + (l.getD n ins0).k) (by unfold nextsI; rw [if_neg (by omega), if_pos hk]; simp)
    rw [sums_length]; omega
  · have a1 := hnx (n + 1 + (l.getD n ins0).jt) (by unfold nextsI; rw [if_neg (by omega), if_neg (by omega), if_pos hk]; simp)
    have a2 := hnx (n + 1 + (l.getD n ins0).jf) (by unfold nextsI; rw [if_neg (by omega), if_neg (by omega), if_pos hk]; simp)
    rw [sums_length]; omega
  · rw [sums_length] at hk
    exact (to_sums (o := reachedOf l) (by omega) (by omega)).2
  · rw [prTo_succ, hb, if_pos rfl, h1]; rfl
theorem skip_all (l : List Ins) (n : Nat) (x : List Ins × Option Nat) (hn : n < (reachedOf l).length) (hb : (reachedOf l).getD n false = false) (hx : x.1 = prTo l n ∧ (x.2 = none → x.1 = [])) : x.1 = prTo l (n + 1) ∧ (x.2 = none → x.1 = []) := by
  rw [prTo_succ, hb]
  exact hx
theorem prune_spec (l : List Ins) (hok : okL l) (hl : l.length ≤ 1000000000) : Tells Try.prog 6 [inss l] (inss (pruneI l)) := by
  have hro : (reachedOf l).length ≤ 4096 := by
    unfold reachedOf; split
    · rename_i h; rw [reachI_length]; exact (check_formed h).le
    · simp
  refine tells_of_aw Try.func6 rfl rfl fun nx => ?_
  (repeat((conv=>whnf);first|apply ω0|apply ω1|apply ω2|refine τ3 rfl ?_|refine τ4 rfl ?_|refine ⟨rfl,?_⟩|apply τa|refine τb rfl ?_|refine ⟨⟨by kernel_rfl,by kernel_rfl⟩,?_⟩|refine ⟨by decide,?_⟩|apply τt|apply τf))
  have hr : Tells Try.prog 5 [inss l] (bools (reachedOf l)) := reach_spec l hok hl
  refine aop_tells rfl rfl hr ⟨AVle.refl _, trivial⟩ fun nx => ?_
  have hcall := fun (s0 s1 s2 : Nat) => reached_spec (α := List Ins × Option Nat) l hok hl (fun x => prB s0 s1 s2 (sums (reachedOf l)) x.1 x.2) (fun x => pmOf (nm3 x.2) (x.1.length * 4)) 4 21 [.bp (1, s1) 0, .bp (2, s2) 0]
    (fun n x => x.1 = prTo l n ∧ (x.2 = none → x.1 = []))
  have hw : IntKind.i64.wrap (((reachedOf l).length : Int) + 1) = (((reachedOf l).length + 1 : Nat) : Int) := wrap_succ (by omega)
  (repeat((conv=>whnf);first|apply ω0|apply ω1|apply ω2|refine τ3 rfl ?_|refine τ4 rfl ?_|refine ⟨rfl,?_⟩|apply τa|refine τb rfl ?_|refine ⟨⟨by kernel_rfl,by kernel_rfl⟩,?_⟩|refine ⟨by decide,?_⟩|apply τt|apply τf))
  (conv => whnf)
  rw [hw]
  refine ⟨by omega, by omega, by show ((8 : Nat) : Int) * _ ≤ _; omega, by omega, ?_⟩
  (repeat((conv=>whnf);first|apply ω0|apply ω1|apply ω2|refine τ3 rfl ?_|refine τ4 rfl ?_|refine ⟨rfl,?_⟩|apply τa|refine τb rfl ?_|refine ⟨⟨by kernel_rfl,by kernel_rfl⟩,?_⟩|refine ⟨by decide,?_⟩|apply τt|apply τf))
  refine aw_loop (fun i : Nat => mk 42 [(0, inss l), (3, bools (reachedOf l)), (4, .bp (1, nx + 1) 0), (14, bools (reachedOf l)), (15, int (reachedOf l).length), (16, int i)]
    ⟨[((1, nx + 1), .c [.hs (0, nx) 0 ((reachedOf l).length + 1) ((reachedOf l).length + 1)]), ((0, nx), .c ((fillA (reachedOf l) i).map intA))], [], nx + 2, 2⟩) (fun i => i ≤ (reachedOf l).length) (fun i => (reachedOf l).length - i) ?_ ?_
  · refine ⟨0, by omega, ele_tell _ _ rfl rfl (List.Sublist.refl _) .slnil ⟨rfl, OwnLe.refl _, rfl, OwnLe.of_eq ?_, trivial⟩ trivial ⟨AVle.refl _, AVle.refl _, AVle.refl _, AVle.refl _, AVle.refl _, AVle.refl _, trivial⟩⟩
    rw [fillA_zero, List.map_replicate]
    rfl
  · rintro i h1
    (repeat((conv=>whnf);first|apply ω0|apply ω1|apply ω2|refine τ3 rfl ?_|refine τ4 rfl ?_|refine ⟨rfl,?_⟩|apply τa|refine τb rfl ?_|refine ⟨⟨by kernel_rfl,by kernel_rfl⟩,?_⟩|refine ⟨by decide,?_⟩|apply τt|apply τf))
    intro c g1; cases c
    · have g1 := not_of g1
      obtain rfl : i = (reachedOf l).length := by omega
      (repeat((conv=>whnf);first|apply ω0|apply ω1|apply ω2|refine τ3 rfl ?_|refine τ4 rfl ?_|refine ⟨rfl,?_⟩|apply τa|refine τb rfl ?_|refine ⟨⟨by kernel_rfl,by kernel_rfl⟩,?_⟩|refine ⟨by decide,?_⟩|apply τt|apply τf))
      refine aop_call rfl rfl (ECall.tell (ECall.args (bs := [inss l, .fn (.func 21) [] [.bp (1, nx + 1) 0, .bp (2, nx + 2) 0]]) ⟨AVle.refl _, AVle.refl _, trivial⟩ (hcall nx (nx + 1) (nx + 2) (leave_all l hok _ _ _) (skip_all l) ([], none) (nx + 3) ⟨rfl, fun _ => rfl⟩))
        ⟨rfl, ⟨AVle.os_nil, trivial⟩, rfl, OwnLe.of_eq (by rw [sums_length]), rfl, OwnLe.of_eq (by rw [← fillA_full]), trivial⟩ trivial rfl) fun r h' hq => ?_
      obtain ⟨⟨out, oi⟩, nx5, nn5, rfl, h5, h6⟩ := hq
      refine Named.same ?_
      dsimp only at h5
      (repeat((conv=>whnf);first|apply ω0|apply ω1|apply ω2|refine τ3 rfl ?_|refine τ4 rfl ?_|refine ⟨rfl,?_⟩|apply τa|refine τb rfl ?_|refine ⟨⟨by kernel_rfl,by kernel_rfl⟩,?_⟩|refine ⟨by decide,?_⟩|apply τt|apply τf))
      refine ret_tells rfl ?_
      unfold pruneI
      rw [← h5]
      exact AVle.os_sl
    · have g1 := yes_of g1
      (repeat((conv=>whnf);first|apply ω0|apply ω1|apply ω2|refine τ3 rfl ?_|refine τ4 rfl ?_|refine ⟨rfl,?_⟩|apply τa|refine τb rfl ?_|refine ⟨⟨by kernel_rfl,by kernel_rfl⟩,?_⟩|refine ⟨by decide,?_⟩|apply τt|apply τf))
      refine ⟨⟨by omega, by omega⟩, ?_⟩
      have hi0 : (0 + (Int.toNat (i : Int)) * Try.prog.cellsOf 3) = i := by rw [c3]; omega
      have hi1 : (0 + (Int.toNat ((i + 1 : Nat) : Int)) * Try.prog.cellsOf 3) = i + 1 := by rw [c3]; omega
      have hwi : IntKind.i64.wrap ((i : Int) + 1) = ((i + 1 : Nat) : Int) := wrap_succ (by omega)
      have hfl := fillA_length (o := reachedOf l) (i := i) (by omega)
      (repeat((conv=>whnf);first|apply ω0|apply ω1|apply ω2|refine τ3 rfl ?_|refine τ4 rfl ?_|refine ⟨rfl,?_⟩|apply τa|refine τb rfl ?_|refine ⟨⟨by kernel_rfl,by kernel_rfl⟩,?_⟩|refine ⟨by decide,?_⟩|apply τt|apply τf))
      intro c g2; cases c
      · (repeat((conv=>whnf);first|apply ω0|apply ω1|apply ω2|refine τ3 rfl ?_|refine τ4 rfl ?_|refine ⟨rfl,?_⟩|apply τa|refine τb rfl ?_|refine ⟨⟨by kernel_rfl,by kernel_rfl⟩,?_⟩|refine ⟨by decide,?_⟩|apply τt|apply τf))
        (refine aw_draw 8 ?_ ?_ ?_ ?_; (· kernel_rfl); (· kernel_rfl); (· kernel_rfl))
        (repeat((conv=>whnf);first|apply ω0|apply ω1|apply ω2|refine τ3 rfl ?_|refine τ4 rfl ?_|refine ⟨rfl,?_⟩|apply τa|refine τb rfl ?_|refine ⟨⟨by kernel_rfl,by kernel_rfl⟩,?_⟩|refine ⟨by decide,?_⟩|apply τt|apply τf))
        (conv => whnf)
        refine ⟨⟨by omega, by omega⟩, splitO_eq (b := .bp (0, nx) i) (congrArg (AV.bp (0, nx)) hi0) ?_⟩
        (conv => whnf)
        refine ⟨⟨rfl, by simp; omega⟩, splitO_eq (b := int ((fillA (reachedOf l) i).getD i 0 : Nat)) (getD_map (by omega)) ?_⟩
        (repeat((conv=>whnf);first|apply ω0|apply ω1|apply ω2|refine τ3 rfl ?_|refine τ4 rfl ?_|refine ⟨rfl,?_⟩|apply τa|refine τb rfl ?_|refine ⟨⟨by kernel_rfl,by kernel_rfl⟩,?_⟩|refine ⟨by decide,?_⟩|apply τt|apply τf))
        (conv => whnf)
        rw [hwi]
        refine ⟨⟨by omega, by omega⟩, splitO_eq (b := .bp (0, nx) (i + 1)) (congrArg (AV.bp (0, nx)) hi1) ?_⟩
        (conv => whnf)
        have hsp : splice ((fillA (reachedOf l) i).map intA) (i + 1) [AV.v (.int .i64 ((fillA (reachedOf l) i).getD i 0 : Nat))] = ((fillA (reachedOf l) i).set (i + 1) ((fillA (reachedOf l) i).getD i 0)).map intA := splice_one (f := intA) (by omega)
        refine ⟨⟨rfl, by simp; omega⟩, ?_⟩
        rw [hsp]
        (repeat((conv=>whnf);first|apply ω0|apply ω1|apply ω2|refine τ3 rfl ?_|refine τ4 rfl ?_|refine ⟨rfl,?_⟩|apply τa|refine τb rfl ?_|refine ⟨⟨by kernel_rfl,by kernel_rfl⟩,?_⟩|refine ⟨by decide,?_⟩|apply τt|apply τf))
        refine back (i + 1) (by omega) (by omega) (ele_tell _ _ rfl rfl (List.Sublist.refl _) .slnil ⟨rfl, OwnLe.refl _, rfl, OwnLe.of_eq ?_, trivial⟩ trivial ⟨AVle.refl _, AVle.refl _, AVle.refl _, AVle.refl _, AVle.refl _, le_int (wrap_succ (by omega)), trivial⟩)
        dsimp only
        have g3 : (reachedOf l).getD i false = false := g2.symm
        rw [fillA_next (by omega), g3]
        rfl
      · (repeat((conv=>whnf);first|apply ω0|apply ω1|apply ω2|refine τ3 rfl ?_|refine τ4 rfl ?_|refine ⟨rfl,?_⟩|apply τa|refine τb rfl ?_|refine ⟨⟨by kernel_rfl,by kernel_rfl⟩,?_⟩|refine ⟨by decide,?_⟩|apply τt|apply τf))
        (refine aw_draw 8 ?_ ?_ ?_ ?_; (· kernel_rfl); (· kernel_rfl); (· kernel_rfl))
        (repeat((conv=>whnf);first|apply ω0|apply ω1|apply ω2|refine τ3 rfl ?_|refine τ4 rfl ?_|refine ⟨rfl,?_⟩|apply τa|refine τb rfl ?_|refine ⟨⟨by kernel_rfl,by kernel_rfl⟩,?_⟩|refine ⟨by decide,?_⟩|apply τt|apply τf))
        (conv => whnf)
        refine ⟨⟨by omega, by omega⟩, splitO_eq (b := .bp (0, nx) i) (congrArg (AV.bp (0, nx)) hi0) ?_⟩
        (conv => whnf)
        refine ⟨⟨rfl, by simp; omega⟩, splitO_eq (b := int ((fillA (reachedOf l) i).getD i 0 : Nat)) (getD_map (by omega)) ?_⟩
        (repeat((conv=>whnf);first|apply ω0|apply ω1|apply ω2|refine τ3 rfl ?_|refine τ4 rfl ?_|refine ⟨rfl,?_⟩|apply τa|refine τb rfl ?_|refine ⟨⟨by kernel_rfl,by kernel_rfl⟩,?_⟩|refine ⟨by decide,?_⟩|apply τt|apply τf))
        (conv => whnf)
        rw [hwi]
        refine ⟨⟨by omega, by omega⟩, splitO_eq (b := .bp (0, nx) (i + 1)) (congrArg (AV.bp (0, nx)) hi1) ?_⟩
        (conv => whnf)
        have hsp : splice ((fillA (reachedOf l) i).map intA) (i + 1) [AV.v (.int .i64 ((fillA (reachedOf l) i).getD i 0 : Nat))] = ((fillA (reachedOf l) i).set (i + 1) ((fillA (reachedOf l) i).getD i 0)).map intA := splice_one (f := intA) (by omega)
        refine ⟨⟨rfl, by simp; omega⟩, ?_⟩
        rw [hsp]
        (repeat((conv=>whnf);first|apply ω0|apply ω1|apply ω2|refine τ3 rfl ?_|refine τ4 rfl ?_|refine ⟨rfl,?_⟩|apply τa|refine τb rfl ?_|refine ⟨⟨by kernel_rfl,by kernel_rfl⟩,?_⟩|refine ⟨by decide,?_⟩|apply τt|apply τf))
        (conv => whnf)
        rw [hwi]
        refine ⟨⟨by omega, by omega⟩, splitO_eq (b := .bp (0, nx) (i + 1)) (congrArg (AV.bp (0, nx)) hi1) ?_⟩
        (conv => whnf)
        refine ⟨⟨rfl, by simp; omega⟩, splitO_eq (b := int (((fillA (reachedOf l) i).set (i + 1) ((fillA (reachedOf l) i).getD i 0)).getD (i + 1) 0 : Nat)) (getD_map (by simp; omega)) ?_⟩
        (repeat((conv=>whnf);first|apply ω0|apply ω1|apply ω2|refine τ3 rfl ?_|refine τ4 rfl ?_|refine ⟨rfl,?_⟩|apply τa|refine τb rfl ?_|refine ⟨⟨by kernel_rfl,by kernel_rfl⟩,?_⟩|refine ⟨by decide,?_⟩|apply τt|apply τf))
        (conv => whnf)
        refine ⟨⟨by omega, by omega⟩, splitO_eq (b := .bp (0, nx) (i + 1)) (congrArg (AV.bp (0, nx)) hi1) ?_⟩
        (conv => whnf)
        have hv : ((fillA (reachedOf l) i).set (i + 1) ((fillA (reachedOf l) i).getD i 0)).getD (i + 1) 0 = (fillA (reachedOf l) i).getD i 0 := by
          rw [getDL_set, if_pos ⟨rfl, by omega⟩]
        have hle2 : (fillA (reachedOf l) i).getD i 0 ≤ (reachedOf l).length := by
          rw [fillA_at (by omega)]
          exact Nat.le_trans List.count_le_length (by simp; omega)
        have hsp2 : splice (((fillA (reachedOf l) i).set (i + 1) ((fillA (reachedOf l) i).getD i 0)).map intA) (i + 1) [AV.v (.int .i64 (IntKind.i64.wrap ((((fillA (reachedOf l) i).set (i + 1) ((fillA (reachedOf l) i).getD i 0)).getD (i + 1) 0 : Nat) + 1)))] = (fillA (reachedOf l) (i + 1)).map intA := by
          have g3 : (reachedOf l).getD i false = true := g2.symm
          rw [hv, show IntKind.i64.wrap (((fillA (reachedOf l) i).getD i 0 : Nat) + 1 : Int) = (((fillA (reachedOf l) i).getD i 0 + 1 : Nat) : Int) from wrap_succ (by omega)]
          refine (splice_one (f := intA) (x := (fillA (reachedOf l) i).getD i 0 + 1) (by simp; omega)).trans ?_
          rw [fillA_next (by omega), g3, List.set_set]
          rfl
        refine ⟨⟨rfl, by simp; omega⟩, ?_⟩
        rw [hsp2]
        (repeat((conv=>whnf);first|apply ω0|apply ω1|apply ω2|refine τ3 rfl ?_|refine τ4 rfl ?_|refine ⟨rfl,?_⟩|apply τa|refine τb rfl ?_|refine ⟨⟨by kernel_rfl,by kernel_rfl⟩,?_⟩|refine ⟨by decide,?_⟩|apply τt|apply τf))
        exact back (i + 1) (by omega) (by omega) (ele_tell _ _ rfl rfl (List.Sublist.refl _) .slnil ⟨rfl, OwnLe.refl _, rfl, OwnLe.refl _, trivial⟩ trivial ⟨AVle.refl _, AVle.refl _, AVle.refl _, AVle.refl _, AVle.refl _, le_int (wrap_succ (by omega)), trivial⟩)
end Go.Proofs.W

namespace Go.Proofs.W
open Go.Vl
set_option maxRecDepth 100000

theorem ix1 {c i : Nat} (h : c = 1) : 0 + Int.toNat ((i : Nat) : Int) * c = i := by subst h; omega
def bareA (l : List Ins) (i : Nat) : List Bool := bareN l i ++ [false]
theorem bareA_length (l : List Ins) (i : Nat) : (bareA l i).length = l.length + 1 := by simp [bareA, bareN_length]
theorem bareA_get {l : List Ins} {i n : Nat} (h : n < l.length) : (bareA l i).getD n false = (bareN l i).getD n false := by
  simp [bareA, List.getD, List.getElem?_append_left, bareN_length, h]
end Go.Proofs.W

namespace Go.Proofs.W
open Go.Vl
set_option maxRecDepth 100000

theorem formedR_spec (l : List Ins) (hok : okL l) (hl : l.length ≤ 1000000000) : Tells Try.prog 29 [inss l] (.tup [int (formedI l).1, int (formedI l).2]) := by
  refine tells_of_aw Try.func29 rfl rfl fun nx => ?_
  (repeat((conv=>whnf);first|apply ω0|apply ω1|apply ω2|refine τ3 rfl ?_|refine τ4 rfl ?_|refine ⟨rfl,?_⟩|apply τa|refine τb rfl ?_|refine ⟨⟨by kernel_rfl,by kernel_rfl⟩,?_⟩|refine ⟨by decide,?_⟩|apply τt|apply τf))
  intro c g1; cases c
  · have h1 := fct_b0.1 g1
    (repeat((conv=>whnf);first|apply ω0|apply ω1|apply ω2|refine τ3 rfl ?_|refine τ4 rfl ?_|refine ⟨rfl,?_⟩|apply τa|refine τb rfl ?_|refine ⟨⟨by kernel_rfl,by kernel_rfl⟩,?_⟩|refine ⟨by decide,?_⟩|apply τt|apply τf))
    intro c g2; cases c
    · have h2 := not_of g2
      (repeat((conv=>whnf);first|apply ω0|apply ω1|apply ω2|refine τ3 rfl ?_|refine τ4 rfl ?_|refine ⟨rfl,?_⟩|apply τa|refine τb rfl ?_|refine ⟨⟨by kernel_rfl,by kernel_rfl⟩,?_⟩|refine ⟨by decide,?_⟩|apply τt|apply τf))
      refine aw_loop (fun s : Nat × Nat => mk 54 [(0, inss l), (4, int s.1)] ⟨[], [], s.2, 0⟩) (fun s => s.1 ≤ l.length ∧ ∀ j, j < s.1 → wrongI (l.getD j ins0) (l.length - 1 - j) = 0) (fun s => l.length - s.1) ?_ ?_
      · exact ⟨(0, nx), ⟨by omega, by intro j hj; omega⟩, ele_mk rfl rfl ⟨AVle.refl _, AVle.refl _, trivial⟩⟩
      · rintro ⟨i, nx'⟩ ⟨h3, h4⟩
        dsimp only at h3 h4
        (repeat((conv=>whnf);first|apply ω0|apply ω1|apply ω2|refine τ3 rfl ?_|refine τ4 rfl ?_|refine ⟨rfl,?_⟩|apply τa|refine τb rfl ?_|refine ⟨⟨by kernel_rfl,by kernel_rfl⟩,?_⟩|refine ⟨by decide,?_⟩|apply τt|apply τf))
        intro c g3; cases c
        · have h5 := not_of g3
          dsimp only at h5
          have hw : IntKind.i64.wrap ((l.length : Int) - 1) = ((l.length - 1 : Nat) : Int) := by rw [wrap_id (by omega) (by omega)]; omega
          have hof := refof_spec (l.getD (l.length - 1) ins0).code (hok.get (by omega)).1
          have hnone : (List.range l.length).find? (fun n => wrongI (l.getD n ins0) (l.length - 1 - n) != 0) = none := find_range_none fun j hj => by simpa using h4 j (by omega)
          have hF : formedI l = if (kof (l.getD (l.length - 1) ins0).code).1 = 14 ∨ (kof (l.getD (l.length - 1) ins0).code).1 = 15 then (0, 0) else (l.length - 1, 11) := by
            unfold formedI
            rw [if_neg (by omega), if_neg (by omega), hnone]
          rw [hF]
          (repeat((conv=>whnf);first|apply ω0|apply ω1|apply ω2|refine τ3 rfl ?_|refine τ4 rfl ?_|refine ⟨rfl,?_⟩|apply τa|refine τb rfl ?_|refine ⟨⟨by kernel_rfl,by kernel_rfl⟩,?_⟩|refine ⟨by decide,?_⟩|apply τt|apply τf))
          (conv => whnf)
          rw [hw]
          refine ⟨⟨by omega, by omega⟩, ?_⟩
          (repeat((conv=>whnf);first|apply ω0|apply ω1|apply ω2|refine τ3 rfl ?_|refine τ4 rfl ?_|refine ⟨rfl,?_⟩|apply τa|refine τb rfl ?_|refine ⟨⟨by kernel_rfl,by kernel_rfl⟩,?_⟩|refine ⟨by decide,?_⟩|apply τt|apply τf))
          refine aop_tells rfl rfl hof ⟨AVle.refl _, trivial⟩ fun nx => ?_
          (repeat((conv=>whnf);first|apply ω0|apply ω1|apply ω2|refine τ3 rfl ?_|refine τ4 rfl ?_|refine ⟨rfl,?_⟩|apply τa|refine τb rfl ?_|refine ⟨⟨by kernel_rfl,by kernel_rfl⟩,?_⟩|refine ⟨by decide,?_⟩|apply τt|apply τf))
          intro cx hx
          (repeat((conv=>whnf);first|apply ω0|apply ω1|apply ω2|refine τ3 rfl ?_|refine τ4 rfl ?_|refine ⟨rfl,?_⟩|apply τa|refine τb rfl ?_|refine ⟨⟨by kernel_rfl,by kernel_rfl⟩,?_⟩|refine ⟨by decide,?_⟩|apply τt|apply τf))
          intro c g4; cases c
          · have h6 := bne_no g4
            rw [if_pos (by omega)]
            (repeat((conv=>whnf);first|apply ω0|apply ω1|apply ω2|refine τ3 rfl ?_|refine τ4 rfl ?_|refine ⟨rfl,?_⟩|apply τa|refine τb rfl ?_|refine ⟨⟨by kernel_rfl,by kernel_rfl⟩,?_⟩|refine ⟨by decide,?_⟩|apply τt|apply τf))
            exact ret_tells rfl (AVle.refl _)
          · have h6 := bne_yes g4
            (repeat((conv=>whnf);first|apply ω0|apply ω1|apply ω2|refine τ3 rfl ?_|refine τ4 rfl ?_|refine ⟨rfl,?_⟩|apply τa|refine τb rfl ?_|refine ⟨⟨by kernel_rfl,by kernel_rfl⟩,?_⟩|refine ⟨by decide,?_⟩|apply τt|apply τf))
            intro c g5; cases c
            · have h7 := bne_no g5
              rw [if_pos (by omega)]
              (repeat((conv=>whnf);first|apply ω0|apply ω1|apply ω2|refine τ3 rfl ?_|refine τ4 rfl ?_|refine ⟨rfl,?_⟩|apply τa|refine τb rfl ?_|refine ⟨⟨by kernel_rfl,by kernel_rfl⟩,?_⟩|refine ⟨by decide,?_⟩|apply τt|apply τf))
              exact ret_tells rfl (AVle.refl _)
            · have h7 := bne_yes g5
              rw [if_neg (by omega)]
              (repeat((conv=>whnf);first|apply ω0|apply ω1|apply ω2|refine τ3 rfl ?_|refine τ4 rfl ?_|refine ⟨rfl,?_⟩|apply τa|refine τb rfl ?_|refine ⟨⟨by kernel_rfl,by kernel_rfl⟩,?_⟩|refine ⟨by decide,?_⟩|apply τt|apply τf))
              exact ret_tells rfl (AVle.tups (cs := [_, _]) ⟨le_int hw, AVle.refl _, trivial⟩)
        · have h5 := yes_of g3
          dsimp only at h5
          have hi : i < l.length := by omega
          have hw : IntKind.i64.wrap (IntKind.i64.wrap ((l.length : Int) - 1) - (i : Int)) = ((l.length - 1 - i : Nat) : Int) := by
            rw [wrap_id (n := (l.length : Int) - 1) (by omega) (by omega), wrap_id (by omega) (by omega)]; omega
          have hal := aloneR_spec (l.getD i ins0) (hok.get hi) (l.length - 1 - i)
          have hF : wrongI (l.getD i ins0) (l.length - 1 - i) ≠ 0 → formedI l = (i, wrongI (l.getD i ins0) (l.length - 1 - i)) := fun hne => by
            unfold formedI
            rw [if_neg (by omega), if_neg (by omega), find_range_some hi (by simpa using hne) (fun j hj => by simpa using h4 j hj)]
          have hS : wrongI (l.getD i ins0) (l.length - 1 - i) = 0 → ∀ j, j < i + 1 → wrongI (l.getD j ins0) (l.length - 1 - j) = 0 := fun h0 j hj => by
            rcases Nat.lt_or_ge j i with h | h
            · exact h4 j h
            · obtain rfl : j = i := by omega
              exact h0
          generalize wrongI (l.getD i ins0) (l.length - 1 - i) = e at hal hF hS
          (repeat((conv=>whnf);first|apply ω0|apply ω1|apply ω2|refine τ3 rfl ?_|refine τ4 rfl ?_|refine ⟨rfl,?_⟩|apply τa|refine τb rfl ?_|refine ⟨⟨by kernel_rfl,by kernel_rfl⟩,?_⟩|refine ⟨by decide,?_⟩|apply τt|apply τf))
          refine ⟨⟨by first | omega | (dsimp only; omega), by first | omega | (dsimp only; omega)⟩, ?_⟩
          (repeat((conv=>whnf);first|apply ω0|apply ω1|apply ω2|refine τ3 rfl ?_|refine τ4 rfl ?_|refine ⟨rfl,?_⟩|apply τa|refine τb rfl ?_|refine ⟨⟨by kernel_rfl,by kernel_rfl⟩,?_⟩|refine ⟨by decide,?_⟩|apply τt|apply τf))
          refine aop_tells rfl rfl hal ⟨AVle.refl _, le_int hw, trivial⟩ fun nx3 => ?_
          (repeat((conv=>whnf);first|apply ω0|apply ω1|apply ω2|refine τ3 rfl ?_|refine τ4 rfl ?_|refine ⟨rfl,?_⟩|apply τa|refine τb rfl ?_|refine ⟨⟨by kernel_rfl,by kernel_rfl⟩,?_⟩|refine ⟨by decide,?_⟩|apply τt|apply τf))
          intro c g5; cases c
          · have h7 := bne_no g5
            (repeat((conv=>whnf);first|apply ω0|apply ω1|apply ω2|refine τ3 rfl ?_|refine τ4 rfl ?_|refine ⟨rfl,?_⟩|apply τa|refine τb rfl ?_|refine ⟨⟨by kernel_rfl,by kernel_rfl⟩,?_⟩|refine ⟨by decide,?_⟩|apply τt|apply τf))
            exact back (i + 1, _) ⟨(by first | omega | (dsimp only at *; omega) | (simp; done) | (simp; omega)), hS (by omega)⟩ (by first | omega | (dsimp only at *; omega) | (simp; done) | (simp; omega)) (ele_keep rfl rfl (List.nil_sublist _) (List.nil_sublist _) ⟨AVle.refl _, le_int (wrap_succ (by first | omega | (dsimp only at *; omega) | (simp; done) | (simp; omega))), trivial⟩)
          · have h7 := bne_yes g5
            rw [hF (by omega)]
            (repeat((conv=>whnf);first|apply ω0|apply ω1|apply ω2|refine τ3 rfl ?_|refine τ4 rfl ?_|refine ⟨rfl,?_⟩|apply τa|refine τb rfl ?_|refine ⟨⟨by kernel_rfl,by kernel_rfl⟩,?_⟩|refine ⟨by decide,?_⟩|apply τt|apply τf))
            exact ret_tells rfl (AVle.refl _)
    · have h2 := yes_of g2
      have hF : formedI l = (0, 3) := by unfold formedI; rw [if_neg (by omega), if_pos (by omega)]
      rw [hF]
      (repeat((conv=>whnf);first|apply ω0|apply ω1|apply ω2|refine τ3 rfl ?_|refine τ4 rfl ?_|refine ⟨rfl,?_⟩|apply τa|refine τb rfl ?_|refine ⟨⟨by kernel_rfl,by kernel_rfl⟩,?_⟩|refine ⟨by decide,?_⟩|apply τt|apply τf))
      exact ret_tells rfl (AVle.refl _)
  · have h1 := fct_b1.1 g1
    have hF : formedI l = (0, 4) := by unfold formedI; rw [if_pos (by omega)]
    rw [hF]
    (repeat((conv=>whnf);first|apply ω0|apply ω1|apply ω2|refine τ3 rfl ?_|refine τ4 rfl ?_|refine ⟨rfl,?_⟩|apply τa|refine τb rfl ?_|refine ⟨⟨by kernel_rfl,by kernel_rfl⟩,?_⟩|refine ⟨by decide,?_⟩|apply τt|apply τf))
    exact ret_tells rfl (AVle.refl _)

def stopZ (l : List Ins) (z : Int) (n : Nat) : Bool := decide (isStore (kind l n)) && decide (((l.getD n ins0).k : Int) = z)
theorem stopZ_nat (l : List Ins) (c : Nat) : stopZ l (c : Int) = stopC l c := by
  funext n
  unfold stopZ stopC
  congr 1
  exact decide_eq_decide.2 (by omega)
theorem stopZ_neg (l : List Ins) : stopZ l (-1) = fun _ => false := by
  funext n
  unfold stopZ
  rw [decide_eq_false (show ¬ ((l.getD n ins0).k : Int) = -1 by omega), Bool.and_false]
theorem scan_same {l : List Ins} {st : Nat → Bool} {i : Nat} (h : (scanN l st i).getD i false = false ∨ st i = true) : scanN l st (i + 1) = scanN l st i := by
  rw [scanN_succ]
  unfold scanStep
  rcases h with h | h <;> rw [h] <;> simp
theorem scan_goes {l : List Ins} {st : Nat → Bool} {i : Nat} (h : (scanN l st i).getD i false = true) (h2 : st i = false) : scanN l st (i + 1) = (nextsI l i).foldl setT (scanN l st i) := by
  rw [scanN_succ]
  unfold scanStep
  rw [h, h2]; rfl
theorem frz_bools {bs : List (Nat × Own)} {s0 : Nat} {o : List Bool} {n : Nat} (hn : o.length = n) (hm : (s0, .c (o.map boolA)) ∈ bs) : Frz bs (.hs (0, s0) 0 n n) (bools o) := by
  subst hn
  refine Frz.hs1 (cs := o.map boolA) hm (Nat.le_refl _) (by rw [List.length_map]; exact Nat.le_refl _) (fun _ _ => rfl) fun k hk => ?_
  rw [List.getElem?_map, List.getElem?_eq_getElem hk]
  simp [List.getD, hk]
theorem reachedR_spec (l : List Ins) (hok : okL l) (hf : Formed l) (z : Int) : Tells Try.prog 12 [inss l, int z] (bools (reachC l (stopZ l z))) := by
  have hle := hf.le
  have hpos := hf.pos
  unfold reachC
  refine tells_of_aw Try.func12 rfl rfl fun nx => ?_
  (repeat((conv=>whnf);first|apply ω0|apply ω1|apply ω2|refine τ3 rfl ?_|refine τ4 rfl ?_|refine ⟨rfl,?_⟩|apply τa|refine τb rfl ?_|refine ⟨⟨by kernel_rfl,by kernel_rfl⟩,?_⟩|refine ⟨by decide,?_⟩|apply τt|apply τf))
  (conv => whnf)
  refine ⟨by omega, by omega, by rw [b4]; omega, by omega, ?_⟩
  (repeat((conv=>whnf);first|apply ω0|apply ω2|refine τ3 rfl ?_|refine τ4 rfl ?_|refine ⟨rfl,?_⟩|apply τa|refine τb rfl ?_|refine ⟨⟨by kernel_rfl,by kernel_rfl⟩,?_⟩|refine ⟨by decide,?_⟩|apply τt|apply τf))
  refine AW.le (E' := mk 70 [(0, inss l), (1, int z), (5, .hs (0, nx) 0 l.length l.length)] ⟨[((0, nx), .c ((List.replicate l.length false).map boolA))], [], nx + 1, 1⟩) (by
    refine ele_tell _ _ rfl rfl (List.Sublist.refl _) .slnil ⟨rfl, OwnLe.of_eq ?_, trivial⟩ trivial ⟨AVle.refl _, AVle.refl _, AVle.refl _, trivial⟩
    rw [List.map_replicate]; rfl) ?_
  (repeat((conv=>whnf);first|apply ω0|apply ω1|apply ω2|refine τ3 rfl ?_|refine τ4 rfl ?_|refine ⟨rfl,?_⟩|apply τa|refine τb rfl ?_|refine ⟨⟨by kernel_rfl,by kernel_rfl⟩,?_⟩|refine ⟨by decide,?_⟩|apply τt|apply τf))
  (refine ⟨⟨by first | omega | (dsimp only; omega), by first | omega | (dsimp only; omega)⟩, splitO_eq (b := .bp (0, nx) (0)) (congrArg (AV.bp (0, nx)) (ix1 c4)) ?_⟩; (conv => whnf); refine ⟨⟨rfl, (by first | omega | (simp only [List.length_map, List.length_set, List.length_cons, List.length_nil, List.length_replicate, List.length_append]; omega))⟩, ?_⟩; rw [show splice ((List.replicate l.length false).map boolA) (0) [AV.v (.bool true)] = ((List.replicate l.length false).set (0) (true)).map boolA from splice_one (f := boolA) (x := true) (by first | omega | (simp only [List.length_map, List.length_set, List.length_cons, List.length_nil, List.length_replicate, List.length_append]; omega))])
  (repeat((conv=>whnf);first|apply ω0|apply ω1|apply ω2|refine τ3 rfl ?_|refine τ4 rfl ?_|refine ⟨rfl,?_⟩|apply τa|refine τb rfl ?_|refine ⟨⟨by kernel_rfl,by kernel_rfl⟩,?_⟩|refine ⟨by decide,?_⟩|apply τt|apply τf))
  refine aw_loop (fun s : Nat × Nat => mk 70 [(0, inss l), (1, int z), (5, .hs (0, nx) 0 l.length l.length), (6, int s.1)] ⟨[((0, nx), .c ((scanN l (stopZ l z) s.1).map boolA))], [], s.2, 1⟩) (fun s => s.1 ≤ l.length) (fun s => l.length - s.1) ?_ ?_
  · exact ⟨(0, nx + 1), Nat.zero_le _, ele_tell _ _ rfl rfl (List.Sublist.refl _) .slnil ⟨rfl, OwnLe.of_eq rfl, trivial⟩ trivial ⟨AVle.refl _, AVle.refl _, AVle.refl _, AVle.refl _, trivial⟩⟩
  · rintro ⟨i, nx'⟩ h1
    dsimp only at h1
    have hlen := scanN_length l (stopZ l z) i
    (repeat((conv=>whnf);first|apply ω0|apply ω1|apply ω2|refine τ3 rfl ?_|refine τ4 rfl ?_|refine ⟨rfl,?_⟩|apply τa|refine τb rfl ?_|refine ⟨⟨by kernel_rfl,by kernel_rfl⟩,?_⟩|refine ⟨by decide,?_⟩|apply τt|apply τf))
    intro c g2; cases c
    · have g2 := not_of g2
      dsimp only at g2
      obtain rfl : i = l.length := by omega
      (repeat ((conv=>whnf);first|refine ω0 ?_|refine ω1 ?_|refine ω2 ?_|refine ω3 ?_|refine ω4 rfl ?_|refine ω5 rfl ?_|refine ω6 ?_|refine ω7 ?_|refine ⟨rfl,?_⟩|refine ⟨trivial,?_⟩|refine ⟨⟨rfl,Nat.le_of_ble_eq_true rfl⟩,?_⟩|refine ⟨⟨by kernel_rfl,by kernel_rfl⟩,?_⟩|refine ⟨by decide,?_⟩|refine lit_true ?_|refine lit_false ?_))
      refine AW.le (ele_freeze (L := [(4, bools (scanN l (stopZ l z) l.length))]) (bx := []) (pm := []) (nn := 0) [((0, nx), .c ((scanN l (stopZ l z) l.length).map boolA))] rfl rfl (List.Sublist.refl _) .slnil ⟨?_, trivial⟩) ?_
      · exact frz_bools hlen (List.mem_cons_self ..)
      (repeat((conv=>whnf);first|apply ω0|apply ω1|apply ω2|refine τ3 rfl ?_|refine τ4 rfl ?_|refine ⟨rfl,?_⟩|apply τa|refine τb rfl ?_|refine ⟨⟨by kernel_rfl,by kernel_rfl⟩,?_⟩|refine ⟨by decide,?_⟩|apply τt|apply τf))
      exact ret_tells rfl (AVle.refl _)
    · have g2 := yes_of g2
      dsimp only at g2
      have hi : i < l.length := by omega
      have hki : (l.getD i ins0).ok := hok.get hi
      have hof := refof_spec (l.getD i ins0).code hki.1
      have hnx := nexts_lt hf hi
      have hkd : (kof (l.getD i ins0).code).1 = kind l i := rfl
      have wk : IntKind.i64.wrap ((l.getD i ins0).k : Int) = (l.getD i ins0).k := wrap_id (by have := hki.2.2.2; omega) (by have := hki.2.2.2; omega)
      have hsame := scan_same (l := l) (st := stopZ l z) (i := i)
      have hgoes := scan_goes (l := l) (st := stopZ l z) (i := i)
      have hst : stopZ l z i = (decide (isStore (kind l i)) && decide (((l.getD i ins0).k : Int) = z)) := rfl
      generalize stopZ l z = st at *
      generalize hO : scanN l st i = o at *
      rw [hkd] at hof
      generalize kind l i = K at hof hst
      generalize (kof (l.getD i ins0).code).2 = x at hof
      (repeat((conv=>whnf);first|apply ω0|apply ω1|apply ω2|refine τ3 rfl ?_|refine τ4 rfl ?_|refine ⟨rfl,?_⟩|apply τa|refine τb rfl ?_|refine ⟨⟨by kernel_rfl,by kernel_rfl⟩,?_⟩|refine ⟨by decide,?_⟩|apply τt|apply τf))
      refine ⟨⟨by first | omega | (dsimp only; omega), by first | omega | (dsimp only; omega)⟩, ?_⟩
      (repeat((conv=>whnf);first|apply ω0|apply ω1|apply ω2|refine τ3 rfl ?_|refine τ4 rfl ?_|refine ⟨rfl,?_⟩|apply τa|refine τb rfl ?_|refine ⟨⟨by kernel_rfl,by kernel_rfl⟩,?_⟩|refine ⟨by decide,?_⟩|apply τt|apply τf))
      refine aop_tells rfl rfl hof ⟨AVle.refl _, trivial⟩ fun nx3 => ?_
      (repeat((conv=>whnf);first|apply ω0|apply ω1|apply ω2|refine τ3 rfl ?_|refine τ4 rfl ?_|refine ⟨rfl,?_⟩|apply τa|refine τb rfl ?_|refine ⟨⟨by kernel_rfl,by kernel_rfl⟩,?_⟩|refine ⟨by decide,?_⟩|apply τt|apply τf))
      intro cx hx
      (repeat((conv=>whnf);first|apply ω0|apply ω1|apply ω2|refine τ3 rfl ?_|refine τ4 rfl ?_|refine ⟨rfl,?_⟩|apply τa|refine τb rfl ?_|refine ⟨⟨by kernel_rfl,by kernel_rfl⟩,?_⟩|refine ⟨by decide,?_⟩|apply τt|apply τf))
      (refine ⟨⟨by first | omega | (dsimp only; omega), by first | omega | (dsimp only; omega)⟩, splitO_eq (b := .bp (0, nx) (i)) (congrArg (AV.bp (0, nx)) (ix1 c4)) ?_⟩; (conv => whnf); refine ⟨⟨rfl, (by first | omega | (simp only [List.length_map, List.length_set, List.length_cons, List.length_nil, List.length_replicate, List.length_append]; omega))⟩, splitO_eq (b := boolA ((o).getD (i) false)) (getD_map (by first | omega | (simp only [List.length_map, List.length_set, List.length_cons, List.length_nil, List.length_replicate, List.length_append]; omega))) ?_⟩)
      (repeat((conv=>whnf);first|apply ω0|apply ω1|apply ω2|refine τ3 rfl ?_|refine τ4 rfl ?_|refine ⟨rfl,?_⟩|apply τa|refine τb rfl ?_|refine ⟨⟨by kernel_rfl,by kernel_rfl⟩,?_⟩|refine ⟨by decide,?_⟩|apply τt|apply τf))
      intro b hb
      cases b
      · (repeat((conv=>whnf);first|apply ω0|apply ω1|apply ω2|refine τ3 rfl ?_|refine τ4 rfl ?_|refine ⟨rfl,?_⟩|apply τa|refine τb rfl ?_|refine ⟨⟨by kernel_rfl,by kernel_rfl⟩,?_⟩|refine ⟨by decide,?_⟩|apply τt|apply τf))
        exact back (i + 1, _) (by first | omega | (dsimp only at *; omega) | (simp; done) | (simp; omega)) (by first | omega | (dsimp only at *; omega) | (simp; done) | (simp; omega)) (ele_tell _ _ rfl rfl (List.Sublist.refl _) .slnil ⟨rfl, OwnLe.of_eq (by dsimp only; rw [hsame (.inl hb.symm)]), trivial⟩ trivial ⟨AVle.refl _, AVle.refl _, AVle.refl _, le_int (wrap_succ (by first | omega | (dsimp only at *; omega) | (simp; done) | (simp; omega))), trivial⟩)
      · have hb : o.getD i false = true := hb.symm
        (repeat((conv=>whnf);first|apply ω0|apply ω1|apply ω2|refine τ3 rfl ?_|refine τ4 rfl ?_|refine ⟨rfl,?_⟩|apply τa|refine τb rfl ?_|refine ⟨⟨by kernel_rfl,by kernel_rfl⟩,?_⟩|refine ⟨by decide,?_⟩|apply τt|apply τf))
        intro c e1; cases c
        · have e1 := fct_b0.1 e1
          (repeat((conv=>whnf);first|apply ω0|apply ω1|apply ω2|refine τ3 rfl ?_|refine τ4 rfl ?_|refine ⟨rfl,?_⟩|apply τa|refine τb rfl ?_|refine ⟨⟨by kernel_rfl,by kernel_rfl⟩,?_⟩|refine ⟨by decide,?_⟩|apply τt|apply τf))
          intro c e2; cases c
          · have e2 := fct_b0.1 e2
            have hs : st i = false := by rw [hst, decide_eq_false (show ¬ isStore K by unfold isStore; omega)]; rfl
            have hgo := hgoes hb hs
            (repeat((conv=>whnf);first|apply ω0|apply ω1|apply ω2|refine τ3 rfl ?_|refine τ4 rfl ?_|refine ⟨rfl,?_⟩|apply τa|refine τb rfl ?_|refine ⟨⟨by kernel_rfl,by kernel_rfl⟩,?_⟩|refine ⟨by decide,?_⟩|apply τt|apply τf))
            refine aop_tells rfl rfl (nextR_spec l hok hf i hi) ⟨AVle.refl _, AVle.refl _, trivial⟩ fun nx5 => ?_
            have hts : (nextsI l i).length ≤ 2 := by unfold nextsI; (repeat' split) <;> simp
            generalize nextsI l i = ts at *
            have hmem : ∀ j, j < ts.length → ts.getD j 0 < l.length := fun j hj => (hnx _ (by simp [List.getD, hj])).2
            (repeat((conv=>whnf);first|apply ω0|apply ω1|apply ω2|refine τ3 rfl ?_|refine τ4 rfl ?_|refine ⟨rfl,?_⟩|apply τa|refine τb rfl ?_|refine ⟨⟨by kernel_rfl,by kernel_rfl⟩,?_⟩|refine ⟨by decide,?_⟩|apply τt|apply τf))
            refine aw_loop (fun s : Nat × Nat => mk 70 [(0, inss l), (1, int z), (5, .hs (0, nx) 0 l.length l.length), (6, int i), (9, ints ts), (10, int s.1)] ⟨[((0, nx), .c (((ts.take s.1).foldl setT o).map boolA))], [], s.2, 1⟩) (fun s => s.1 ≤ ts.length) (fun s => ts.length - s.1) ?_ ?_
            · exact ⟨(0, nx5), Nat.zero_le _, ele_tell _ _ rfl rfl (List.Sublist.refl _) .slnil ⟨rfl, OwnLe.refl _, trivial⟩ trivial ⟨AVle.refl _, AVle.refl _, AVle.refl _, AVle.refl _, AVle.refl _, AVle.refl _, trivial⟩⟩
            · rintro ⟨j, nx6⟩ k1
              dsimp only at k1
              (repeat((conv=>whnf);first|apply ω0|apply ω1|apply ω2|refine τ3 rfl ?_|refine τ4 rfl ?_|refine ⟨rfl,?_⟩|apply τa|refine τb rfl ?_|refine ⟨⟨by kernel_rfl,by kernel_rfl⟩,?_⟩|refine ⟨by decide,?_⟩|apply τt|apply τf))
              intro c g3; cases c
              · have g3 := not_of g3
                dsimp only at g3
                have hj : ts.take j = ts := List.take_of_length_le (by omega)
                (repeat((conv=>whnf);first|apply ω0|apply ω1|apply ω2|refine τ3 rfl ?_|refine τ4 rfl ?_|refine ⟨rfl,?_⟩|apply τa|refine τb rfl ?_|refine ⟨⟨by kernel_rfl,by kernel_rfl⟩,?_⟩|refine ⟨by decide,?_⟩|apply τt|apply τf))
                exact back (i + 1, _) (by first | omega | (dsimp only at *; omega) | (simp; done) | (simp; omega)) (by first | omega | (dsimp only at *; omega) | (simp; done) | (simp; omega)) (ele_tell _ _ rfl rfl (List.Sublist.refl _) .slnil ⟨rfl, OwnLe.of_eq (by dsimp only; rw [hj, hgo]), trivial⟩ trivial ⟨AVle.refl _, AVle.refl _, AVle.refl _, le_int (wrap_succ (by first | omega | (dsimp only at *; omega) | (simp; done) | (simp; omega))), trivial⟩)
              · have g3 := yes_of g3
                dsimp only at g3
                have hj : j < ts.length := by omega
                have ht := hmem j hj
                have hAl : ((ts.take j).foldl setT o).length = l.length := by rw [foldT_length]; exact hlen
                have hA2 : (ts.take (j + 1)).foldl setT o = ((ts.take j).foldl setT o).set (ts.getD j 0) true := by rw [take_getD 0 hj, List.foldl_append]; rfl
                generalize (ts.take j).foldl setT o = A at *
                generalize hT : ts.getD j 0 = t at ht hA2
                (repeat((conv=>whnf);first|apply ω0|apply ω1|apply ω2|refine τ3 rfl ?_|refine τ4 rfl ?_|refine ⟨rfl,?_⟩|apply τa|refine τb rfl ?_|refine ⟨⟨by kernel_rfl,by kernel_rfl⟩,?_⟩|refine ⟨by decide,?_⟩|apply τt|apply τf))
                refine ⟨⟨by first | omega | (dsimp only; omega), by first | omega | (dsimp only; omega)⟩, ?_⟩
                (repeat((conv=>whnf);first|apply ω0|apply ω1|apply ω2|refine τ3 rfl ?_|refine τ4 rfl ?_|refine ⟨rfl,?_⟩|apply τa|refine τb rfl ?_|refine ⟨⟨by kernel_rfl,by kernel_rfl⟩,?_⟩|refine ⟨by decide,?_⟩|apply τt|apply τf))
                (refine ⟨⟨?_, ?_⟩, splitO_eq (b := .bp (0, nx) t) (congrArg (AV.bp (0, nx)) ?_) ?_⟩)
                · exact Int.natCast_nonneg _
                · show ((ts.getD j 0 : Nat) : Int) < _; rw [hT]; omega
                · rw [c4]; show 0 + ts.getD j 0 * 1 = t; omega
                (conv => whnf)
                refine ⟨⟨rfl, (by first | omega | (simp only [List.length_map, List.length_set, List.length_cons, List.length_nil, List.length_replicate, List.length_append]; omega))⟩, ?_⟩
                rw [show splice (A.map boolA) t [AV.v (.bool true)] = (A.set t true).map boolA from splice_one (f := boolA) (x := true) (by first | omega | (simp only [List.length_map, List.length_set, List.length_cons, List.length_nil, List.length_replicate, List.length_append]; omega))]
                (repeat((conv=>whnf);first|apply ω0|apply ω1|apply ω2|refine τ3 rfl ?_|refine τ4 rfl ?_|refine ⟨rfl,?_⟩|apply τa|refine τb rfl ?_|refine ⟨⟨by kernel_rfl,by kernel_rfl⟩,?_⟩|refine ⟨by decide,?_⟩|apply τt|apply τf))
                exact back (j + 1, _) (by first | omega | (dsimp only at *; omega) | (simp; done) | (simp; omega)) (by first | omega | (dsimp only at *; omega) | (simp; done) | (simp; omega)) (ele_tell _ _ rfl rfl (List.Sublist.refl _) .slnil ⟨rfl, OwnLe.of_eq (by dsimp only; rw [hA2]), trivial⟩ trivial ⟨AVle.refl _, AVle.refl _, AVle.refl _, AVle.refl _, AVle.refl _, le_int (wrap_succ (by first | omega | (dsimp only at *; omega) | (simp; done) | (simp; omega))), trivial⟩)
          · have e2 := fct_b1.1 e2
            (repeat((conv=>whnf);first|apply ω0|apply ω1|apply ω2|refine τ3 rfl ?_|refine τ4 rfl ?_|refine ⟨rfl,?_⟩|apply τa|refine τb rfl ?_|refine ⟨⟨by kernel_rfl,by kernel_rfl⟩,?_⟩|refine ⟨by decide,?_⟩|apply τt|apply τf))
            refine ⟨⟨by first | omega | (dsimp only; omega), by first | omega | (dsimp only; omega)⟩, ?_⟩
            (repeat((conv=>whnf);first|apply ω0|apply ω1|apply ω2|refine τ3 rfl ?_|refine τ4 rfl ?_|refine ⟨rfl,?_⟩|apply τa|refine τb rfl ?_|refine ⟨⟨by kernel_rfl,by kernel_rfl⟩,?_⟩|refine ⟨by decide,?_⟩|apply τt|apply τf))
            intro c e3; cases c
            · have e3 : ¬ (((l.getD i ins0).k : Int) = z) := by
                have e3 := fct_b0.1 e3
                rw [← wk]; exact e3
              have hs : st i = false := by rw [hst, decide_eq_false e3, Bool.and_false]
              have hgo := hgoes hb hs
              (repeat((conv=>whnf);first|apply ω0|apply ω1|apply ω2|refine τ3 rfl ?_|refine τ4 rfl ?_|refine ⟨rfl,?_⟩|apply τa|refine τb rfl ?_|refine ⟨⟨by kernel_rfl,by kernel_rfl⟩,?_⟩|refine ⟨by decide,?_⟩|apply τt|apply τf))
              refine aop_tells rfl rfl (nextR_spec l hok hf i hi) ⟨AVle.refl _, AVle.refl _, trivial⟩ fun nx5 => ?_
              have hts : (nextsI l i).length ≤ 2 := by unfold nextsI; (repeat' split) <;> simp
              generalize nextsI l i = ts at *
              have hmem : ∀ j, j < ts.length → ts.getD j 0 < l.length := fun j hj => (hnx _ (by simp [List.getD, hj])).2
              (repeat((conv=>whnf);first|apply ω0|apply ω1|apply ω2|refine τ3 rfl ?_|refine τ4 rfl ?_|refine ⟨rfl,?_⟩|apply τa|refine τb rfl ?_|refine ⟨⟨by kernel_rfl,by kernel_rfl⟩,?_⟩|refine ⟨by decide,?_⟩|apply τt|apply τf))
              refine aw_loop (fun s : Nat × Nat => mk 70 [(0, inss l), (1, int z), (5, .hs (0, nx) 0 l.length l.length), (6, int i), (9, ints ts), (10, int s.1)] ⟨[((0, nx), .c (((ts.take s.1).foldl setT o).map boolA))], [], s.2, 1⟩) (fun s => s.1 ≤ ts.length) (fun s => ts.length - s.1) ?_ ?_
              · exact ⟨(0, nx5), Nat.zero_le _, ele_tell _ _ rfl rfl (List.Sublist.refl _) .slnil ⟨rfl, OwnLe.refl _, trivial⟩ trivial ⟨AVle.refl _, AVle.refl _, AVle.refl _, AVle.refl _, AVle.refl _, AVle.refl _, trivial⟩⟩
              · rintro ⟨j, nx6⟩ k1
                dsimp only at k1
                (repeat((conv=>whnf);first|apply ω0|apply ω1|apply ω2|refine τ3 rfl ?_|refine τ4 rfl ?_|refine ⟨rfl,?_⟩|apply τa|refine τb rfl ?_|refine ⟨⟨by kernel_rfl,by kernel_rfl⟩,?_⟩|refine ⟨by decide,?_⟩|apply τt|apply τf))
                intro c g3; cases c
                · have g3 := not_of g3
                  dsimp only at g3
                  have hj : ts.take j = ts := List.take_of_length_le (by omega)
                  (repeat((conv=>whnf);first|apply ω0|apply ω1|apply ω2|refine τ3 rfl ?_|refine τ4 rfl ?_|refine ⟨rfl,?_⟩|apply τa|refine τb rfl ?_|refine ⟨⟨by kernel_rfl,by kernel_rfl⟩,?_⟩|refine ⟨by decide,?_⟩|apply τt|apply τf))
                  exact back (i + 1, _) (by first | omega | (dsimp only at *; omega) | (simp; done) | (simp; omega)) (by first | omega | (dsimp only at *; omega) | (simp; done) | (simp; omega)) (ele_tell _ _ rfl rfl (List.Sublist.refl _) .slnil ⟨rfl, OwnLe.of_eq (by dsimp only; rw [hj, hgo]), trivial⟩ trivial ⟨AVle.refl _, AVle.refl _, AVle.refl _, le_int (wrap_succ (by first | omega | (dsimp only at *; omega) | (simp; done) | (simp; omega))), trivial⟩)
                · have g3 := yes_of g3
                  dsimp only at g3
                  have hj : j < ts.length := by omega
                  have ht := hmem j hj
                  have hAl : ((ts.take j).foldl setT o).length = l.length := by rw [foldT_length]; exact hlen
                  have hA2 : (ts.take (j + 1)).foldl setT o = ((ts.take j).foldl setT o).set (ts.getD j 0) true := by rw [take_getD 0 hj, List.foldl_append]; rfl
                  generalize (ts.take j).foldl setT o = A at *
                  generalize hT : ts.getD j 0 = t at ht hA2
                  (repeat((conv=>whnf);first|apply ω0|apply ω1|apply ω2|refine τ3 rfl ?_|refine τ4 rfl ?_|refine ⟨rfl,?_⟩|apply τa|refine τb rfl ?_|refine ⟨⟨by kernel_rfl,by kernel_rfl⟩,?_⟩|refine ⟨by decide,?_⟩|apply τt|apply τf))
                  refine ⟨⟨by first | omega | (dsimp only; omega), by first | omega | (dsimp only; omega)⟩, ?_⟩
                  (repeat((conv=>whnf);first|apply ω0|apply ω1|apply ω2|refine τ3 rfl ?_|refine τ4 rfl ?_|refine ⟨rfl,?_⟩|apply τa|refine τb rfl ?_|refine ⟨⟨by kernel_rfl,by kernel_rfl⟩,?_⟩|refine ⟨by decide,?_⟩|apply τt|apply τf))
                  (refine ⟨⟨?_, ?_⟩, splitO_eq (b := .bp (0, nx) t) (congrArg (AV.bp (0, nx)) ?_) ?_⟩)
                  · exact Int.natCast_nonneg _
                  · show ((ts.getD j 0 : Nat) : Int) < _; rw [hT]; omega
                  · rw [c4]; show 0 + ts.getD j 0 * 1 = t; omega
                  (conv => whnf)
                  refine ⟨⟨rfl, (by first | omega | (simp only [List.length_map, List.length_set, List.length_cons, List.length_nil, List.length_replicate, List.length_append]; omega))⟩, ?_⟩
                  rw [show splice (A.map boolA) t [AV.v (.bool true)] = (A.set t true).map boolA from splice_one (f := boolA) (x := true) (by first | omega | (simp only [List.length_map, List.length_set, List.length_cons, List.length_nil, List.length_replicate, List.length_append]; omega))]
                  (repeat((conv=>whnf);first|apply ω0|apply ω1|apply ω2|refine τ3 rfl ?_|refine τ4 rfl ?_|refine ⟨rfl,?_⟩|apply τa|refine τb rfl ?_|refine ⟨⟨by kernel_rfl,by kernel_rfl⟩,?_⟩|refine ⟨by decide,?_⟩|apply τt|apply τf))
                  exact back (j + 1, _) (by first | omega | (dsimp only at *; omega) | (simp; done) | (simp; omega)) (by first | omega | (dsimp only at *; omega) | (simp; done) | (simp; omega)) (ele_tell _ _ rfl rfl (List.Sublist.refl _) .slnil ⟨rfl, OwnLe.of_eq (by dsimp only; rw [hA2]), trivial⟩ trivial ⟨AVle.refl _, AVle.refl _, AVle.refl _, AVle.refl _, AVle.refl _, le_int (wrap_succ (by first | omega | (dsimp only at *; omega) | (simp; done) | (simp; omega))), trivial⟩)
            · have e3 : (((l.getD i ins0).k : Int) = z) := by
                have e3 := fct_b1.1 e3
                rw [← wk]; exact e3
              have hs : st i = true := by rw [hst, decide_eq_true e3, decide_eq_true (show isStore K by unfold isStore; omega)]; rfl
              (repeat((conv=>whnf);first|apply ω0|apply ω1|apply ω2|refine τ3 rfl ?_|refine τ4 rfl ?_|refine ⟨rfl,?_⟩|apply τa|refine τb rfl ?_|refine ⟨⟨by kernel_rfl,by kernel_rfl⟩,?_⟩|refine ⟨by decide,?_⟩|apply τt|apply τf))
              exact back (i + 1, _) (by first | omega | (dsimp only at *; omega) | (simp; done) | (simp; omega)) (by first | omega | (dsimp only at *; omega) | (simp; done) | (simp; omega)) (ele_tell _ _ rfl rfl (List.Sublist.refl _) .slnil ⟨rfl, OwnLe.of_eq (by dsimp only; rw [hsame (.inr hs)]), trivial⟩ trivial ⟨AVle.refl _, AVle.refl _, AVle.refl _, le_int (wrap_succ (by first | omega | (dsimp only at *; omega) | (simp; done) | (simp; omega))), trivial⟩)
        · have e1 := fct_b1.1 e1
          (repeat((conv=>whnf);first|apply ω0|apply ω1|apply ω2|refine τ3 rfl ?_|refine τ4 rfl ?_|refine ⟨rfl,?_⟩|apply τa|refine τb rfl ?_|refine ⟨⟨by kernel_rfl,by kernel_rfl⟩,?_⟩|refine ⟨by decide,?_⟩|apply τt|apply τf))
          refine ⟨⟨by first | omega | (dsimp only; omega), by first | omega | (dsimp only; omega)⟩, ?_⟩
          (repeat((conv=>whnf);first|apply ω0|apply ω1|apply ω2|refine τ3 rfl ?_|refine τ4 rfl ?_|refine ⟨rfl,?_⟩|apply τa|refine τb rfl ?_|refine ⟨⟨by kernel_rfl,by kernel_rfl⟩,?_⟩|refine ⟨by decide,?_⟩|apply τt|apply τf))
          intro c e3; cases c
          · have e3 : ¬ (((l.getD i ins0).k : Int) = z) := by
              have e3 := fct_b0.1 e3
              rw [← wk]; exact e3
            have hs : st i = false := by rw [hst, decide_eq_false e3, Bool.and_false]
            have hgo := hgoes hb hs
            (repeat((conv=>whnf);first|apply ω0|apply ω1|apply ω2|refine τ3 rfl ?_|refine τ4 rfl ?_|refine ⟨rfl,?_⟩|apply τa|refine τb rfl ?_|refine ⟨⟨by kernel_rfl,by kernel_rfl⟩,?_⟩|refine ⟨by decide,?_⟩|apply τt|apply τf))
            refine aop_tells rfl rfl (nextR_spec l hok hf i hi) ⟨AVle.refl _, AVle.refl _, trivial⟩ fun nx5 => ?_
            have hts : (nextsI l i).length ≤ 2 := by unfold nextsI; (repeat' split) <;> simp
            generalize nextsI l i = ts at *
            have hmem : ∀ j, j < ts.length → ts.getD j 0 < l.length := fun j hj => (hnx _ (by simp [List.getD, hj])).2
            (repeat((conv=>whnf);first|apply ω0|apply ω1|apply ω2|refine τ3 rfl ?_|refine τ4 rfl ?_|refine ⟨rfl,?_⟩|apply τa|refine τb rfl ?_|refine ⟨⟨by kernel_rfl,by kernel_rfl⟩,?_⟩|refine ⟨by decide,?_⟩|apply τt|apply τf))
            refine aw_loop (fun s : Nat × Nat => mk 70 [(0, inss l), (1, int z), (5, .hs (0, nx) 0 l.length l.length), (6, int i), (9, ints ts), (10, int s.1)] ⟨[((0, nx), .c (((ts.take s.1).foldl setT o).map boolA))], [], s.2, 1⟩) (fun s => s.1 ≤ ts.length) (fun s => ts.length - s.1) ?_ ?_
            · exact ⟨(0, nx5), Nat.zero_le _, ele_tell _ _ rfl rfl (List.Sublist.refl _) .slnil ⟨rfl, OwnLe.refl _, trivial⟩ trivial ⟨AVle.refl _, AVle.refl _, AVle.refl _, AVle.refl _, AVle.refl _, AVle.refl _, trivial⟩⟩
            · rintro ⟨j, nx6⟩ k1
              dsimp only at k1
              (repeat((conv=>whnf);first|apply ω0|apply ω1|apply ω2|refine τ3 rfl ?_|refine τ4 rfl ?_|refine ⟨rfl,?_⟩|apply τa|refine τb rfl ?_|refine ⟨⟨by kernel_rfl,by kernel_rfl⟩,?_⟩|refine ⟨by decide,?_⟩|apply τt|apply τf))
              intro c g3; cases c
              · have g3 := not_of g3
                dsimp only at g3
                have hj : ts.take j = ts := List.take_of_length_le (by omega)
                (repeat((conv=>whnf);first|apply ω0|apply ω1|apply ω2|refine τ3 rfl ?_|refine τ4 rfl ?_|refine ⟨rfl,?_⟩|apply τa|refine τb rfl ?_|refine ⟨⟨by kernel_rfl,by kernel_rfl⟩,?_⟩|refine ⟨by decide,?_⟩|apply τt|apply τf))
                exact back (i + 1, _) (by first | omega | (dsimp only at *; omega) | (simp; done) | (simp; omega)) (by first | omega | (dsimp only at *; omega) | (simp; done) | (simp; omega)) (ele_tell _ _ rfl rfl (List.Sublist.refl _) .slnil ⟨rfl, OwnLe.of_eq (by dsimp only; rw [hj, hgo]), trivial⟩ trivial ⟨AVle.refl _, AVle.refl _, AVle.refl _, le_int (wrap_succ (by first | omega | (dsimp only at *; omega) | (simp; done) | (simp; omega))), trivial⟩)
              · have g3 := yes_of g3
                dsimp only at g3
                have hj : j < ts.length := by omega
                have ht := hmem j hj
                have hAl : ((ts.take j).foldl setT o).length = l.length := by rw [foldT_length]; exact hlen
                have hA2 : (ts.take (j + 1)).foldl setT o = ((ts.take j).foldl setT o).set (ts.getD j 0) true := by rw [take_getD 0 hj, List.foldl_append]; rfl
                generalize (ts.take j).foldl setT o = A at *
                generalize hT : ts.getD j 0 = t at ht hA2
                (repeat((conv=>whnf);first|apply ω0|apply ω1|apply ω2|refine τ3 rfl ?_|refine τ4 rfl ?_|refine ⟨rfl,?_⟩|apply τa|refine τb rfl ?_|refine ⟨⟨by kernel_rfl,by kernel_rfl⟩,?_⟩|refine ⟨by decide,?_⟩|apply τt|apply τf))
                refine ⟨⟨by first | omega | (dsimp only; omega), by first | omega | (dsimp only; omega)⟩, ?_⟩
                (repeat((conv=>whnf);first|apply ω0|apply ω1|apply ω2|refine τ3 rfl ?_|refine τ4 rfl ?_|refine ⟨rfl,?_⟩|apply τa|refine τb rfl ?_|refine ⟨⟨by kernel_rfl,by kernel_rfl⟩,?_⟩|refine ⟨by decide,?_⟩|apply τt|apply τf))
                (refine ⟨⟨?_, ?_⟩, splitO_eq (b := .bp (0, nx) t) (congrArg (AV.bp (0, nx)) ?_) ?_⟩)
                · exact Int.natCast_nonneg _
                · show ((ts.getD j 0 : Nat) : Int) < _; rw [hT]; omega
                · rw [c4]; show 0 + ts.getD j 0 * 1 = t; omega
                (conv => whnf)
                refine ⟨⟨rfl, (by first | omega | (simp only [List.length_map, List.length_set, List.length_cons, List.length_nil, List.length_replicate, List.length_append]; omega))⟩, ?_⟩
                rw [show splice (A.map boolA) t [AV.v (.bool true)] = (A.set t true).map boolA from splice_one (f := boolA) (x := true) (by first | omega | (simp only [List.length_map, List.length_set, List.length_cons, List.length_nil, List.length_replicate, List.length_append]; omega))]
                (repeat((conv=>whnf);first|apply ω0|apply ω1|apply ω2|refine τ3 rfl ?_|refine τ4 rfl ?_|refine ⟨rfl,?_⟩|apply τa|refine τb rfl ?_|refine ⟨⟨by kernel_rfl,by kernel_rfl⟩,?_⟩|refine ⟨by decide,?_⟩|apply τt|apply τf))
                exact back (j + 1, _) (by first | omega | (dsimp only at *; omega) | (simp; done) | (simp; omega)) (by first | omega | (dsimp only at *; omega) | (simp; done) | (simp; omega)) (ele_tell _ _ rfl rfl (List.Sublist.refl _) .slnil ⟨rfl, OwnLe.of_eq (by dsimp only; rw [hA2]), trivial⟩ trivial ⟨AVle.refl _, AVle.refl _, AVle.refl _, AVle.refl _, AVle.refl _, le_int (wrap_succ (by first | omega | (dsimp only at *; omega) | (simp; done) | (simp; omega))), trivial⟩)
          · have e3 : (((l.getD i ins0).k : Int) = z) := by
              have e3 := fct_b1.1 e3
              rw [← wk]; exact e3
            have hs : st i = true := by rw [hst, decide_eq_true e3, decide_eq_true (show isStore K by unfold isStore; omega)]; rfl
            (repeat((conv=>whnf);first|apply ω0|apply ω1|apply ω2|refine τ3 rfl ?_|refine τ4 rfl ?_|refine ⟨rfl,?_⟩|apply τa|refine τb rfl ?_|refine ⟨⟨by kernel_rfl,by kernel_rfl⟩,?_⟩|refine ⟨by decide,?_⟩|apply τt|apply τf))
            exact back (i + 1, _) (by first | omega | (dsimp only at *; omega) | (simp; done) | (simp; omega)) (by first | omega | (dsimp only at *; omega) | (simp; done) | (simp; omega)) (ele_tell _ _ rfl rfl (List.Sublist.refl _) .slnil ⟨rfl, OwnLe.of_eq (by dsimp only; rw [hsame (.inr hs)]), trivial⟩ trivial ⟨AVle.refl _, AVle.refl _, AVle.refl _, le_int (wrap_succ (by first | omega | (dsimp only at *; omega) | (simp; done) | (simp; omega))), trivial⟩)
end Go.Proofs.W

namespace Go.Proofs.W
open Go.Vl
set_option maxRecDepth 100000

/-- The bits of the first k cells that are stored on every way to n. -/
def bitR (l : List Ins) : Nat → Nat → Nat
  | 0, _ => 0
  | k + 1, n => if (reachC l (stopC l k)).getD n false then bitR l k n else bitR l k n ||| 2 ^ k
theorem bitR_test (l : List Ins) (n c : Nat) : ∀ k, (bitR l k n).testBit c = (decide (c < k) && !(reachC l (stopC l c)).getD n false)
  | 0 => by simp [bitR]
  | k + 1 => by
    unfold bitR
    by_cases hc : c = k
    · subst hc
      split
      · rename_i h
        rw [bitR_test l n c c, h]; simp
      · rename_i h
        rw [Bool.not_eq_true] at h
        rw [Nat.testBit_or, Nat.testBit_two_pow_self, bitR_test l n c c, h]
        simp
    · have hd : decide (c < k + 1) = decide (c < k) := decide_eq_decide.2 (by omega)
      rw [hd]
      split
      · exact bitR_test l n c k
      · rw [Nat.testBit_or, Nat.testBit_two_pow_of_ne (Ne.symm hc), Bool.or_false]
        exact bitR_test l n c k
theorem bitR_lt (l : List Ins) (n : Nat) : ∀ k, bitR l k n < 2 ^ k
  | 0 => by simp [bitR]
  | k + 1 => by
    have h := bitR_lt l n k
    have h2 : (2 : Nat) ^ k < 2 ^ (k + 1) := Nat.pow_lt_pow_right (by decide) (by omega)
    unfold bitR
    split
    · omega
    · exact Nat.or_lt_two_pow (by omega) h2
theorem bitR_eq {l : List Ins} (hf : Formed l) {n : Nat} (hn : n < l.length) : bitR l 16 n = (storedI l).getD n 0 := by
  refine Nat.eq_of_testBit_eq fun c => ?_
  rw [bitR_test]
  rcases Nat.lt_or_ge c 16 with hc | hc
  · rw [decide_eq_true hc, Bool.true_and]
    have h1 := stored_bit hf hc hn
    have h2 := reachC_iff hf (stopC l c) n
    cases hb : (reachC l (stopC l c)).getD n false
    · exact (h1.2 fun h => by rw [h2.2 h] at hb; cases hb).symm
    · cases ht : ((storedI l).getD n 0).testBit c
      · rfl
      · exact absurd (h2.1 hb) (h1.1 ht)
  · rw [decide_eq_false (by omega), Bool.false_and]
    have h1 := storedI_small hf n
    exact (Nat.testBit_lt_two_pow (Nat.lt_of_lt_of_le h1 (Nat.pow_le_pow_right (by decide) hc : 2 ^ 16 ≤ 2 ^ c))).symm
def mixR (l : List Ins) (k j : Nat) : List Nat := (List.range l.length).map fun n => if n < j then bitR l (k + 1) n else bitR l k n
theorem mixR_length (l : List Ins) (k j : Nat) : (mixR l k j).length = l.length := by simp [mixR]
theorem mixR_get {l : List Ins} {k j n : Nat} (hn : n < l.length) : (mixR l k j).getD n 0 = if n < j then bitR l (k + 1) n else bitR l k n := by
  simp [mixR, List.getD, hn]
theorem mixR_full (l : List Ins) (k : Nat) : mixR l k l.length = mixR l (k + 1) 0 := by
  refine List.map_congr_left fun n hn => ?_
  rw [if_pos (List.mem_range.1 hn), if_neg (by omega)]
theorem ext_getD {α : Type} {a b : List α} (d : α) (h : a.length = b.length) (hh : ∀ n, n < a.length → a.getD n d = b.getD n d) : a = b := by
  refine List.ext_getElem h fun n h1 h2 => ?_
  have := hh n h1
  simpa [List.getD, h1, h2] using this
theorem mixR_set {l : List Ins} {k j : Nat} (hj : j < l.length) : mixR l k (j + 1) = (mixR l k j).set j (bitR l (k + 1) j) := by
  refine ext_getD 0 (by rw [List.length_set, mixR_length, mixR_length]) fun n hn => ?_
  rw [mixR_length] at hn
  rw [getDL_set, mixR_get hn, mixR_get hn, mixR_length]
  by_cases h : j = n
  · subst h; rw [if_pos (show j < j + 1 by omega), if_pos ⟨rfl, hn⟩]
  · by_cases h3 : n < j
    · rw [if_pos (show n < j + 1 by omega), if_neg (fun h2 : j = n ∧ j < l.length => h h2.1), if_pos h3]
    · rw [if_neg (show ¬ n < j + 1 by omega), if_neg (fun h2 : j = n ∧ j < l.length => h h2.1), if_neg h3]
theorem mixR_same {l : List Ins} {k j : Nat} (hj : j < l.length) (h : (reachC l (stopC l k)).getD j false = true) : mixR l k (j + 1) = mixR l k j := by
  refine ext_getD 0 (by rw [mixR_length, mixR_length]) fun n hn => ?_
  rw [mixR_length] at hn
  rw [mixR_get hn, mixR_get hn]
  by_cases h2 : n = j
  · subst h2
    rw [if_pos (by omega), if_neg (by omega), bitR, if_pos h]
  · by_cases h3 : n < j
    · rw [if_pos h3, if_pos (by omega)]
    · rw [if_neg h3, if_neg (by omega)]
theorem mixR_done {l : List Ins} (hf : Formed l) : mixR l 16 0 = storedI l := by
  refine ext_getD 0 (by rw [mixR_length, storedI_length hf]) fun n h1 => ?_
  rw [mixR_length] at h1
  rw [mixR_get h1, if_neg (by omega), bitR_eq hf h1]
theorem mixR_zero (l : List Ins) : mixR l 0 0 = List.replicate l.length 0 := by
  refine ext_getD 0 (by simp [mixR_length]) fun n h1 => ?_
  rw [mixR_length] at h1
  rw [mixR_get h1, if_neg (by omega)]
  simp [bitR, List.getD, h1]
theorem frz_u16 {bs : List (Nat × Own)} {s0 : Nat} {o : List Nat} {n : Nat} (hn : o.length = n) (hm : (s0, .c (o.map uA)) ∈ bs) : Frz bs (.hs (0, s0) 0 n n) (u16s o) := by
  subst hn
  refine Frz.hs1 (cs := o.map uA) hm (Nat.le_refl _) (by rw [List.length_map]; exact Nat.le_refl _) (fun _ _ => rfl) fun k hk => ?_
  rw [List.getElem?_map, List.getElem?_eq_getElem hk]
  simp [List.getD, hk]
  rfl
theorem shl16 {k : Nat} (hk : k < 16) : IntKind.u16.wrap (1 * 2 ^ min (Int.toNat (k : Int)) IntKind.u16.bits) = ((2 ^ k : Nat) : Int) := by
  revert k; decide
theorem nu16_or {a b : Nat} (ha : a < 65536) (hb : b < 65536) : bitsI .or .u16 a b = ((a ||| b : Nat) : Int) := by
  have hx : a ||| b < 2 ^ 16 := Nat.or_lt_two_pow (n := 16) ha hb
  refine bits_or (k := .u16) ha hb ?_
  show ((a ||| b : Nat) : Int) % 65536 = _
  omega
set_option maxHeartbeats 1000000 in
theorem storedR_spec (l : List Ins) (hok : okL l) (hf : Formed l) : Tells Try.prog 30 [inss l] (u16s (storedI l)) := by
  have hle := hf.le
  have hpos := hf.pos
  refine tells_of_aw Try.func30 rfl rfl fun nx => ?_
  (repeat((conv=>whnf);first|apply ω0|apply ω1|apply ω2|refine τ3 rfl ?_|refine τ4 rfl ?_|refine ⟨rfl,?_⟩|apply τa|refine τb rfl ?_|refine ⟨⟨by kernel_rfl,by kernel_rfl⟩,?_⟩|refine ⟨by decide,?_⟩|apply τt|apply τf))
  (conv => whnf)
  refine ⟨by omega, by omega, by rw [b49]; omega, by omega, ?_⟩
  (repeat((conv=>whnf);first|apply ω0|apply ω2|refine τ3 rfl ?_|refine τ4 rfl ?_|refine ⟨rfl,?_⟩|apply τa|refine τb rfl ?_|refine ⟨⟨by kernel_rfl,by kernel_rfl⟩,?_⟩|refine ⟨by decide,?_⟩|apply τt|apply τf))
  refine AW.le (E' := mk 37 [(0, inss l), (3, .hs (0, nx) 0 l.length l.length)] ⟨[((0, nx), .c ((mixR l 0 0).map uA))], [], nx + 1, 1⟩) (by
    refine ele_tell _ _ rfl rfl (List.Sublist.refl _) .slnil ⟨rfl, OwnLe.of_eq ?_, trivial⟩ trivial ⟨AVle.refl _, AVle.refl _, trivial⟩
    rw [mixR_zero, List.map_replicate]; rfl) ?_
  (repeat((conv=>whnf);first|apply ω0|apply ω1|apply ω2|refine τ3 rfl ?_|refine τ4 rfl ?_|refine ⟨rfl,?_⟩|apply τa|refine τb rfl ?_|refine ⟨⟨by kernel_rfl,by kernel_rfl⟩,?_⟩|refine ⟨by decide,?_⟩|apply τt|apply τf))
  refine aw_loop (fun s : Nat × Nat => mk 37 [(0, inss l), (3, .hs (0, nx) 0 l.length l.length), (4, int s.1)] ⟨[((0, nx), .c ((mixR l s.1 0).map uA))], [], s.2, 1⟩) (fun s => s.1 ≤ 16) (fun s => 16 - s.1) ?_ ?_
  · exact ⟨(0, nx + 1), Nat.zero_le _, ele_tell _ _ rfl rfl (List.Sublist.refl _) .slnil ⟨rfl, OwnLe.refl _, trivial⟩ trivial ⟨AVle.refl _, AVle.refl _, AVle.refl _, trivial⟩⟩
  · rintro ⟨k, nx'⟩ h1
    dsimp only at h1
    (repeat((conv=>whnf);first|apply ω0|apply ω1|apply ω2|refine τ3 rfl ?_|refine τ4 rfl ?_|refine ⟨rfl,?_⟩|apply τa|refine τb rfl ?_|refine ⟨⟨by kernel_rfl,by kernel_rfl⟩,?_⟩|refine ⟨by decide,?_⟩|apply τt|apply τf))
    intro c g2; cases c
    · have g2 := not_of g2
      dsimp only at g2
      obtain rfl : k = 16 := by omega
      (repeat ((conv=>whnf);first|refine ω0 ?_|refine ω1 ?_|refine ω2 ?_|refine ω3 ?_|refine ω4 rfl ?_|refine ω5 rfl ?_|refine ω6 ?_|refine ω7 ?_|refine ⟨rfl,?_⟩|refine ⟨trivial,?_⟩|refine ⟨⟨rfl,Nat.le_of_ble_eq_true rfl⟩,?_⟩|refine ⟨⟨by kernel_rfl,by kernel_rfl⟩,?_⟩|refine ⟨by decide,?_⟩|refine lit_true ?_|refine lit_false ?_))
      refine AW.le (ele_freeze (L := [(2, u16s (storedI l))]) (bx := []) (pm := []) (nn := 0) [((0, nx), .c ((mixR l 16 0).map uA))] rfl rfl (List.Sublist.refl _) .slnil ⟨?_, trivial⟩) ?_
      · have := frz_u16 (bs := [(nx, .c ((mixR l 16 0).map uA))]) (mixR_length l 16 0) (List.mem_cons_self ..)
        rw [mixR_done hf] at this ⊢
        exact this
      (repeat((conv=>whnf);first|apply ω0|apply ω1|apply ω2|refine τ3 rfl ?_|refine τ4 rfl ?_|refine ⟨rfl,?_⟩|apply τa|refine τb rfl ?_|refine ⟨⟨by kernel_rfl,by kernel_rfl⟩,?_⟩|refine ⟨by decide,?_⟩|apply τt|apply τf))
      exact ret_tells rfl (AVle.refl _)
    · have g2 := yes_of g2
      dsimp only at g2
      have hk : k < 16 := by omega
      have hre := reachedR_spec l hok hf (k : Int)
      rw [stopZ_nat] at hre
      have hwl := reachC_length l (stopC l k)
      (repeat((conv=>whnf);first|apply ω0|apply ω1|apply ω2|refine τ3 rfl ?_|refine τ4 rfl ?_|refine ⟨rfl,?_⟩|apply τa|refine τb rfl ?_|refine ⟨⟨by kernel_rfl,by kernel_rfl⟩,?_⟩|refine ⟨by decide,?_⟩|apply τt|apply τf))
      refine aop_tells rfl rfl hre ⟨AVle.refl _, AVle.refl _, trivial⟩ fun nx3 => ?_
      (repeat((conv=>whnf);first|apply ω0|apply ω1|apply ω2|refine τ3 rfl ?_|refine τ4 rfl ?_|refine ⟨rfl,?_⟩|apply τa|refine τb rfl ?_|refine ⟨⟨by kernel_rfl,by kernel_rfl⟩,?_⟩|refine ⟨by decide,?_⟩|apply τt|apply τf))
      refine aw_loop (fun s : Nat × Nat => mk 37 [(0, inss l), (3, .hs (0, nx) 0 l.length l.length), (4, int k), (5, bools (reachC l (stopC l k))), (6, int s.1)] ⟨[((0, nx), .c ((mixR l k s.1).map uA))], [], s.2, 1⟩) (fun s => s.1 ≤ l.length) (fun s => l.length - s.1) ?_ ?_
      · exact ⟨(0, nx3), Nat.zero_le _, ele_tell _ _ rfl rfl (List.Sublist.refl _) .slnil ⟨rfl, OwnLe.refl _, trivial⟩ trivial ⟨AVle.refl _, AVle.refl _, AVle.refl _, AVle.refl _, AVle.refl _, trivial⟩⟩
      · rintro ⟨j, nx6⟩ k1
        dsimp only at k1
        (repeat((conv=>whnf);first|apply ω0|apply ω1|apply ω2|refine τ3 rfl ?_|refine τ4 rfl ?_|refine ⟨rfl,?_⟩|apply τa|refine τb rfl ?_|refine ⟨⟨by kernel_rfl,by kernel_rfl⟩,?_⟩|refine ⟨by decide,?_⟩|apply τt|apply τf))
        intro c g3; cases c
        · have g3 := not_of g3
          dsimp only at g3
          obtain rfl : j = l.length := by omega
          (repeat((conv=>whnf);first|apply ω0|apply ω1|apply ω2|refine τ3 rfl ?_|refine τ4 rfl ?_|refine ⟨rfl,?_⟩|apply τa|refine τb rfl ?_|refine ⟨⟨by kernel_rfl,by kernel_rfl⟩,?_⟩|refine ⟨by decide,?_⟩|apply τt|apply τf))
          exact back (k + 1, _) (by first | omega | (dsimp only at *; omega) | (simp; done) | (simp; omega)) (by first | omega | (dsimp only at *; omega) | (simp; done) | (simp; omega)) (ele_tell _ _ rfl rfl (List.Sublist.refl _) .slnil ⟨rfl, OwnLe.of_eq (by dsimp only; rw [mixR_full]), trivial⟩ trivial ⟨AVle.refl _, AVle.refl _, le_int (wrap_succ (by first | omega | (dsimp only at *; omega) | (simp; done) | (simp; omega))), trivial⟩)
        · have g3 := yes_of g3
          dsimp only at g3
          have hj : j < l.length := by omega
          have hsame := mixR_same (k := k) hj
          have hset := mixR_set (k := k) hj
          have hget : (mixR l k j).getD j 0 = bitR l k j := by rw [mixR_get hj, if_neg (by omega)]
          have hlt : bitR l k j < 65536 := Nat.lt_of_lt_of_le (bitR_lt l j k) (by have := Nat.pow_le_pow_right (n := 2) (by decide) (show k ≤ 16 by omega); omega)
          have hml := mixR_length l k j
          have hgo : (reachC l (stopC l k)).getD j false = false → bitR l (k + 1) j = bitR l k j ||| 2 ^ k := fun h => by rw [bitR, h]; rfl
          have h2k : 2 ^ k < 65536 := by have := Nat.pow_lt_pow_right (a := 2) (by decide) hk; omega
          generalize reachC l (stopC l k) = w at *
          (repeat((conv=>whnf);first|apply ω0|apply ω1|apply ω2|refine τ3 rfl ?_|refine τ4 rfl ?_|refine ⟨rfl,?_⟩|apply τa|refine τb rfl ?_|refine ⟨⟨by kernel_rfl,by kernel_rfl⟩,?_⟩|refine ⟨by decide,?_⟩|apply τt|apply τf))
          refine ⟨⟨by first | omega | (dsimp only; omega), by first | omega | (dsimp only; omega)⟩, ?_⟩
          (repeat((conv=>whnf);first|apply ω0|apply ω1|apply ω2|refine τ3 rfl ?_|refine τ4 rfl ?_|refine ⟨rfl,?_⟩|apply τa|refine τb rfl ?_|refine ⟨⟨by kernel_rfl,by kernel_rfl⟩,?_⟩|refine ⟨by decide,?_⟩|apply τt|apply τf))
          intro b hb
          cases b
          · have hgo := hgo hb.symm
            (repeat((conv=>whnf);first|apply ω0|apply ω1|apply ω2|refine τ3 rfl ?_|refine τ4 rfl ?_|refine ⟨rfl,?_⟩|apply τa|refine τb rfl ?_|refine ⟨⟨by kernel_rfl,by kernel_rfl⟩,?_⟩|refine ⟨by decide,?_⟩|apply τt|apply τf))
            (refine aw_draw 7 ?_ ?_ ?_ ?_; (· kernel_rfl); (· kernel_rfl); (· kernel_rfl))
            (repeat((conv=>whnf);first|apply ω0|apply ω1|apply ω2|refine τ3 rfl ?_|refine τ4 rfl ?_|refine ⟨rfl,?_⟩|apply τa|refine τb rfl ?_|refine ⟨⟨by kernel_rfl,by kernel_rfl⟩,?_⟩|refine ⟨by decide,?_⟩|apply τt|apply τf))
            (refine ⟨⟨by first | omega | (dsimp only; omega), by first | omega | (dsimp only; omega)⟩, splitO_eq (b := .bp (0, nx) (j)) (congrArg (AV.bp (0, nx)) (ix1 c49)) ?_⟩; (conv => whnf); refine ⟨⟨rfl, (by first | omega | (simp only [List.length_map, List.length_set, List.length_cons, List.length_nil, List.length_replicate, List.length_append]; omega))⟩, splitO_eq (b := uA ((mixR l k j).getD (j) 0)) (getD_map (by first | omega | (simp only [List.length_map, List.length_set, List.length_cons, List.length_nil, List.length_replicate, List.length_append]; omega))) ?_⟩)
            (repeat((conv=>whnf);first|apply ω0|apply ω1|apply ω2|refine τ3 rfl ?_|refine τ4 rfl ?_|refine ⟨rfl,?_⟩|apply τa|refine τb rfl ?_|refine ⟨⟨by kernel_rfl,by kernel_rfl⟩,?_⟩|refine ⟨by decide,?_⟩|apply τt|apply τf))
            refine ⟨by omega, splitO_eq (congrArg (fun x => AV.v (.int .u16 x)) (shl16 hk)) ?_⟩
            (conv => whnf)
            refine ⟨⟨by first | omega | (dsimp only; omega), by first | omega | (dsimp only; omega)⟩, splitO_eq (b := .bp (0, nx) j) (congrArg (AV.bp (0, nx)) (ix1 c49)) ?_⟩
            (conv => whnf)
            refine ⟨⟨rfl, (by first | omega | (simp only [List.length_map, List.length_set, List.length_cons, List.length_nil, List.length_replicate, List.length_append]; omega))⟩, ?_⟩
            rw [show (AV.v (.int .u16 (bitsI .or .u16 ((mixR l k j).getD j 0 : Nat) ((2 ^ k : Nat) : Int)))) = uA (bitR l (k + 1) j) by rw [hget, nu16_or hlt h2k, ← hgo]; rfl]
            rw [show splice ((mixR l k j).map uA) j [uA (bitR l (k + 1) j)] = ((mixR l k j).set j (bitR l (k + 1) j)).map uA from splice_one (f := uA) (x := bitR l (k + 1) j) (by first | omega | (simp only [List.length_map, List.length_set, List.length_cons, List.length_nil, List.length_replicate, List.length_append]; omega)), ← hset]
            (repeat((conv=>whnf);first|apply ω0|apply ω1|apply ω2|refine τ3 rfl ?_|refine τ4 rfl ?_|refine ⟨rfl,?_⟩|apply τa|refine τb rfl ?_|refine ⟨⟨by kernel_rfl,by kernel_rfl⟩,?_⟩|refine ⟨by decide,?_⟩|apply τt|apply τf))
            exact back (j + 1, _) (by first | omega | (dsimp only at *; omega) | (simp; done) | (simp; omega)) (by first | omega | (dsimp only at *; omega) | (simp; done) | (simp; omega)) (ele_tell _ _ rfl rfl (List.Sublist.refl _) .slnil ⟨rfl, OwnLe.of_eq rfl, trivial⟩ trivial ⟨AVle.refl _, AVle.refl _, AVle.refl _, AVle.refl _, le_int (wrap_succ (by first | omega | (dsimp only at *; omega) | (simp; done) | (simp; omega))), trivial⟩)
          · (repeat((conv=>whnf);first|apply ω0|apply ω1|apply ω2|refine τ3 rfl ?_|refine τ4 rfl ?_|refine ⟨rfl,?_⟩|apply τa|refine τb rfl ?_|refine ⟨⟨by kernel_rfl,by kernel_rfl⟩,?_⟩|refine ⟨by decide,?_⟩|apply τt|apply τf))
            exact back (j + 1, _) (by first | omega | (dsimp only at *; omega) | (simp; done) | (simp; omega)) (by first | omega | (dsimp only at *; omega) | (simp; done) | (simp; omega)) (ele_tell _ _ rfl rfl (List.Sublist.refl _) .slnil ⟨rfl, OwnLe.of_eq (by dsimp only; rw [hsame hb.symm]), trivial⟩ trivial ⟨AVle.refl _, AVle.refl _, AVle.refl _, AVle.refl _, le_int (wrap_succ (by first | omega | (dsimp only at *; omega) | (simp; done) | (simp; omega))), trivial⟩)
end Go.Proofs.W

namespace Go.Proofs.W
open Go.Vl
set_option maxRecDepth 100000

theorem and_bit {s k : Nat} : s &&& 2 ^ k = 0 ↔ s / 2 ^ k % 2 = 0 := by
  have h2 := Nat.testBit_eq_decide_div_mod_eq (x := s) (i := k)
  cases h : s.testBit k
  · rw [h] at h2
    have h3 : ¬ (s / 2 ^ k % 2 = 1) := of_decide_eq_false h2.symm
    refine ⟨fun _ => by omega, fun _ => ?_⟩
    refine Nat.eq_of_testBit_eq fun j => ?_
    rw [Nat.testBit_and, Nat.testBit_two_pow, Nat.zero_testBit]
    by_cases hj : k = j
    · subst hj; rw [h]; simp
    · simp [hj]
  · rw [h] at h2
    have h3 : s / 2 ^ k % 2 = 1 := of_decide_eq_true h2.symm
    refine ⟨fun he => ?_, fun h4 => by omega⟩
    have h5 : (s &&& 2 ^ k).testBit k = true := by rw [Nat.testBit_and, Nat.testBit_two_pow_self, h]; rfl
    rw [he] at h5
    simp at h5
theorem checkR_spec (l : List Ins) (hok : okL l) (hl : l.length ≤ 1000000000) : Tells Try.prog 10 [inss l] (.tup [int (checkI l).1, int (checkI l).2]) := by
  refine tells_of_aw Try.func10 rfl rfl fun nx => ?_
  (repeat((conv=>whnf);first|apply ω0|apply ω1|apply ω2|refine τ3 rfl ?_|refine τ4 rfl ?_|refine ⟨rfl,?_⟩|apply τa|refine τb rfl ?_|refine ⟨⟨by kernel_rfl,by kernel_rfl⟩,?_⟩|refine ⟨by decide,?_⟩|apply τt|apply τf))
  refine aop_tells rfl rfl (formedR_spec l hok hl) ⟨AVle.refl _, trivial⟩ fun nx1 => ?_
  (repeat((conv=>whnf);first|apply ω0|apply ω1|apply ω2|refine τ3 rfl ?_|refine τ4 rfl ?_|refine ⟨rfl,?_⟩|apply τa|refine τb rfl ?_|refine ⟨⟨by kernel_rfl,by kernel_rfl⟩,?_⟩|refine ⟨by decide,?_⟩|apply τt|apply τf))
  intro c g1; cases c
  · have g1 := bne_no g1
    have hfz : (formedI l).2 = 0 := by omega
    have hf : Formed l := formed_of hfz
    have hle := hf.le
    have hsl := storedI_length hf
    have hss := storedI_small hf
    have hst := storedR_spec l hok hf
    (repeat((conv=>whnf);first|apply ω0|apply ω1|apply ω2|refine τ3 rfl ?_|refine τ4 rfl ?_|refine ⟨rfl,?_⟩|apply τa|refine τb rfl ?_|refine ⟨⟨by kernel_rfl,by kernel_rfl⟩,?_⟩|refine ⟨by decide,?_⟩|apply τt|apply τf))
    refine aop_tells rfl rfl hst ⟨AVle.refl _, trivial⟩ fun nx2 => ?_
    (repeat((conv=>whnf);first|apply ω0|apply ω1|apply ω2|refine τ3 rfl ?_|refine τ4 rfl ?_|refine ⟨rfl,?_⟩|apply τa|refine τb rfl ?_|refine ⟨⟨by kernel_rfl,by kernel_rfl⟩,?_⟩|refine ⟨by decide,?_⟩|apply τt|apply τf))
    refine aw_loop (fun s : Nat × Nat => mk 57 [(0, inss l), (6, u16s (storedI l)), (7, int s.1)] ⟨[], [], s.2, 0⟩) (fun s => s.1 ≤ l.length ∧ ∀ j, j < s.1 → ¬ ((kind l j = 3 ∨ kind l j = 6) ∧ (storedI l).getD j 0 / 2 ^ (l.getD j ins0).k % 2 = 0)) (fun s => l.length - s.1) ?_ ?_
    · exact ⟨(0, nx2), ⟨Nat.zero_le _, fun j hj => absurd hj (Nat.not_lt_zero _)⟩, ele_keep rfl rfl (List.nil_sublist _) (List.nil_sublist _) ⟨AVle.refl _, AVle.refl _, AVle.refl _, trivial⟩⟩
    · rintro ⟨i, nx'⟩ ⟨h3, h4⟩
      dsimp only at h3 h4
      (repeat((conv=>whnf);first|apply ω0|apply ω1|apply ω2|refine τ3 rfl ?_|refine τ4 rfl ?_|refine ⟨rfl,?_⟩|apply τa|refine τb rfl ?_|refine ⟨⟨by kernel_rfl,by kernel_rfl⟩,?_⟩|refine ⟨by decide,?_⟩|apply τt|apply τf))
      intro c g2; cases c
      · have h5 := not_of g2
        dsimp only at h5
        have : checkI l = (0, 0) := by
          unfold checkI
          rw [if_neg (by omega), find_range_none fun j hj => by rw [decide_eq_false_iff_not]; exact h4 j (by omega)]
        rw [this]
        (repeat((conv=>whnf);first|apply ω0|apply ω1|apply ω2|refine τ3 rfl ?_|refine τ4 rfl ?_|refine ⟨rfl,?_⟩|apply τa|refine τb rfl ?_|refine ⟨⟨by kernel_rfl,by kernel_rfl⟩,?_⟩|refine ⟨by decide,?_⟩|apply τt|apply τf))
        exact ret_tells rfl (AVle.refl _)
      · have h5 := yes_of g2
        dsimp only at h5
        have hi : i < l.length := by omega
        have hki : (l.getD i ins0).ok := hok.get hi
        have hof := refof_spec (l.getD i ins0).code hki.1
        have hkd : (kof (l.getD i ins0).code).1 = kind l i := rfl
        have hk16 : kind l i = 3 ∨ kind l i = 6 → (l.getD i ins0).k < 16 := fun h => by
          have := (wrong_parts (hf.ok i hi)).2.2.1
          omega
        have hfound : ((kind l i = 3 ∨ kind l i = 6) ∧ (storedI l).getD i 0 / 2 ^ (l.getD i ins0).k % 2 = 0) → checkI l = (i, 12) := fun h => by
          unfold checkI
          rw [if_neg (by omega), find_range_some hi (decide_eq_true h) (fun j hj => by rw [decide_eq_false_iff_not]; exact h4 j hj)]
        have hnext : ¬ ((kind l i = 3 ∨ kind l i = 6) ∧ (storedI l).getD i 0 / 2 ^ (l.getD i ins0).k % 2 = 0) → ∀ j, j < i + 1 → ¬ ((kind l j = 3 ∨ kind l j = 6) ∧ (storedI l).getD j 0 / 2 ^ (l.getD j ins0).k % 2 = 0) := fun h j hj => by
          rcases Nat.lt_or_ge j i with h' | h'
          · exact h4 j h'
          · obtain rfl : j = i := by omega
            exact h
        have hsx := hss i
        rw [hkd] at hof
        generalize kind l i = K at hof hk16 hfound hnext
        generalize (kof (l.getD i ins0).code).2 = x at hof
        (repeat((conv=>whnf);first|apply ω0|apply ω1|apply ω2|refine τ3 rfl ?_|refine τ4 rfl ?_|refine ⟨rfl,?_⟩|apply τa|refine τb rfl ?_|refine ⟨⟨by kernel_rfl,by kernel_rfl⟩,?_⟩|refine ⟨by decide,?_⟩|apply τt|apply τf))
        refine ⟨⟨by first | omega | (dsimp only; omega), by first | omega | (dsimp only; omega)⟩, ?_⟩
        (repeat((conv=>whnf);first|apply ω0|apply ω1|apply ω2|refine τ3 rfl ?_|refine τ4 rfl ?_|refine ⟨rfl,?_⟩|apply τa|refine τb rfl ?_|refine ⟨⟨by kernel_rfl,by kernel_rfl⟩,?_⟩|refine ⟨by decide,?_⟩|apply τt|apply τf))
        refine aop_tells rfl rfl hof ⟨AVle.refl _, trivial⟩ fun nx3 => ?_
        (repeat((conv=>whnf);first|apply ω0|apply ω1|apply ω2|refine τ3 rfl ?_|refine τ4 rfl ?_|refine ⟨rfl,?_⟩|apply τa|refine τb rfl ?_|refine ⟨⟨by kernel_rfl,by kernel_rfl⟩,?_⟩|refine ⟨by decide,?_⟩|apply τt|apply τf))
        intro cx hx
        (repeat((conv=>whnf);first|apply ω0|apply ω1|apply ω2|refine τ3 rfl ?_|refine τ4 rfl ?_|refine ⟨rfl,?_⟩|apply τa|refine τb rfl ?_|refine ⟨⟨by kernel_rfl,by kernel_rfl⟩,?_⟩|refine ⟨by decide,?_⟩|apply τt|apply τf))
        by_cases e3 : K = 3
        · subst e3
          have hk := hk16 (.inl rfl)
          have h2k : 2 ^ (l.getD i ins0).k < 65536 := by have := Nat.pow_lt_pow_right (a := 2) (by decide) hk; omega
          (refine aw_draw 20 ?_ ?_ ?_ ?_; (· kernel_rfl); (· kernel_rfl); (· kernel_rfl))
          (repeat((conv=>whnf);first|apply ω0|apply ω1|apply ω2|refine τ3 rfl ?_|refine τ4 rfl ?_|refine ⟨rfl,?_⟩|apply τa|refine τb rfl ?_|refine ⟨⟨by kernel_rfl,by kernel_rfl⟩,?_⟩|refine ⟨by decide,?_⟩|apply τt|apply τf))
          refine ⟨⟨by first | omega | (dsimp only; omega), by first | omega | (dsimp only; omega)⟩, ?_⟩
          (repeat((conv=>whnf);first|apply ω0|apply ω1|apply ω2|refine τ3 rfl ?_|refine τ4 rfl ?_|refine ⟨rfl,?_⟩|apply τa|refine τb rfl ?_|refine ⟨⟨by kernel_rfl,by kernel_rfl⟩,?_⟩|refine ⟨by decide,?_⟩|apply τt|apply τf))
          refine ⟨⟨by first | omega | (dsimp only; omega), by first | omega | (dsimp only; omega)⟩, ?_⟩
          (repeat((conv=>whnf);first|apply ω0|apply ω1|apply ω2|refine τ3 rfl ?_|refine τ4 rfl ?_|refine ⟨rfl,?_⟩|apply τa|refine τb rfl ?_|refine ⟨⟨by kernel_rfl,by kernel_rfl⟩,?_⟩|refine ⟨by decide,?_⟩|apply τt|apply τf))
          (conv => whnf)
          refine ⟨by omega, splitO_eq (congrArg (fun x => AV.v (.int .u16 x)) (shl16 hk)) ?_⟩
          (repeat((conv=>whnf);first|apply ω0|apply ω1|apply ω2|refine τ3 rfl ?_|refine τ4 rfl ?_|refine ⟨rfl,?_⟩|apply τa|refine τb rfl ?_|refine ⟨⟨by kernel_rfl,by kernel_rfl⟩,?_⟩|refine ⟨by decide,?_⟩|apply τt|apply τf))
          intro c g5; cases c
          · have g5 : ¬ ((storedI l).getD i 0 / 2 ^ (l.getD i ins0).k % 2 = 0) := by
              have g5 := fct_b0.1 g5
              rw [← and_bit]
              intro h
              apply g5
              show bitsI .and .u16 (((storedI l).getD i 0 : Nat) : Int) ((2 ^ (l.getD i ins0).k : Nat) : Int) = 0
              rw [nu16_and hsx h2k, h]; rfl
            (repeat((conv=>whnf);first|apply ω0|apply ω1|apply ω2|refine τ3 rfl ?_|refine τ4 rfl ?_|refine ⟨rfl,?_⟩|apply τa|refine τb rfl ?_|refine ⟨⟨by kernel_rfl,by kernel_rfl⟩,?_⟩|refine ⟨by decide,?_⟩|apply τt|apply τf))
            exact back (i + 1, _) ⟨(by first | omega | (dsimp only at *; omega) | (simp; done) | (simp; omega)), hnext (fun h => g5 h.2)⟩ (by first | omega | (dsimp only at *; omega) | (simp; done) | (simp; omega)) (ele_keep rfl rfl (List.nil_sublist _) (List.nil_sublist _) ⟨AVle.refl _, AVle.refl _, le_int (wrap_succ (by first | omega | (dsimp only at *; omega) | (simp; done) | (simp; omega))), trivial⟩)
          · have g5 : (storedI l).getD i 0 / 2 ^ (l.getD i ins0).k % 2 = 0 := by
              have g5 := fct_b1.1 g5
              rw [← and_bit]
              have g6 : bitsI .and .u16 (((storedI l).getD i 0 : Nat) : Int) ((2 ^ (l.getD i ins0).k : Nat) : Int) = 0 := g5
              rw [nu16_and hsx h2k] at g6
              omega
            rw [hfound ⟨(.inl rfl), g5⟩]
            (repeat((conv=>whnf);first|apply ω0|apply ω1|apply ω2|refine τ3 rfl ?_|refine τ4 rfl ?_|refine ⟨rfl,?_⟩|apply τa|refine τb rfl ?_|refine ⟨⟨by kernel_rfl,by kernel_rfl⟩,?_⟩|refine ⟨by decide,?_⟩|apply τt|apply τf))
            exact ret_tells rfl (AVle.refl _)
        · have f3 : ((K : Int) == 3) = false := by simp; omega
          by_cases e6 : K = 6
          · subst e6
            have hk := hk16 (.inr rfl)
            have h2k : 2 ^ (l.getD i ins0).k < 65536 := by have := Nat.pow_lt_pow_right (a := 2) (by decide) hk; omega
            (refine aw_draw 20 ?_ ?_ ?_ ?_; (· kernel_rfl); (· kernel_rfl); (· kernel_rfl))
            (repeat((conv=>whnf);first|apply ω0|apply ω1|apply ω2|refine τ3 rfl ?_|refine τ4 rfl ?_|refine ⟨rfl,?_⟩|apply τa|refine τb rfl ?_|refine ⟨⟨by kernel_rfl,by kernel_rfl⟩,?_⟩|refine ⟨by decide,?_⟩|apply τt|apply τf))
            refine ⟨⟨by first | omega | (dsimp only; omega), by first | omega | (dsimp only; omega)⟩, ?_⟩
            (repeat((conv=>whnf);first|apply ω0|apply ω1|apply ω2|refine τ3 rfl ?_|refine τ4 rfl ?_|refine ⟨rfl,?_⟩|apply τa|refine τb rfl ?_|refine ⟨⟨by kernel_rfl,by kernel_rfl⟩,?_⟩|refine ⟨by decide,?_⟩|apply τt|apply τf))
            refine ⟨⟨by first | omega | (dsimp only; omega), by first | omega | (dsimp only; omega)⟩, ?_⟩
            (repeat((conv=>whnf);first|apply ω0|apply ω1|apply ω2|refine τ3 rfl ?_|refine τ4 rfl ?_|refine ⟨rfl,?_⟩|apply τa|refine τb rfl ?_|refine ⟨⟨by kernel_rfl,by kernel_rfl⟩,?_⟩|refine ⟨by decide,?_⟩|apply τt|apply τf))
            (conv => whnf)
            refine ⟨by omega, splitO_eq (congrArg (fun x => AV.v (.int .u16 x)) (shl16 hk)) ?_⟩
            (repeat((conv=>whnf);first|apply ω0|apply ω1|apply ω2|refine τ3 rfl ?_|refine τ4 rfl ?_|refine ⟨rfl,?_⟩|apply τa|refine τb rfl ?_|refine ⟨⟨by kernel_rfl,by kernel_rfl⟩,?_⟩|refine ⟨by decide,?_⟩|apply τt|apply τf))
            intro c g5; cases c
            · have g5 : ¬ ((storedI l).getD i 0 / 2 ^ (l.getD i ins0).k % 2 = 0) := by
                have g5 := fct_b0.1 g5
                rw [← and_bit]
                intro h
                apply g5
                show bitsI .and .u16 (((storedI l).getD i 0 : Nat) : Int) ((2 ^ (l.getD i ins0).k : Nat) : Int) = 0
                rw [nu16_and hsx h2k, h]; rfl
              (repeat((conv=>whnf);first|apply ω0|apply ω1|apply ω2|refine τ3 rfl ?_|refine τ4 rfl ?_|refine ⟨rfl,?_⟩|apply τa|refine τb rfl ?_|refine ⟨⟨by kernel_rfl,by kernel_rfl⟩,?_⟩|refine ⟨by decide,?_⟩|apply τt|apply τf))
              exact back (i + 1, _) ⟨(by first | omega | (dsimp only at *; omega) | (simp; done) | (simp; omega)), hnext (fun h => g5 h.2)⟩ (by first | omega | (dsimp only at *; omega) | (simp; done) | (simp; omega)) (ele_keep rfl rfl (List.nil_sublist _) (List.nil_sublist _) ⟨AVle.refl _, AVle.refl _, le_int (wrap_succ (by first | omega | (dsimp only at *; omega) | (simp; done) | (simp; omega))), trivial⟩)
            · have g5 : (storedI l).getD i 0 / 2 ^ (l.getD i ins0).k % 2 = 0 := by
                have g5 := fct_b1.1 g5
                rw [← and_bit]
                have g6 : bitsI .and .u16 (((storedI l).getD i 0 : Nat) : Int) ((2 ^ (l.getD i ins0).k : Nat) : Int) = 0 := g5
                rw [nu16_and hsx h2k] at g6
                omega
              rw [hfound ⟨(.inr rfl), g5⟩]
              (repeat((conv=>whnf);first|apply ω0|apply ω1|apply ω2|refine τ3 rfl ?_|refine τ4 rfl ?_|refine ⟨rfl,?_⟩|apply τa|refine τb rfl ?_|refine ⟨⟨by kernel_rfl,by kernel_rfl⟩,?_⟩|refine ⟨by decide,?_⟩|apply τt|apply τf))
              exact ret_tells rfl (AVle.refl _)
          · have f6 : ((K : Int) == 6) = false := by simp; omega
            (refine aw_draw 20 ?_ ?_ ?_ ?_; (· kernel_rfl); (· kernel_rfl); (· kernel_rfl))
            (repeat((conv=>whnf);first|apply ω0|apply ω1|apply ω2|refine τ3 rfl ?_|refine τ4 rfl ?_|refine ⟨rfl,?_⟩|apply τa|refine τb rfl ?_|refine ⟨⟨by kernel_rfl,by kernel_rfl⟩,?_⟩|refine ⟨by decide,?_⟩|apply τt|apply τf))
            (conv => whnf)
            rw [f3]
            (repeat((conv=>whnf);first|apply ω0|apply ω1|apply ω2|refine τ3 rfl ?_|refine τ4 rfl ?_|refine ⟨rfl,?_⟩|apply τa|refine τb rfl ?_|refine ⟨⟨by kernel_rfl,by kernel_rfl⟩,?_⟩|refine ⟨by decide,?_⟩|apply τt|apply τf))
            (conv => whnf)
            rw [f6]
            (repeat((conv=>whnf);first|apply ω0|apply ω1|apply ω2|refine τ3 rfl ?_|refine τ4 rfl ?_|refine ⟨rfl,?_⟩|apply τa|refine τb rfl ?_|refine ⟨⟨by kernel_rfl,by kernel_rfl⟩,?_⟩|refine ⟨by decide,?_⟩|apply τt|apply τf))
            exact back (i + 1, _) ⟨(by first | omega | (dsimp only at *; omega) | (simp; done) | (simp; omega)), hnext (fun h => by omega)⟩ (by first | omega | (dsimp only at *; omega) | (simp; done) | (simp; omega)) (ele_keep rfl rfl (List.nil_sublist _) (List.nil_sublist _) ⟨AVle.refl _, AVle.refl _, le_int (wrap_succ (by first | omega | (dsimp only at *; omega) | (simp; done) | (simp; omega))), trivial⟩)
  · have g1 := bne_yes g1
    have : checkI l = formedI l := by unfold checkI; rw [if_pos (by omega)]
    rw [this]
    (repeat((conv=>whnf);first|apply ω0|apply ω1|apply ω2|refine τ3 rfl ?_|refine τ4 rfl ?_|refine ⟨rfl,?_⟩|apply τa|refine τb rfl ?_|refine ⟨⟨by kernel_rfl,by kernel_rfl⟩,?_⟩|refine ⟨by decide,?_⟩|apply τt|apply τf))
    exact ret_tells rfl (AVle.refl _)
end Go.Proofs.W

namespace Go.Proofs.W
open Go.Vl
set_option maxRecDepth 100000

end Go.Proofs.W

namespace Go.Proofs.W
open Go.Vl
set_option maxRecDepth 100000

theorem all_spec (l : List Ins) (hl : l.length ≤ 1000000) : Tells Try.prog 4 [inss l] (inss l) := by
  refine tells_of_aw Try.func4 rfl rfl fun nx => ?_
  (repeat((conv=>whnf);first|apply ω0|apply ω1|apply ω2|refine τ3 rfl ?_|refine τ4 rfl ?_|refine ⟨rfl,?_⟩|apply τa|refine τb rfl ?_|refine ⟨⟨by kernel_rfl,by kernel_rfl⟩,?_⟩|refine ⟨by decide,?_⟩|apply τt|apply τf))
  refine aw_loop (fun s : Nat × Option Nat × Nat => mk 36 [(0, inss l), (3, .os 4 s.1 (fun k => insA (l.getD k ins0)) (nmd s.2.1)), (4, int s.1)] ⟨[], pmOf (nmd s.2.1) (s.1 * 4), s.2.2, 0⟩) (fun s => s.1 ≤ l.length ∧ (s.2.1 = none → s.1 = 0)) (fun s => l.length - s.1) ?_ ?_
  · exact ⟨(0, none, nx), ⟨by simp, fun _ => rfl⟩, ele_mk rfl rfl ⟨AVle.refl _, AVle.os_nil, AVle.refl _, trivial⟩⟩
  · rintro ⟨i, oi, nx2⟩ ⟨h3, h4⟩
    dsimp only at h3 h4
    (repeat((conv=>whnf);first|apply ω0|apply ω1|apply ω2|refine τ3 rfl ?_|refine τ4 rfl ?_|refine ⟨rfl,?_⟩|apply τa|refine τb rfl ?_|refine ⟨⟨by kernel_rfl,by kernel_rfl⟩,?_⟩|refine ⟨by decide,?_⟩|apply τt|apply τf))
    intro c h5; cases c
    · have h6 := not_of h5
      dsimp only at h6
      obtain rfl : i = l.length := by omega
      (repeat((conv=>whnf);first|apply ω0|apply ω1|apply ω2|refine τ3 rfl ?_|refine τ4 rfl ?_|refine ⟨rfl,?_⟩|apply τa|refine τb rfl ?_|refine ⟨⟨by kernel_rfl,by kernel_rfl⟩,?_⟩|refine ⟨by decide,?_⟩|apply τt|apply τf))
      exact ret_tells rfl AVle.os_sl
    · have h6 := yes_of h5
      dsimp only at h6
      rcases oi with _ | id
      · obtain rfl := h4 rfl
        (repeat((conv=>whnf);first|apply ω0|apply ω1|apply ω2|refine τ3 rfl ?_|refine τ4 rfl ?_|refine ⟨rfl,?_⟩|apply τa|refine τb rfl ?_|refine ⟨⟨by kernel_rfl,by kernel_rfl⟩,?_⟩|refine ⟨by decide,?_⟩|apply τt|apply τf))
        (refine aw_draw 23 ?_ ?_ ?_ ?_; (· kernel_rfl); (· kernel_rfl); (· kernel_rfl))
        (repeat((conv=>whnf);first|apply ω0|apply ω1|apply ω2|refine τ3 rfl ?_|refine τ4 rfl ?_|refine ⟨rfl,?_⟩|apply τa|refine τb rfl ?_|refine ⟨⟨by kernel_rfl,by kernel_rfl⟩,?_⟩|refine ⟨by decide,?_⟩|apply τt|apply τf))
        refine ⟨⟨by dsimp only; omega, by dsimp only; omega⟩, ?_⟩
        (repeat((conv=>whnf);first|apply ω0|apply ω1|apply ω2|refine τ3 rfl ?_|refine τ4 rfl ?_|refine ⟨rfl,?_⟩|apply τa|refine τb rfl ?_|refine ⟨⟨by kernel_rfl,by kernel_rfl⟩,?_⟩|refine ⟨by decide,?_⟩|apply τt|apply τf))
        refine ⟨⟨by dsimp only; omega, by dsimp only; omega⟩, ?_⟩
        (repeat((conv=>whnf);first|apply ω0|apply ω1|apply ω2|refine τ3 rfl ?_|refine τ4 rfl ?_|refine ⟨rfl,?_⟩|apply τa|refine τb rfl ?_|refine ⟨⟨by kernel_rfl,by kernel_rfl⟩,?_⟩|refine ⟨by decide,?_⟩|apply τt|apply τf))
        refine ⟨⟨by dsimp only; omega, by dsimp only; omega⟩, ?_⟩
        (repeat((conv=>whnf);first|apply ω0|apply ω1|apply ω2|refine τ3 rfl ?_|refine τ4 rfl ?_|refine ⟨rfl,?_⟩|apply τa|refine τb rfl ?_|refine ⟨⟨by kernel_rfl,by kernel_rfl⟩,?_⟩|refine ⟨by decide,?_⟩|apply τt|apply τf))
        refine ⟨⟨by dsimp only; omega, by dsimp only; omega⟩, ?_⟩
        (repeat((conv=>whnf);first|apply ω0|apply ω1|apply ω2|refine τ3 rfl ?_|refine τ4 rfl ?_|refine ⟨rfl,?_⟩|apply τa|refine τb rfl ?_|refine ⟨⟨by kernel_rfl,by kernel_rfl⟩,?_⟩|refine ⟨by decide,?_⟩|apply τt|apply τf))
        refine ⟨oneRow_one rfl, by show (0 + 1) * 8 ≤ _; omega, by dsimp only; omega, ?_⟩
        (repeat((conv=>whnf);first|apply ω0|apply ω1|apply ω2|refine τ3 rfl ?_|refine τ4 rfl ?_|refine ⟨rfl,?_⟩|apply τa|refine τb rfl ?_|refine ⟨⟨by kernel_rfl,by kernel_rfl⟩,?_⟩|refine ⟨by decide,?_⟩|apply τt|apply τf))
        exact back (0 + 1, some nx2, nx2 + 1) ⟨by dsimp only; omega, (fun h => by cases h)⟩ (by dsimp only; omega) (ele_keep rfl rfl .slnil (.cons_cons _ .slnil) ⟨AVle.refl _, AVle.os_fun (appF_one (fun k hk => absurd hk (Nat.not_lt_zero _)) rfl), le_int (wrap_succ (by dsimp only; omega)), trivial⟩)
      · (repeat((conv=>whnf);first|apply ω0|apply ω1|apply ω2|refine τ3 rfl ?_|refine τ4 rfl ?_|refine ⟨rfl,?_⟩|apply τa|refine τb rfl ?_|refine ⟨⟨by kernel_rfl,by kernel_rfl⟩,?_⟩|refine ⟨by decide,?_⟩|apply τt|apply τf))
        (refine aw_draw 23 ?_ ?_ ?_ ?_; (· kernel_rfl); (· kernel_rfl); (· kernel_rfl))
        (repeat((conv=>whnf);first|apply ω0|apply ω1|apply ω2|refine τ3 rfl ?_|refine τ4 rfl ?_|refine ⟨rfl,?_⟩|apply τa|refine τb rfl ?_|refine ⟨⟨by kernel_rfl,by kernel_rfl⟩,?_⟩|refine ⟨by decide,?_⟩|apply τt|apply τf))
        refine ⟨⟨by dsimp only; omega, by dsimp only; omega⟩, ?_⟩
        (repeat((conv=>whnf);first|apply ω0|apply ω1|apply ω2|refine τ3 rfl ?_|refine τ4 rfl ?_|refine ⟨rfl,?_⟩|apply τa|refine τb rfl ?_|refine ⟨⟨by kernel_rfl,by kernel_rfl⟩,?_⟩|refine ⟨by decide,?_⟩|apply τt|apply τf))
        refine ⟨⟨by dsimp only; omega, by dsimp only; omega⟩, ?_⟩
        (repeat((conv=>whnf);first|apply ω0|apply ω1|apply ω2|refine τ3 rfl ?_|refine τ4 rfl ?_|refine ⟨rfl,?_⟩|apply τa|refine τb rfl ?_|refine ⟨⟨by kernel_rfl,by kernel_rfl⟩,?_⟩|refine ⟨by decide,?_⟩|apply τt|apply τf))
        refine ⟨⟨by dsimp only; omega, by dsimp only; omega⟩, ?_⟩
        (repeat((conv=>whnf);first|apply ω0|apply ω1|apply ω2|refine τ3 rfl ?_|refine τ4 rfl ?_|refine ⟨rfl,?_⟩|apply τa|refine τb rfl ?_|refine ⟨⟨by kernel_rfl,by kernel_rfl⟩,?_⟩|refine ⟨by decide,?_⟩|apply τt|apply τf))
        refine ⟨⟨by dsimp only; omega, by dsimp only; omega⟩, ?_⟩
        (repeat((conv=>whnf);first|apply ω0|apply ω1|apply ω2|refine τ3 rfl ?_|refine τ4 rfl ?_|refine ⟨rfl,?_⟩|apply τa|refine τb rfl ?_|refine ⟨⟨by kernel_rfl,by kernel_rfl⟩,?_⟩|refine ⟨by decide,?_⟩|apply τt|apply τf))
        refine ⟨oneRow_one rfl, by show (i + 1) * 8 ≤ _; omega, by dsimp only; omega, ?_⟩
        (repeat((conv=>whnf);first|apply ω0|apply ω1|apply ω2|refine τ3 rfl ?_|refine τ4 rfl ?_|refine ⟨rfl,?_⟩|apply τa|refine τb rfl ?_|refine ⟨⟨by kernel_rfl,by kernel_rfl⟩,?_⟩|refine ⟨by decide,?_⟩|apply τt|apply τf))
        exact back (i + 1, some nx2, nx2 + 1) ⟨by dsimp only; omega, (fun h => by cases h)⟩ (by dsimp only; omega) (ele_keep rfl rfl .slnil (.cons_cons _ .slnil) ⟨AVle.refl _, AVle.os_fun (appF_one (fun k hk => rfl) rfl), le_int (wrap_succ (by dsimp only; omega)), trivial⟩)
end Go.Proofs.W

namespace Go.Proofs.W

section
variable {l : List Ins}
def cnt (l : List Ins) (n : Nat) : Nat := ((reachI l).take n).count true
theorem reachedOf_ok (h : Right l) : reachedOf l = reachI l := by unfold reachedOf; rw [if_pos (check_iff.2 h)]
theorem cnt_zero : cnt l 0 = 0 := by simp [cnt]
theorem cnt_succ {n : Nat} (hn : n < l.length) : cnt l (n + 1) = cnt l n + (if (reachI l).getD n false then 1 else 0) := count_take (by rw [reachI_length]; exact hn)
theorem cnt_in (hf : Formed l) {n : Nat} (h : Reached l n) : cnt l (n + 1) = cnt l n + 1 := by
  rw [cnt_succ (h.lt hf), (reachI_iff hf n).2 h]; rfl
theorem cnt_mono {a b : Nat} (h : a ≤ b) : cnt l a ≤ cnt l b := by
  obtain ⟨d, rfl⟩ : ∃ d, b = a + d := ⟨b - a, by omega⟩
  exact (count_mono (reachI l) a d).1
theorem cnt_lt (hf : Formed l) {a b : Nat} (ha : Reached l a) (h : a < b) : cnt l a < cnt l b := by
  have h1 := cnt_in hf ha
  have h2 := cnt_mono (l := l) (show a + 1 ≤ b from h)
  omega
theorem cnt_inj (hf : Formed l) {a b : Nat} (ha : Reached l a) (hb : Reached l b) (h : cnt l a = cnt l b) : a = b := by
  rcases Nat.lt_trichotomy a b with h1 | h1 | h1
  · have := cnt_lt hf ha h1; omega
  · exact h1
  · have := cnt_lt hf hb h1; omega
theorem prTo_len (h : Right l) : ∀ n, n ≤ l.length → (prTo l n).length = cnt l n := by
  intro n
  induction n with
  | zero => intro _; rw [cnt_zero]; simp [prTo]
  | succ n ih =>
    intro hn
    rw [prTo_succ, reachedOf_ok h, cnt_succ (by omega), ← ih (by omega)]
    split
    · rename_i h1; simp
    · rename_i h1; simp
theorem prTo_get (h : Right l) {n : Nat} (hr : Reached l n) : ∀ m, n < m → m ≤ l.length → (prTo l m).getD (cnt l n) ins0 = prI l n := by
  intro m
  induction m with
  | zero => intro h; omega
  | succ m ih =>
    intro h1 h2
    have hlen := prTo_len h m (by omega)
    rw [prTo_succ, reachedOf_ok h]
    by_cases h3 : n = m
    · subst h3
      rw [if_pos ((reachI_iff h.1 n).2 hr)]
      simp [List.getD, ← hlen]
    · have h4 := ih (by omega) (by omega)
      have h5 := cnt_lt h.1 hr (show n < m by omega)
      split
      · rw [← h4]
        simp only [List.getD]
        rw [List.getElem?_append_left (by omega)]
      · exact h4
theorem pruneI_ok (h : Right l) : pruneI l = prTo l l.length := by unfold pruneI; rw [reachedOf_ok h, reachI_length]
theorem prune_len (h : Right l) : (pruneI l).length = cnt l l.length := by rw [pruneI_ok h]; exact prTo_len h l.length (Nat.le_refl _)
theorem prune_get (h : Right l) {n : Nat} (hr : Reached l n) : (pruneI l).getD (cnt l n) ins0 = prI l n := by rw [pruneI_ok h]; exact prTo_get h hr l.length (hr.lt h.1) (Nat.le_refl _)
theorem cnt_onto (hf : Formed l) : ∀ m, m ≤ l.length → ∀ j, j < cnt l m → ∃ n, n < m ∧ Reached l n ∧ cnt l n = j := by
  intro m
  induction m with
  | zero => intro _ j hj; rw [cnt_zero] at hj; omega
  | succ m ih =>
    intro hm j hj
    rw [cnt_succ (by omega)] at hj
    by_cases h1 : j < cnt l m
    · obtain ⟨n, h2, h3⟩ := ih (by omega) j h1
      exact ⟨n, by omega, h3⟩
    · split at hj
      · rename_i h2
        exact ⟨m, by omega, (reachI_iff hf m).1 h2, by omega⟩
      · omega
theorem prune_at (h : Right l) {j : Nat} (hj : j < (pruneI l).length) : ∃ n, Reached l n ∧ cnt l n = j := by
  rw [prune_len h] at hj
  obtain ⟨n, _, h1⟩ := cnt_onto h.1 l.length (Nat.le_refl _) j hj
  exact ⟨n, h1⟩
theorem cnt_len (h : Right l) {n : Nat} (hr : Reached l n) : cnt l n < (pruneI l).length := by rw [prune_len h]; exact cnt_lt h.1 hr (hr.lt h.1)
theorem to_cnt (h : Right l) {n k : Nat} (hn : Reached l n) (ht : n + 1 + k < l.length) : (toI (sums (reachedOf l)) n k).toNat + (cnt l n + 1) = cnt l (n + 1 + k) ∧ (toI (sums (reachedOf l)) n k).toNat ≤ k := by
  have hle := h.1.le
  have h1 := to_sums (o := reachedOf l) (n := n) (k := k) (by rw [reachedOf_ok h, reachI_length]; omega) (by rw [reachedOf_ok h, reachI_length]; omega)
  have h2 := cnt_in h.1 hn
  have h3 := cnt_mono (l := l) (show n + 1 ≤ n + 1 + k by omega)
  rw [h1.1]
  rw [reachedOf_ok h] at *
  unfold cnt at *
  refine ⟨by omega, ?_⟩
  have := h1.2.2
  rw [h1.1] at this
  omega
theorem next_in (h : Right l) {n t : Nat} (hr : Reached l n) (ht : t ∈ nextsI l n) : Reached l t := .step n t hr rfl ht
theorem pr_code (n : Nat) : (prI l n).code = (l.getD n ins0).code := by unfold prI prAt; split; · rfl
                                                                        split <;> rfl
theorem pr_kind (h : Right l) {n : Nat} (hr : Reached l n) : kind (pruneI l) (cnt l n) = kind l n := by unfold kind; rw [prune_get h hr, pr_code]
theorem pr_k {n : Nat} (hk : kind l n ≠ 13) : (prI l n).k = (l.getD n ins0).k := by unfold prI prAt; rw [if_neg hk]; split <;> rfl
theorem pr_nexts (h : Right l) {n : Nat} (hr : Reached l n) : nextsI (pruneI l) (cnt l n) = (nextsI l n).map (cnt l) := by
  have hnx := nexts_lt h.1 (hr.lt h.1)
  have h1 := cnt_in h.1 hr
  unfold nextsI at hnx ⊢
  rw [pr_kind h hr, prune_get h hr]
  by_cases k1 : kind l n = 14 ∨ kind l n = 15
  · rw [if_pos k1, if_pos k1]; rfl
  · rw [if_neg k1] at hnx
    rw [if_neg k1, if_neg k1]
    by_cases k2 : kind l n = 13
    · rw [if_pos k2] at hnx
      rw [if_pos k2, if_pos k2]
      have h2 := hnx _ (List.mem_singleton.2 rfl)
      have h3 := to_cnt h hr h2.2
      have h4 : (prI l n).k = (toI (sums (reachedOf l)) n (l.getD n ins0).k).toNat := by unfold prI prAt; rw [if_pos k2]
      rw [h4]
      simp only [List.map_cons, List.map_nil, List.cons.injEq, and_true]
      omega
    · rw [if_neg k2] at hnx
      rw [if_neg k2, if_neg k2]
      by_cases k3 : 25 ≤ kind l n
      · rw [if_pos k3] at hnx
        rw [if_pos k3, if_pos k3]
        have h2 := hnx (n + 1 + (l.getD n ins0).jt) (by simp)
        have h2' := hnx (n + 1 + (l.getD n ins0).jf) (by simp)
        have h3 := to_cnt h hr h2.2
        have h3' := to_cnt h hr h2'.2
        have h4 : (prI l n).jt = (toI (sums (reachedOf l)) n (l.getD n ins0).jt).toNat := by unfold prI prAt; rw [if_neg k2, if_pos k3]
        have h4' : (prI l n).jf = (toI (sums (reachedOf l)) n (l.getD n ins0).jf).toNat := by unfold prI prAt; rw [if_neg k2, if_pos k3]
        rw [h4, h4']
        simp only [List.map_cons, List.map_nil, List.cons.injEq, and_true]
        omega
      · rw [if_neg k3, if_neg k3]
        simp [h1]
theorem pr_reach (h : Right l) {s s' : Nat → Bool} (hs : ∀ m, Reached l m → s' (cnt l m) = s m) {n : Nat} (hr : Rch l s n) : Reached l n ∧ Rch (pruneI l) s' (cnt l n) := by
  induction hr with
  | zero => exact ⟨.zero, by rw [cnt_zero]; exact .zero⟩
  | step n t h1 h2 h3 ih =>
    obtain ⟨ih1, ih2⟩ := ih
    exact ⟨next_in h ih1 h3, .step (cnt l n) (cnt l t) ih2 (by rw [hs n ih1]; exact h2) (by rw [pr_nexts h ih1]; exact List.mem_map.2 ⟨t, h3, rfl⟩)⟩
theorem pr_back (h : Right l) {s s' : Nat → Bool} (hs : ∀ m, Reached l m → s' (cnt l m) = s m) {j : Nat} (hr : Rch (pruneI l) s' j) : ∃ n, Reached l n ∧ cnt l n = j ∧ Rch l s n := by
  induction hr with
  | zero => exact ⟨0, .zero, cnt_zero, .zero⟩
  | step j t h1 h2 h3 ih =>
    obtain ⟨n, i1, rfl, i3⟩ := ih
    rw [pr_nexts h i1] at h3
    obtain ⟨t', h4, rfl⟩ := List.mem_map.1 h3
    exact ⟨t', next_in h i1 h4, rfl, .step n t' i3 (by rw [← hs n i1]; exact h2) h4⟩
theorem pr_wrong (h : Right l) {n : Nat} (hr : Reached l n) : wrongI (prI l n) ((pruneI l).length - 1 - cnt l n) = 0 := by
  have hw := h.1.ok n (hr.lt h.1)
  have hnx := nexts_lt h.1 (hr.lt h.1)
  have hin := fun t (ht : t ∈ nextsI l n) => cnt_len h (next_in h hr ht)
  have hc := pr_code (l := l) n
  have hkd : (kof (l.getD n ins0).code).1 = kind l n := rfl
  have hk := fun hk => pr_k (l := l) (n := n) hk
  have h13 : kind l n = 13 → (prI l n).k < (pruneI l).length - 1 - cnt l n := by
    intro k2
    have hm : n + 1 + (l.getD n ins0).k ∈ nextsI l n := by unfold nextsI; rw [if_neg (by omega), if_pos k2]; simp
    have h2 := hin _ hm
    have h3 := to_cnt h hr (hnx _ hm).2
    have h4 : (prI l n).k = (toI (sums (reachedOf l)) n (l.getD n ins0).k).toNat := by unfold prI prAt; rw [if_pos k2]
    omega
  have h25 : 25 ≤ kind l n → (prI l n).jt < (pruneI l).length - 1 - cnt l n ∧ (prI l n).jf < (pruneI l).length - 1 - cnt l n := by
    intro k3
    have hm : n + 1 + (l.getD n ins0).jt ∈ nextsI l n := by unfold nextsI; rw [if_neg (by omega), if_neg (by omega), if_pos k3]; simp
    have hm' : n + 1 + (l.getD n ins0).jf ∈ nextsI l n := by unfold nextsI; rw [if_neg (by omega), if_neg (by omega), if_pos k3]; simp
    have h2 := hin _ hm
    have h2' := hin _ hm'
    have h3 := to_cnt h hr (hnx _ hm).2
    have h3' := to_cnt h hr (hnx _ hm').2
    have h4 : (prI l n).jt = (toI (sums (reachedOf l)) n (l.getD n ins0).jt).toNat := by unfold prI prAt; rw [if_neg (by omega), if_pos k3]
    have h4' : (prI l n).jf = (toI (sums (reachedOf l)) n (l.getD n ins0).jf).toNat := by unfold prI prAt; rw [if_neg (by omega), if_pos k3]
    omega
  unfold wrongI at hw ⊢
  rw [hc]
  rw [← hkd] at hk h13 h25
  clear hnx hin hkd hc
  generalize kof (l.getD n ins0).code = kk at *
  obtain ⟨k, x⟩ := kk
  dsimp only at hw hk h13 h25 ⊢
  by_cases e : k = 13
  · have h13 := h13 e
    subst e
    simp at hw ⊢
    omega
  · rw [hk e]
    by_cases e2 : 25 ≤ k
    · have h25 := h25 e2
      repeat' split at hw
      all_goals first | (exfalso; omega) | skip
      repeat' split
      all_goals first | rfl | (exfalso; omega)
    · have e3 : ¬ (k = 13 ∧ (l.length - 1 - n) ≤ (l.getD n ins0).k ∨ 25 ≤ k ∧ (l.length - 1 - n ≤ (l.getD n ins0).jt ∨ l.length - 1 - n ≤ (l.getD n ins0).jf)) := fun h => h.elim (fun h => e h.1) (fun h => e2 h.1)
      rw [if_neg e3] at hw
      have e4 : ¬ (k = 13 ∧ (pruneI l).length - 1 - cnt l n ≤ (l.getD n ins0).k ∨ 25 ≤ k ∧ ((pruneI l).length - 1 - cnt l n ≤ (prI l n).jt ∨ (pruneI l).length - 1 - cnt l n ≤ (prI l n).jf)) := fun h => h.elim (fun h => e h.1) (fun h => e2 h.1)
      rw [if_neg e4]
      exact hw
theorem pruned_formed (h : Right l) : Formed (pruneI l) := by
  have hz : Reached l 0 := .zero
  have hlen := prune_len h
  have hcl : cnt l l.length ≤ l.length := by
    unfold cnt
    have := List.count_le_length (a := true) (l := (reachI l).take l.length)
    rw [List.length_take, reachI_length] at this
    omega
  have hpos := cnt_len h hz
  refine ⟨by omega, by have := h.1.le; omega, fun j hj => ?_, ?_⟩
  · obtain ⟨n, hr, rfl⟩ := prune_at h hj
    rw [prune_get h hr]
    exact pr_wrong h hr
  · obtain ⟨n, hr, hn⟩ := prune_at h (j := (pruneI l).length - 1) (by omega)
    rw [← hn, pr_kind h hr]
    refine Classical.byContradiction fun hk => ?_
    obtain ⟨t, ht⟩ : ∃ t, t ∈ nextsI l n := by
      unfold nextsI
      rw [if_neg hk]
      split
      · exact ⟨_, List.mem_singleton.2 rfl⟩
      · split
        · exact ⟨_, List.mem_cons_self ..⟩
        · exact ⟨_, List.mem_singleton.2 rfl⟩
    have h1 := cnt_lt h.1 hr (nexts_lt h.1 (hr.lt h.1) t ht).1
    have h2 := cnt_len h (next_in h hr ht)
    omega
theorem pr_stop (h : Right l) (c : Nat) : ∀ m, Reached l m → stopC (pruneI l) c (cnt l m) = stopC l c m := by
  intro m hm
  unfold stopC
  rw [pr_kind h hm, prune_get h hm]
  by_cases hk : isStore (kind l m)
  · rw [pr_k (by unfold isStore at hk; omega)]
  · simp [hk]
theorem pruned_right (h : Right l) : Right (pruneI l) := by
  refine ⟨pruned_formed h, fun j hj hk hr => ?_⟩
  obtain ⟨n, hn, rfl⟩ := prune_at h hj
  rw [pr_kind h hn] at hk
  rw [prune_get h hn, pr_k (by omega)] at hr
  obtain ⟨n', h1, h2, h3⟩ := pr_back h (pr_stop h _) hr
  have := cnt_inj h.1 h1 hn h2
  subst this
  exact h.2 n' (hn.lt h.1) hk h3
theorem pruned_reached (h : Right l) {j : Nat} (hj : j < (pruneI l).length) : Reached (pruneI l) j := by
  obtain ⟨n, hn, rfl⟩ := prune_at h hj
  exact (pr_reach h (fun _ _ => rfl) hn).2
theorem prune_nil (h : ¬ Right l) : pruneI l = [] := by
  unfold pruneI reachedOf
  rw [if_neg (fun h0 => h (check_iff.1 h0))]
  rfl
theorem pruned_ok (h : Right l) (hok : okL l) : okL (pruneI l) := by
  intro i hi
  obtain ⟨j, hj, rfl⟩ := List.getElem_of_mem hi
  obtain ⟨n, hn, rfl⟩ := prune_at h hj
  have h1 := prune_get h hn
  have h2 : (pruneI l)[cnt l n] = prI l n := by simpa [List.getD, hj] using h1
  rw [h2]
  have hki := hok.get (hn.lt h.1)
  obtain ⟨a1, a2, a3, a4⟩ := hki
  have hnx := nexts_lt h.1 (hn.lt h.1)
  unfold prI prAt
  split
  · rename_i k2
    have hm : n + 1 + (l.getD n ins0).k ∈ nextsI l n := by unfold nextsI; rw [if_neg (by omega), if_pos k2]; simp
    have h3 := to_cnt h hn (hnx _ hm).2
    exact ⟨a1, a2, a3, by dsimp only; omega⟩
  · split
    · rename_i k2 k3
      have hm : n + 1 + (l.getD n ins0).jt ∈ nextsI l n := by unfold nextsI; rw [if_neg (by omega), if_neg (by omega), if_pos k3]; simp
      have hm' : n + 1 + (l.getD n ins0).jf ∈ nextsI l n := by unfold nextsI; rw [if_neg (by omega), if_neg (by omega), if_pos k3]; simp
      have h3 := to_cnt h hn (hnx _ hm).2
      have h3' := to_cnt h hn (hnx _ hm').2
      exact ⟨a1, by dsimp only; omega, by dsimp only; omega, a4⟩
    · exact ⟨a1, a2, a3, a4⟩
end
end Go.Proofs.W

namespace Go.Proofs.W
open Go.Vl
set_option maxRecDepth 100000

theorem prune_awake : pruneI [⟨5, 0, 0, 1⟩, ⟨132, 0, 0, 0⟩, ⟨22, 0, 0, 0⟩] = [⟨5, 0, 0, 0⟩, ⟨22, 0, 0, 0⟩] := by decide +kernel
theorem awake_spec : Tells Try.prog 11 [] (boolA true) := by
  refine tells_of_aw Try.func11 rfl rfl fun nx => ?_
  (repeat((conv=>whnf);first|apply ω0|apply ω1|apply ω2|refine τ3 rfl ?_|refine τ4 rfl ?_|refine ⟨rfl,?_⟩|apply τa|refine τb rfl ?_|refine ⟨⟨by kernel_rfl,by kernel_rfl⟩,?_⟩|refine ⟨by decide,?_⟩|apply τt|apply τf))
  have hp := prune_spec [⟨5, 0, 0, 1⟩, ⟨132, 0, 0, 0⟩, ⟨22, 0, 0, 0⟩] (by intro i hi; simp at hi; rcases hi with rfl | rfl | rfl <;> simp [Ins.ok]) (by simp)
  rw [prune_awake] at hp
  refine aop_tells rfl rfl hp ⟨AVle.os_sl.trans (AVle.sl_fun (allK_use ⟨⟨⟨trivial, rfl⟩, rfl⟩, rfl⟩)), trivial⟩ fun nx => ?_
  (repeat((conv=>whnf);first|apply ω0|apply ω1|apply ω2|refine τ3 rfl ?_|refine τ4 rfl ?_|refine ⟨rfl,?_⟩|apply τa|refine τb rfl ?_|refine ⟨⟨by kernel_rfl,by kernel_rfl⟩,?_⟩|refine ⟨by decide,?_⟩|apply τt|apply τf))
  refine ret_tells rfl (AVle.refl _)
end Go.Proofs.W

namespace Go.Proofs.W
open Go.Vl
set_option maxRecDepth 100000

def longF (a ts : List Nat) : Nat := ts.foldl (fun x t => max x (a.getD t 0)) 0
def longA (l : List Ins) : Nat → List Nat
  | 0 => List.replicate l.length 0
  | j + 1 => (longA l j).set (l.length - 1 - j) (longF (longA l j) (nextsI l (l.length - 1 - j)) + 1)
def longI (l : List Ins) : Nat := (longA l l.length).getD 0 0
theorem longA_length (l : List Ins) : ∀ j, (longA l j).length = l.length
  | 0 => by simp [longA]
  | j + 1 => by rw [longA, List.length_set, longA_length l j]
theorem longA_zero (l : List Ins) : ∀ j n, n + j < l.length → (longA l j).getD n 0 = 0
  | 0, n, h => by simp [longA, List.getD, List.getElem?_replicate]; split <;> rfl
  | j + 1, n, h => by
    rw [longA, getDL_set, if_neg (by omega)]
    exact longA_zero l j n (by omega)
theorem longF_le {a : List Nat} {b : Nat} (h : ∀ k, a.getD k 0 ≤ b) : ∀ ts, longF a ts ≤ b := by
  intro ts
  unfold longF
  have : ∀ (ts : List Nat) (m : Nat), m ≤ b → ts.foldl (fun x t => max x (a.getD t 0)) m ≤ b := by
    intro ts
    induction ts with
    | nil => intro m hm; exact hm
    | cons t ts ih => intro m hm; rw [List.foldl_cons]; exact ih _ (Nat.max_le.2 ⟨hm, h t⟩)
  exact this ts 0 (by omega)
theorem longA_le (l : List Ins) : ∀ j n, (longA l j).getD n 0 ≤ j
  | 0, n => by simp [longA, List.getD, List.getElem?_replicate]; split <;> simp
  | j + 1, n => by
    rw [longA, getDL_set]
    split
    · have := longF_le (longA_le l j) (nextsI l (l.length - 1 - j)); omega
    · have := longA_le l j n; omega
theorem longF_take {a ts : List Nat} {i : Nat} (hi : i < ts.length) : longF a (ts.take (i + 1)) = max (longF a (ts.take i)) (a.getD (ts.getD i 0) 0) := by
  unfold longF; rw [take_getD 0 hi, List.foldl_append]; rfl
theorem set_same {a : List Nat} {n : Nat} (hn : n < a.length) (h : a.getD n 0 = 0) : a.set n 0 = a := by
  refine List.ext_getElem (by simp) fun k h1 h2 => ?_
  rw [List.getElem_set]
  split
  · rename_i h3; subst h3
    simp only [List.getD, List.getElem?_eq_getElem hn, Option.getD_some] at h
    exact h.symm
  · rfl
theorem longest_spec (l : List Ins) (hok : okL l) (hl : l.length ≤ 1000000000) : Tells Try.prog 7 [inss l] (int (if (checkI l).2 = 0 then longI l else 0 : Nat)) := by
  refine tells_of_aw Try.func7 rfl rfl fun nx => ?_
  (repeat((conv=>whnf);first|apply ω0|apply ω1|apply ω2|refine τ3 rfl ?_|refine τ4 rfl ?_|refine ⟨rfl,?_⟩|apply τa|refine τb rfl ?_|refine ⟨⟨by kernel_rfl,by kernel_rfl⟩,?_⟩|refine ⟨by decide,?_⟩|apply τt|apply τf))
  refine aop_tells rfl rfl (check_spec l hok hl) ⟨AVle.refl _, trivial⟩ fun nx => ?_
  (repeat((conv=>whnf);first|apply ω0|apply ω1|apply ω2|refine τ3 rfl ?_|refine τ4 rfl ?_|refine ⟨rfl,?_⟩|apply τa|refine τb rfl ?_|refine ⟨⟨by kernel_rfl,by kernel_rfl⟩,?_⟩|refine ⟨by decide,?_⟩|apply τt|apply τf))
  intro c g1; cases c
  rotate_left
  · have g1 := bne_yes g1
    (repeat((conv=>whnf);first|apply ω0|apply ω1|apply ω2|refine τ3 rfl ?_|refine τ4 rfl ?_|refine ⟨rfl,?_⟩|apply τa|refine τb rfl ?_|refine ⟨⟨by kernel_rfl,by kernel_rfl⟩,?_⟩|refine ⟨by decide,?_⟩|apply τt|apply τf))
    refine ret_tells rfl ?_
    rw [if_neg (by omega)]
    exact AVle.refl _
  have g1 := bne_no g1
  have hf : Formed l := check_formed (by omega)
  have hle := hf.le
  have hpos := hf.pos
  rw [if_pos (by omega)]
  (repeat((conv=>whnf);first|apply ω0|apply ω1|apply ω2|refine τ3 rfl ?_|refine τ4 rfl ?_|refine ⟨rfl,?_⟩|apply τa|refine τb rfl ?_|refine ⟨⟨by kernel_rfl,by kernel_rfl⟩,?_⟩|refine ⟨by decide,?_⟩|apply τt|apply τf))
  (conv => whnf)
  refine ⟨by omega, by omega, by show ((8 : Nat) : Int) * _ ≤ _; omega, by omega, ?_⟩
  (repeat((conv=>whnf);first|apply ω0|apply ω1|apply ω2|refine τ3 rfl ?_|refine τ4 rfl ?_|refine ⟨rfl,?_⟩|apply τa|refine τb rfl ?_|refine ⟨⟨by kernel_rfl,by kernel_rfl⟩,?_⟩|refine ⟨by decide,?_⟩|apply τt|apply τf))
  refine aw_loop (fun s : Nat × Nat => mk 56 [(0, inss l), (5, .hs (0, nx) 0 l.length l.length), (6, int ((l.length : Int) - 1 - s.1))] ⟨[((0, nx), .c ((longA l s.1).map intA))], [], s.2, 1⟩) (fun s => s.1 ≤ l.length) (fun s => l.length - s.1) ?_ ?_
  · refine ⟨(0, nx + 1), by dsimp only; omega, ele_tell _ _ rfl rfl (List.Sublist.refl _) .slnil ⟨rfl, OwnLe.of_eq ?_, trivial⟩ trivial ⟨AVle.refl _, AVle.refl _, le_int ((wrap_id (by omega) (by omega)).trans (by dsimp only; omega)), trivial⟩⟩
    dsimp only
    rw [longA, List.map_replicate]
    rfl
  · rintro ⟨j, nx'⟩ h1
    dsimp only at h1
    have hlen := longA_length l j
    (repeat((conv=>whnf);first|apply ω0|apply ω1|apply ω2|refine τ3 rfl ?_|refine τ4 rfl ?_|refine ⟨rfl,?_⟩|apply τa|refine τb rfl ?_|refine ⟨⟨by kernel_rfl,by kernel_rfl⟩,?_⟩|refine ⟨by decide,?_⟩|apply τt|apply τf))
    intro c g2; cases c
    · have g2 := not_of g2
      dsimp only at g2
      obtain rfl : j = l.length := by omega
      have he : (0 + (Int.toNat 0) * Try.prog.cellsOf 3) = 0 := by rw [c3]; rfl
      (repeat((conv=>whnf);first|apply ω0|apply ω1|apply ω2|refine τ3 rfl ?_|refine τ4 rfl ?_|refine ⟨rfl,?_⟩|apply τa|refine τb rfl ?_|refine ⟨⟨by kernel_rfl,by kernel_rfl⟩,?_⟩|refine ⟨by decide,?_⟩|apply τt|apply τf))
      refine ⟨⟨by omega, by omega⟩, splitO_eq (b := .bp (0, nx) 0) (congrArg (AV.bp (0, nx)) he) ?_⟩
      (conv => whnf)
      refine ⟨⟨rfl, (by first | omega | (simp only [List.length_map, List.length_set, List.length_cons, List.length_nil, List.length_replicate, List.length_append]; omega))⟩, splitO_eq (b := int ((longA l l.length).getD 0 0 : Nat)) (getD_map (by first | omega | (dsimp only at *; omega) | (simp; done) | (simp; omega))) ?_⟩
      (repeat((conv=>whnf);first|apply ω0|apply ω1|apply ω2|refine τ3 rfl ?_|refine τ4 rfl ?_|refine ⟨rfl,?_⟩|apply τa|refine τb rfl ?_|refine ⟨⟨by kernel_rfl,by kernel_rfl⟩,?_⟩|refine ⟨by decide,?_⟩|apply τt|apply τf))
      exact ret_tells rfl (AVle.refl _)
    · have g2 := yes_of g2
      dsimp only at g2
      obtain ⟨n, hn⟩ : ∃ n, n + 1 + j = l.length := ⟨l.length - 1 - j, by omega⟩
      have hnI : ((l.length : Int) - 1 - j) = (n : Int) := by omega
      have hnN : l.length - 1 - j = n := by omega
      have hnx := nexts_lt hf (n := n) (by omega)
      have hset := set_same (a := longA l j) (n := n) (by omega) (longA_zero l j n (by omega))
      have hm := longA_le l j
      have hstep : longA l (j + 1) = (longA l j).set n (longF (longA l j) (nextsI l n) + 1) := by rw [longA, hnN]
      generalize longA l j = A at *
      have hFle := longF_le hm
      (repeat((conv=>whnf);first|apply ω0|apply ω1|apply ω2|refine τ3 rfl ?_|refine τ4 rfl ?_|refine ⟨rfl,?_⟩|apply τa|refine τb rfl ?_|refine ⟨⟨by kernel_rfl,by kernel_rfl⟩,?_⟩|refine ⟨by decide,?_⟩|apply τt|apply τf))
      refine aop_tells rfl rfl (next_spec l hok hf n (by omega)) ⟨AVle.refl _, le_int (by dsimp only; omega), trivial⟩ fun nx3 => ?_
      have hl2 : ∀ i, i < (nextsI l n).length → (nextsI l n).getD i 0 ∈ nextsI l n := fun i hi => by simp [List.getD, hi]
      have hshort : (nextsI l n).length ≤ 2 := by unfold nextsI; repeat' split
                                                  all_goals simp
      generalize nextsI l n = ts at *
      (repeat((conv=>whnf);first|apply ω0|apply ω1|apply ω2|refine τ3 rfl ?_|refine τ4 rfl ?_|refine ⟨rfl,?_⟩|apply τa|refine τb rfl ?_|refine ⟨⟨by kernel_rfl,by kernel_rfl⟩,?_⟩|refine ⟨by decide,?_⟩|apply τt|apply τf))
      refine aw_loop (fun s : Nat × Nat => mk 56 [(0, inss l), (5, .hs (0, nx) 0 l.length l.length), (6, int n), (28, ints ts), (29, int ts.length), (30, int s.1)] ⟨[((0, nx), .c ((A.set n (longF A (ts.take s.1))).map intA))], [], s.2, 1⟩) (fun s => s.1 ≤ ts.length) (fun s => ts.length - s.1) ?_ ?_
      · refine ⟨(0, nx3), by dsimp only; omega, ele_tell _ _ rfl rfl (List.Sublist.refl _) .slnil ⟨rfl, OwnLe.of_eq ?_, trivial⟩ trivial ⟨AVle.refl _, AVle.refl _, le_int (by dsimp only; omega), AVle.refl _, AVle.refl _, AVle.refl _, trivial⟩⟩
        dsimp only
        rw [show longF A (ts.take 0) = 0 from rfl, hset]
      · rintro ⟨i, nx5⟩ h5
        dsimp only at h5
        have hF := hFle (ts.take i)
        have hit : (0 + (Int.toNat (n : Int)) * Try.prog.cellsOf 3) = n := by rw [c3]; omega
        have hgn : (A.set n (longF A (ts.take i))).getD n 0 = longF A (ts.take i) := by rw [getDL_set, if_pos ⟨rfl, by omega⟩]
        (repeat((conv=>whnf);first|apply ω0|apply ω1|apply ω2|refine τ3 rfl ?_|refine τ4 rfl ?_|refine ⟨rfl,?_⟩|apply τa|refine τb rfl ?_|refine ⟨⟨by kernel_rfl,by kernel_rfl⟩,?_⟩|refine ⟨by decide,?_⟩|apply τt|apply τf))
        intro c g5; cases c
        · have g5 := not_of g5
          dsimp only at g5
          obtain rfl : i = ts.length := by omega
          have hall : longF A (ts.take ts.length) = longF A ts := by rw [List.take_length]
          (repeat((conv=>whnf);first|apply ω0|apply ω1|apply ω2|refine τ3 rfl ?_|refine τ4 rfl ?_|refine ⟨rfl,?_⟩|apply τa|refine τb rfl ?_|refine ⟨⟨by kernel_rfl,by kernel_rfl⟩,?_⟩|refine ⟨by decide,?_⟩|apply τt|apply τf))
          refine ⟨⟨by first | omega | (dsimp only; omega), by first | omega | (dsimp only; omega)⟩, splitO_eq (b := .bp (0, nx) n) (congrArg (AV.bp (0, nx)) hit) ?_⟩
          (conv => whnf)
          refine ⟨⟨rfl, (by first | omega | (simp only [List.length_map, List.length_set, List.length_cons, List.length_nil, List.length_replicate, List.length_append]; omega))⟩, splitO_eq (b := int ((A.set n (longF A (ts.take ts.length))).getD n 0 : Nat)) (getD_map (by first | omega | (simp only [List.length_map, List.length_set, List.length_cons, List.length_nil, List.length_replicate, List.length_append]; omega))) ?_⟩
          (repeat((conv=>whnf);first|apply ω0|apply ω1|apply ω2|refine τ3 rfl ?_|refine τ4 rfl ?_|refine ⟨rfl,?_⟩|apply τa|refine τb rfl ?_|refine ⟨⟨by kernel_rfl,by kernel_rfl⟩,?_⟩|refine ⟨by decide,?_⟩|apply τt|apply τf))
          (conv => whnf)
          refine ⟨⟨by first | omega | (dsimp only; omega), by first | omega | (dsimp only; omega)⟩, splitO_eq (b := .bp (0, nx) n) (congrArg (AV.bp (0, nx)) hit) ?_⟩
          (conv => whnf)
          have hsp : splice ((A.set n (longF A (ts.take ts.length))).map intA) n [AV.v (.int .i64 (IntKind.i64.wrap (((A.set n (longF A (ts.take ts.length))).getD n 0 : Nat) + 1)))] = (A.set n (longF A ts + 1)).map intA := by
            have hw : IntKind.i64.wrap ((longF A ts : Nat) + 1 : Int) = ((longF A ts + 1 : Nat) : Int) := wrap_succ (by have := hFle ts; omega)
            rw [hgn, hall, hw]
            refine (splice_one (f := intA) (x := longF A ts + 1) (by simp; omega)).trans ?_
            rw [List.set_set]
          refine ⟨⟨rfl, (by first | omega | (simp only [List.length_map, List.length_set, List.length_cons, List.length_nil, List.length_replicate, List.length_append]; omega))⟩, ?_⟩
          rw [hsp]
          (repeat((conv=>whnf);first|apply ω0|apply ω1|apply ω2|refine τ3 rfl ?_|refine τ4 rfl ?_|refine ⟨rfl,?_⟩|apply τa|refine τb rfl ?_|refine ⟨⟨by kernel_rfl,by kernel_rfl⟩,?_⟩|refine ⟨by decide,?_⟩|apply τt|apply τf))
          exact back (j + 1, nx5) (by dsimp only; omega) (by dsimp only; omega) (ele_tell _ _ rfl rfl (List.Sublist.refl _) .slnil ⟨rfl, OwnLe.of_eq (by dsimp only; rw [hstep]), trivial⟩ trivial ⟨AVle.refl _, AVle.refl _, le_int ((wrap_id (by omega) (by omega)).trans (by dsimp only; omega)), trivial⟩)
        · have g5 := yes_of g5
          dsimp only at g5
          have hi : i < ts.length := by omega
          have htn := hnx _ (hl2 i hi)
          have hgt : (A.set n (longF A (ts.take i))).getD (ts.getD i 0) 0 = A.getD (ts.getD i 0) 0 := by rw [getDL_set, if_neg (by omega)]
          have htt : (0 + (Int.toNat ((ts.getD i 0 : Nat) : Int)) * Try.prog.cellsOf 3) = ts.getD i 0 := by rw [c3]; omega
          (repeat((conv=>whnf);first|apply ω0|apply ω1|apply ω2|refine τ3 rfl ?_|refine τ4 rfl ?_|refine ⟨rfl,?_⟩|apply τa|refine τb rfl ?_|refine ⟨⟨by kernel_rfl,by kernel_rfl⟩,?_⟩|refine ⟨by decide,?_⟩|apply τt|apply τf))
          refine ⟨⟨by first | omega | (dsimp only; omega), by first | omega | (dsimp only; omega)⟩, ?_⟩
          (repeat((conv=>whnf);first|apply ω0|apply ω1|apply ω2|refine τ3 rfl ?_|refine τ4 rfl ?_|refine ⟨rfl,?_⟩|apply τa|refine τb rfl ?_|refine ⟨⟨by kernel_rfl,by kernel_rfl⟩,?_⟩|refine ⟨by decide,?_⟩|apply τt|apply τf))
          (refine aw_draw 12 ?_ ?_ ?_ ?_; (· kernel_rfl); (· kernel_rfl); (· kernel_rfl))
          (repeat((conv=>whnf);first|apply ω0|apply ω1|apply ω2|refine τ3 rfl ?_|refine τ4 rfl ?_|refine ⟨rfl,?_⟩|apply τa|refine τb rfl ?_|refine ⟨⟨by kernel_rfl,by kernel_rfl⟩,?_⟩|refine ⟨by decide,?_⟩|apply τt|apply τf))
          refine ⟨⟨by first | omega | (dsimp only; omega), by first | omega | (dsimp only; omega)⟩, splitO_eq (b := .bp (0, nx) n) (congrArg (AV.bp (0, nx)) hit) ?_⟩
          (conv => whnf)
          refine ⟨⟨rfl, (by first | omega | (simp only [List.length_map, List.length_set, List.length_cons, List.length_nil, List.length_replicate, List.length_append]; omega))⟩, splitO_eq (b := int (longF A (ts.take i) : Nat)) ((getD_map (d := 0) (by first | omega | (simp only [List.length_map, List.length_set, List.length_cons, List.length_nil, List.length_replicate, List.length_append]; omega))).trans (congrArg intA hgn)) ?_⟩
          (repeat((conv=>whnf);first|apply ω0|apply ω1|apply ω2|refine τ3 rfl ?_|refine τ4 rfl ?_|refine ⟨rfl,?_⟩|apply τa|refine τb rfl ?_|refine ⟨⟨by kernel_rfl,by kernel_rfl⟩,?_⟩|refine ⟨by decide,?_⟩|apply τt|apply τf))
          (conv => whnf)
          refine ⟨⟨(by omega : (0 : Int) ≤ ((ts.getD i 0 : Nat) : Int)), (by omega : ((ts.getD i 0 : Nat) : Int) < (l.length : Int))⟩, splitO_eq (b := .bp (0, nx) (ts.getD i 0)) (congrArg (AV.bp (0, nx)) htt) ?_⟩
          (conv => whnf)
          refine ⟨⟨rfl, (by first | omega | (simp only [List.length_map, List.length_set, List.length_cons, List.length_nil, List.length_replicate, List.length_append]; omega))⟩, splitO_eq (b := int (A.getD (ts.getD i 0) 0 : Nat)) ((getD_map (d := 0) (by first | omega | (simp only [List.length_map, List.length_set, List.length_cons, List.length_nil, List.length_replicate, List.length_append]; omega))).trans (congrArg intA hgt)) ?_⟩
          (repeat((conv=>whnf);first|apply ω0|apply ω1|apply ω2|refine τ3 rfl ?_|refine τ4 rfl ?_|refine ⟨rfl,?_⟩|apply τa|refine τb rfl ?_|refine ⟨⟨by kernel_rfl,by kernel_rfl⟩,?_⟩|refine ⟨by decide,?_⟩|apply τt|apply τf))
          (conv => whnf)
          refine ⟨⟨by first | omega | (dsimp only; omega), by first | omega | (dsimp only; omega)⟩, splitO_eq (b := .bp (0, nx) n) (congrArg (AV.bp (0, nx)) hit) ?_⟩
          (conv => whnf)
          have hmx : (if ((A.getD (ts.getD i 0) 0 : Nat) : Int) > (longF A (ts.take i) : Nat) then ((A.getD (ts.getD i 0) 0 : Nat) : Int) else (longF A (ts.take i) : Nat)) = ((longF A (ts.take (i + 1)) : Nat) : Int) := by
            rw [longF_take hi]; split <;> omega
          have hsp : splice ((A.set n (longF A (ts.take i))).map intA) n [AV.v (.int .i64 (if ((A.getD (ts.getD i 0) 0 : Nat) : Int) > (longF A (ts.take i) : Nat) then ((A.getD (ts.getD i 0) 0 : Nat) : Int) else (longF A (ts.take i) : Nat)))] = (A.set n (longF A (ts.take (i + 1)))).map intA := by
            rw [hmx]
            refine (splice_one (f := intA) (x := longF A (ts.take (i + 1))) (by simp; omega)).trans ?_
            rw [List.set_set]
          refine ⟨⟨rfl, (by first | omega | (simp only [List.length_map, List.length_set, List.length_cons, List.length_nil, List.length_replicate, List.length_append]; omega))⟩, ?_⟩
          rw [hsp]
          (repeat((conv=>whnf);first|apply ω0|apply ω1|apply ω2|refine τ3 rfl ?_|refine τ4 rfl ?_|refine ⟨rfl,?_⟩|apply τa|refine τb rfl ?_|refine ⟨⟨by kernel_rfl,by kernel_rfl⟩,?_⟩|refine ⟨by decide,?_⟩|apply τt|apply τf))
          exact back (i + 1, nx5) (by dsimp only; omega) (by dsimp only; omega) (ele_tell _ _ rfl rfl (List.Sublist.refl _) .slnil ⟨rfl, OwnLe.refl _, trivial⟩ trivial ⟨AVle.refl _, AVle.refl _, AVle.refl _, AVle.refl _, AVle.refl _, le_int (wrap_succ (by dsimp only; omega)), trivial⟩)
end Go.Proofs.W

namespace Go.Proofs.W
open Go.Vl
set_option maxRecDepth 100000

def manyF (a ts : List Nat) : Nat := ts.foldl (fun x t => min (x + a.getD t 0) 5000) (if ts.length = 0 then 1 else 0)
def manyP (a ts : List Nat) (i : Nat) : Nat := (ts.take i).foldl (fun x t => min (x + a.getD t 0) 5000) (if ts.length = 0 then 1 else 0)
theorem manyP_full (a ts : List Nat) : manyP a ts ts.length = manyF a ts := by unfold manyP manyF; rw [List.take_length]
theorem manyP_succ {a ts : List Nat} {i : Nat} (hi : i < ts.length) : manyP a ts (i + 1) = min (manyP a ts i + a.getD (ts.getD i 0) 0) 5000 := by
  unfold manyP; rw [take_getD 0 hi, List.foldl_append]; rfl
theorem manyP_le (a ts : List Nat) : ∀ i, i ≤ ts.length → manyP a ts i ≤ 5000
  | 0, _ => by unfold manyP; simp; split <;> decide
  | i + 1, h => by rw [manyP_succ (by omega)]; exact Nat.min_le_right _ _
def manyA (l : List Ins) : Nat → List Nat
  | 0 => List.replicate l.length 0
  | j + 1 => (manyA l j).set (l.length - 1 - j) (manyF (manyA l j) (nextsI l (l.length - 1 - j)))
theorem manyA_length (l : List Ins) : ∀ j, (manyA l j).length = l.length
  | 0 => by simp [manyA]
  | j + 1 => by rw [manyA, List.length_set, manyA_length l j]
theorem manyA_zero (l : List Ins) : ∀ j n, n + j < l.length → (manyA l j).getD n 0 = 0
  | 0, n, h => by simp [manyA, List.getD, List.getElem?_replicate]; split <;> rfl
  | j + 1, n, h => by
    rw [manyA, getDL_set, if_neg (by omega)]
    exact manyA_zero l j n (by omega)
theorem manyA_le (l : List Ins) : ∀ j n, (manyA l j).getD n 0 ≤ 5000
  | 0, n => by simp [manyA, List.getD, List.getElem?_replicate]; split <;> simp
  | j + 1, n => by
    rw [manyA, getDL_set]
    split
    · rw [← manyP_full]; exact manyP_le _ _ _ (Nat.le_refl _)
    · exact manyA_le l j n
theorem min_add (a b : Nat) : min (min a 5000 + min b 5000) 5000 = min (a + b) 5000 := by omega
theorem manyA_cnt {l : List Ins} (hp : Plain l) : ∀ j n, j ≤ l.length → n < l.length → l.length ≤ n + j → (manyA l j).getD n 0 = min (cntF l l.length n) 5000
  | 0, n, _, hn, h => by omega
  | j + 1, n, hj, hn, h => by
    have hf := hp.formed
    by_cases he : l.length - 1 - j = n
    · have ih := manyA_cnt hp j
      have hnx := nexts_lt hf hn
      have hk := hp.kinds hn
      rw [manyA, he, getDL_set, if_pos ⟨rfl, by rw [manyA_length]; omega⟩]
      obtain ⟨f, hf1⟩ : ∃ f, l.length = f + 1 := ⟨l.length - 1, by omega⟩
      have hc : cntF l l.length n = if kind l n = 14 then 1 else if kind l n = 1 ∨ kind l n = 21 then cntF l f (n + 1) else if 25 ≤ kind l n then cntF l f (n + 1 + (l.getD n ins0).jt) + cntF l f (n + 1 + (l.getD n ins0).jf) else cntF l f (n + 1 + (l.getD n ins0).k) := by rw [hf1]; rfl
      have hmore : ∀ m, n < m → m < l.length → cntF l f m = cntF l l.length m := fun m h1 h2 => by
        have := cntF_more hp f l.length m h2 (by omega) (by omega)
        exact this.symm
      have hone : ∀ m, n < m → m < l.length → manyF (manyA l j) [m] = min (cntF l l.length m) 5000 := fun m h1 h2 => by
        show min (0 + (manyA l j).getD m 0) 5000 = _
        rw [ih m (by omega) h2 (by omega)]; omega
      rw [hc]
      unfold nextsI at hnx ⊢
      by_cases h14 : kind l n = 14
      · rw [if_pos (.inl h14), if_pos h14]; rfl
      rw [if_neg (by omega)] at hnx ⊢
      rw [if_neg h14]
      by_cases h13 : kind l n = 13
      · rw [if_pos h13] at hnx ⊢
        have := hnx _ (List.mem_singleton.2 rfl)
        rw [if_neg (by omega), if_neg (by omega), hmore _ this.1 this.2]
        exact hone _ this.1 this.2
      rw [if_neg h13] at hnx ⊢
      by_cases h25 : 25 ≤ kind l n
      · rw [if_pos h25] at hnx ⊢
        have t1 := hnx (n + 1 + (l.getD n ins0).jt) (by simp)
        have t2 := hnx (n + 1 + (l.getD n ins0).jf) (by simp)
        rw [if_neg (by omega), if_pos h25, hmore _ t1.1 t1.2, hmore _ t2.1 t2.2]
        show min (min (0 + (manyA l j).getD (n + 1 + (l.getD n ins0).jt) 0) 5000 + (manyA l j).getD (n + 1 + (l.getD n ins0).jf) 0) 5000 = _
        rw [ih _ (by omega) t1.2 (by omega), ih _ (by omega) t2.2 (by omega)]
        omega
      · rw [if_neg h25] at hnx ⊢
        have := hnx _ (List.mem_singleton.2 rfl)
        rw [if_pos (by omega), hmore _ this.1 this.2]
        exact hone _ this.1 this.2
    · rw [manyA, getDL_set, if_neg (by omega)]
      exact manyA_cnt hp j n (by omega) hn (by omega)
def manyI (l : List Ins) : List Nat := manyA l l.length
theorem frz_ints {bs : List (Nat × Own)} {s0 : Nat} {o : List Nat} {n : Nat} (hn : o.length = n) (hm : (s0, .c (o.map intA)) ∈ bs) : Frz bs (.hs (0, s0) 0 n n) (ints o) := by
  subst hn
  refine Frz.hs1 (cs := o.map intA) hm (Nat.le_refl _) (by rw [List.length_map]; exact Nat.le_refl _) (fun _ _ => rfl) fun k hk => ?_
  rw [List.getElem?_map, List.getElem?_eq_getElem hk]
  simp [List.getD, hk]
  rfl
end Go.Proofs.W

namespace Go.Proofs.W
open Go.Vl
set_option maxRecDepth 100000

theorem between_spec (o : List Bool) (a m : Nat) (h : a + m ≤ o.length) (hl : o.length ≤ 1000000) : Tells Try.prog 34 [bools o, int a, int m] (int ((o.take (a + m)).count true - (o.take a).count true : Nat)) := by
  have hw : IntKind.i64.wrap ((a : Int) + (m : Int)) = ((a + m : Nat) : Int) := by rw [wrap_id (by omega) (by omega)]; omega
  refine tells_of_aw Try.func34 rfl rfl fun nx => ?_
  (repeat((conv=>whnf);first|apply ω0|apply ω1|apply ω2|refine τ3 rfl ?_|refine τ4 rfl ?_|refine ⟨rfl,?_⟩|apply τa|refine τb rfl ?_|refine ⟨⟨by kernel_rfl,by kernel_rfl⟩,?_⟩|refine ⟨by decide,?_⟩|apply τt|apply τf))
  refine aw_loop (fun y : Nat × Nat => mk 24 [(0, bools o), (1, int a), (2, int m), (7, int ((o.take (a + y.1)).count true - (o.take a).count true : Nat)), (8, int (a + y.1 : Nat))] ⟨[], [], y.2, 0⟩) (fun y => y.1 ≤ m) (fun y => m - y.1) ?_ ?_
  · exact ⟨(0, nx), Nat.zero_le _, ele_keep rfl rfl (List.nil_sublist _) (List.nil_sublist _) ⟨AVle.refl _, AVle.refl _, AVle.refl _, le_int (by simp), AVle.refl _, trivial⟩⟩
  · rintro ⟨i, nx1⟩ h1
    dsimp only at h1
    have hm := count_mono o a i
    (repeat((conv=>whnf);first|apply ω0|apply ω1|apply ω2|refine τ3 rfl ?_|refine τ4 rfl ?_|refine ⟨rfl,?_⟩|apply τa|refine τb rfl ?_|refine ⟨⟨by kernel_rfl,by kernel_rfl⟩,?_⟩|refine ⟨by decide,?_⟩|apply τt|apply τf))
    intro c g; cases c
    · have g : ¬ (((a + i : Nat) : Int) < IntKind.i64.wrap ((a : Int) + (m : Int))) := not_of g
      rw [hw] at g
      obtain rfl : i = m := by omega
      (repeat((conv=>whnf);first|apply ω0|apply ω1|apply ω2|refine τ3 rfl ?_|refine τ4 rfl ?_|refine ⟨rfl,?_⟩|apply τa|refine τb rfl ?_|refine ⟨⟨by kernel_rfl,by kernel_rfl⟩,?_⟩|refine ⟨by decide,?_⟩|apply τt|apply τf))
      exact ret_tells rfl (AVle.refl _)
    · have g : (((a + i : Nat) : Int) < IntKind.i64.wrap ((a : Int) + (m : Int))) := yes_of g
      rw [hw] at g
      have hi : i < m := by omega
      have hct := count_take (o := o) (k := a + i) (by omega)
      (repeat((conv=>whnf);first|apply ω0|apply ω1|apply ω2|refine τ3 rfl ?_|refine τ4 rfl ?_|refine ⟨rfl,?_⟩|apply τa|refine τb rfl ?_|refine ⟨⟨by kernel_rfl,by kernel_rfl⟩,?_⟩|refine ⟨by decide,?_⟩|apply τt|apply τf))
      refine ⟨⟨by first | omega | (dsimp only; omega), by first | omega | (dsimp only; omega)⟩, ?_⟩
      (repeat((conv=>whnf);first|apply ω0|apply ω1|apply ω2|refine τ3 rfl ?_|refine τ4 rfl ?_|refine ⟨rfl,?_⟩|apply τa|refine τb rfl ?_|refine ⟨⟨by kernel_rfl,by kernel_rfl⟩,?_⟩|refine ⟨by decide,?_⟩|apply τt|apply τf))
      intro b hb
      have hb : b = o.getD (a + i) false := hb
      rw [← hb] at hct
      cases b
      · (repeat((conv=>whnf);first|apply ω0|apply ω1|apply ω2|refine τ3 rfl ?_|refine τ4 rfl ?_|refine ⟨rfl,?_⟩|apply τa|refine τb rfl ?_|refine ⟨⟨by kernel_rfl,by kernel_rfl⟩,?_⟩|refine ⟨by decide,?_⟩|apply τt|apply τf))
        exact back (i + 1, _) (by first | omega | (dsimp only at *; omega) | (simp; done) | (simp; omega)) (by first | omega | (dsimp only at *; omega) | (simp; done) | (simp; omega)) (ele_keep rfl rfl (List.nil_sublist _) (List.nil_sublist _) ⟨AVle.refl _, AVle.refl _, AVle.refl _, le_int (by dsimp only; rw [show a + (i + 1) = a + i + 1 from rfl, hct]; rfl), le_int (wrap_succ (by first | omega | (dsimp only at *; omega) | (simp; done) | (simp; omega))), trivial⟩)
      · have hct : (o.take (a + i + 1)).count true = (o.take (a + i)).count true + 1 := hct
        (repeat((conv=>whnf);first|apply ω0|apply ω1|apply ω2|refine τ3 rfl ?_|refine τ4 rfl ?_|refine ⟨rfl,?_⟩|apply τa|refine τb rfl ?_|refine ⟨⟨by kernel_rfl,by kernel_rfl⟩,?_⟩|refine ⟨by decide,?_⟩|apply τt|apply τf))
        exact back (i + 1, _) (by first | omega | (dsimp only at *; omega) | (simp; done) | (simp; omega)) (by first | omega | (dsimp only at *; omega) | (simp; done) | (simp; omega)) (ele_keep rfl rfl (List.nil_sublist _) (List.nil_sublist _) ⟨AVle.refl _, AVle.refl _, AVle.refl _, le_int ((wrap_succ (by first | omega | (dsimp only at *; omega) | (simp; done) | (simp; omega))).trans (by dsimp only; rw [show a + (i + 1) = a + i + 1 from rfl, hct]; omega)), le_int (wrap_succ (by first | omega | (dsimp only at *; omega) | (simp; done) | (simp; omega))), trivial⟩)
theorem cells_insR : Try.prog.cellsOf 47 = 4 := by kernel_rfl
theorem le_snoc4 {out : List Ins} {x : Ins} {f' : Nat → AV} {c s : Nat} (h : f' 0 = insA x) : AVle (.os 4 (out.length + 1) (appF out.length (insF out) f') (some (c, s))) (.os 4 (out ++ [x]).length (insF (out ++ [x])) (nmd (some s))) := by
  refine AVle.trans (b := .os 4 (out.length + 1) (insF (out ++ [x])) (some (c, s))) (AVle.os_fun (appF_one (fun k hk => ?_) ?_)) ?_
  · simp [insF, List.getD, List.getElem?_append_left hk, hk]
  · simp [insF, List.getD]; exact h
  · rw [List.length_append]; exact AVle.os_nm rfl
theorem le_snoc0 {x : Ins} {f f' : Nat → AV} {c s : Nat} (h : f' 0 = insA x) : AVle (.os 4 (0 + 1) (appF 0 f f') (some (c, s))) (.os 4 ([] ++ [x]).length (insF ([] ++ [x])) (nmd (some s))) := by
  refine AVle.trans (AVle.os_fun (f' := appF 0 (insF []) f') fun k hk => ?_) (le_snoc4 (out := []) h)
  obtain rfl : k = 0 := by omega
  rfl
theorem reachedI_spec (l : List Ins) (hok : okL l) (hf : Formed l) : Tells Try.prog 12 [inss l, int (-1)] (bools (reachI l)) := by
  have h := reachedR_spec l hok hf (-1)
  rw [stopZ_neg] at h
  exact h
set_option maxHeartbeats 2000000 in
theorem pruneR_spec (l : List Ins) (hok : okL l) (hR : Right l) : Tells Try.prog 15 [inss l] (inss (pruneI l)) := by
  have hf := hR.1
  have hle := hf.le
  have hro : reachedOf l = reachI l := reachedOf_ok hR
  have hrl : (reachI l).length = l.length := by rw [← hro]; unfold reachedOf; rw [if_pos (check_iff.2 hR)]; exact reachI_length l
  refine tells_of_aw Try.func15 rfl rfl fun nx => ?_
  (repeat((conv=>whnf);first|apply ω0|apply ω1|apply ω2|refine τ3 rfl ?_|refine τ4 rfl ?_|refine ⟨rfl,?_⟩|apply τa|refine τb rfl ?_|refine ⟨⟨by kernel_rfl,by kernel_rfl⟩,?_⟩|refine ⟨by decide,?_⟩|apply τt|apply τf))
  refine aop_tells rfl rfl (reachedI_spec l hok hf) ⟨AVle.refl _, AVle.refl _, trivial⟩ fun nx1 => ?_
  (repeat((conv=>whnf);first|apply ω0|apply ω1|apply ω2|refine τ3 rfl ?_|refine τ4 rfl ?_|refine ⟨rfl,?_⟩|apply τa|refine τb rfl ?_|refine ⟨⟨by kernel_rfl,by kernel_rfl⟩,?_⟩|refine ⟨by decide,?_⟩|apply τt|apply τf))
  refine aw_loop (fun s : Nat × Option Nat × Nat => mk 68 [(0, inss l), (3, bools (reachI l)), (4, .os 4 (prTo l s.1).length (insF (prTo l s.1)) (nmd s.2.1)), (5, int s.1)] ⟨[], pmOf (nmd s.2.1) ((prTo l s.1).length * 4), s.2.2, 0⟩) (fun s => s.1 ≤ l.length ∧ (s.2.1 = none → prTo l s.1 = [])) (fun s => l.length - s.1) ?_ ?_
  · exact ⟨(0, none, nx1), ⟨by simp, fun _ => rfl⟩, ele_mk rfl rfl ⟨AVle.refl _, AVle.refl _, AVle.os_nil, AVle.refl _, trivial⟩⟩
  · rintro ⟨n, oi, nx2⟩ ⟨h3, h4⟩
    dsimp only at h3 h4
    (repeat((conv=>whnf);first|apply ω0|apply ω1|apply ω2|refine τ3 rfl ?_|refine τ4 rfl ?_|refine ⟨rfl,?_⟩|apply τa|refine τb rfl ?_|refine ⟨⟨by kernel_rfl,by kernel_rfl⟩,?_⟩|refine ⟨by decide,?_⟩|apply τt|apply τf))
    intro c h5; cases c
    · have h6 := not_of h5
      dsimp only at h6
      obtain rfl : n = l.length := by omega
      have hp : pruneI l = prTo l l.length := by unfold pruneI; rw [hro, hrl]
      rw [hp]
      (repeat((conv=>whnf);first|apply ω0|apply ω1|apply ω2|refine τ3 rfl ?_|refine τ4 rfl ?_|refine ⟨rfl,?_⟩|apply τa|refine τb rfl ?_|refine ⟨⟨by kernel_rfl,by kernel_rfl⟩,?_⟩|refine ⟨by decide,?_⟩|apply τt|apply τf))
      exact ret_tells rfl AVle.os_sl
    · have h6 := yes_of h5
      dsimp only at h6
      have hn : n < l.length := by omega
      have hsucc := prTo_succ l n
      rw [hro] at hsucc
      have hki : (l.getD n ins0).ok := hok.get hn
      have hof := refof_spec (l.getD n ins0).code hki.1
      have hjm := formed_nexts hf hn
      (repeat((conv=>whnf);first|apply ω0|apply ω1|apply ω2|refine τ3 rfl ?_|refine τ4 rfl ?_|refine ⟨rfl,?_⟩|apply τa|refine τb rfl ?_|refine ⟨⟨by kernel_rfl,by kernel_rfl⟩,?_⟩|refine ⟨by decide,?_⟩|apply τt|apply τf))
      refine ⟨⟨by first | omega | (dsimp only; omega), by first | omega | (dsimp only; omega)⟩, ?_⟩
      (repeat((conv=>whnf);first|apply ω0|apply ω1|apply ω2|refine τ3 rfl ?_|refine τ4 rfl ?_|refine ⟨rfl,?_⟩|apply τa|refine τb rfl ?_|refine ⟨⟨by kernel_rfl,by kernel_rfl⟩,?_⟩|refine ⟨by decide,?_⟩|apply τt|apply τf))
      intro b hb
      have hb : b = (reachI l).getD n false := hb
      rw [← hb] at hsucc
      cases b
      · have hsucc : prTo l (n + 1) = prTo l n := hsucc
        (repeat((conv=>whnf);first|apply ω0|apply ω1|apply ω2|refine τ3 rfl ?_|refine τ4 rfl ?_|refine ⟨rfl,?_⟩|apply τa|refine τb rfl ?_|refine ⟨⟨by kernel_rfl,by kernel_rfl⟩,?_⟩|refine ⟨by decide,?_⟩|apply τt|apply τf))
        exact back (n + 1, oi, _) ⟨by dsimp only; omega, fun h => by dsimp only; rw [hsucc]; exact h4 h⟩ (by dsimp only; omega) (ele_tell _ _ rfl rfl (List.Sublist.refl _) (List.Sublist.refl _) trivial (by dsimp only; rw [hsucc]; exact PmEq.refl _) ⟨AVle.refl _, AVle.refl _, by dsimp only; rw [hsucc]; exact AVle.refl _, le_int (wrap_succ (by omega)), trivial⟩)
      · have hsucc : prTo l (n + 1) = prTo l n ++ [prI l n] := hsucc
        (repeat((conv=>whnf);first|apply ω0|apply ω1|apply ω2|refine τ3 rfl ?_|refine τ4 rfl ?_|refine ⟨rfl,?_⟩|apply τa|refine τb rfl ?_|refine ⟨⟨by kernel_rfl,by kernel_rfl⟩,?_⟩|refine ⟨by decide,?_⟩|apply τt|apply τf))
        refine ⟨⟨by first | omega | (dsimp only; omega), by first | omega | (dsimp only; omega)⟩, ?_⟩
        (repeat((conv=>whnf);first|apply ω0|apply ω1|apply ω2|refine τ3 rfl ?_|refine τ4 rfl ?_|refine ⟨rfl,?_⟩|apply τa|refine τb rfl ?_|refine ⟨⟨by kernel_rfl,by kernel_rfl⟩,?_⟩|refine ⟨by decide,?_⟩|apply τt|apply τf))
        refine aop_tells rfl rfl hof ⟨AVle.refl _, trivial⟩ fun nx3 => ?_
        (repeat((conv=>whnf);first|apply ω0|apply ω1|apply ω2|refine τ3 rfl ?_|refine τ4 rfl ?_|refine ⟨rfl,?_⟩|apply τa|refine τb rfl ?_|refine ⟨⟨by kernel_rfl,by kernel_rfl⟩,?_⟩|refine ⟨by decide,?_⟩|apply τt|apply τf))
        intro cx hx
        obtain rfl : cx = (kof (l.getD n ins0).code).2 := hx
        have hlen := prTo_length l n
        have hkI : (l.getD n ins0).k < 4294967296 := hki.2.2.2
        have hjt : (l.getD n ins0).jt < 256 := hki.2.1
        have hjf : (l.getD n ins0).jf < 256 := hki.2.2.1
        have wn : IntKind.i64.wrap ((n : Int) + 1) = ((n + 1 : Nat) : Int) := wrap_succ (by omega)
        have hkd : kind l n = (kof (l.getD n ins0).code).1 := rfl
        have hpr : prI l n = prAt (sums (reachI l)) n (l.getD n ins0) (kind l n) := by unfold prI; rw [hro]
        rw [hkd] at hpr hjm
        generalize prI l n = x at *
        generalize (kof (l.getD n ins0).code).1 = K at *
        generalize (kof (l.getD n ins0).code).2 = z at *
        rcases (by omega : K = 13 ∨ 25 ≤ K ∨ (K ≠ 13 ∧ K < 25)) with rfl | h25 | ⟨h13, h25⟩
        · have hj := hjm.1 rfl
          have ht := to_sums (o := reachI l) (n := n) (k := (l.getD n ins0).k) (by omega) (by omega)
          have hX : insA x = .ag [u16 (l.getD n ins0).code, u8 (l.getD n ins0).jt, u8 (l.getD n ins0).jf, u32 (IntKind.u32.wrap (((reachI l).take (n + 1 + (l.getD n ins0).k)).count true - ((reachI l).take (n + 1)).count true : Nat))] := by
            rw [hpr]; unfold prAt; rw [if_pos rfl, ← ht.1, u32_wrap ht.2 hkI]; rfl
          have wk : IntKind.i64.wrap ((l.getD n ins0).k : Int) = ((l.getD n ins0).k : Nat) := wrap_id (by omega) (by omega)
          (repeat((conv=>whnf);first|apply ω0|apply ω1|apply ω2|refine τ3 rfl ?_|refine τ4 rfl ?_|refine ⟨rfl,?_⟩|apply τa|refine τb rfl ?_|refine ⟨⟨by kernel_rfl,by kernel_rfl⟩,?_⟩|refine ⟨by decide,?_⟩|apply τt|apply τf))
          refine aop_tells rfl rfl (between_spec (reachI l) (n + 1) (l.getD n ins0).k (by omega) (by omega)) ⟨AVle.refl _, le_int wn, le_int wk, trivial⟩ fun nx4 => ?_
          (repeat((conv=>whnf);first|apply ω0|apply ω1|apply ω2|refine τ3 rfl ?_|refine τ4 rfl ?_|refine ⟨rfl,?_⟩|apply τa|refine τb rfl ?_|refine ⟨⟨by kernel_rfl,by kernel_rfl⟩,?_⟩|refine ⟨by decide,?_⟩|apply τt|apply τf))
          rcases oi with _ | id
          · (repeat((conv=>whnf);first|apply ω0|apply ω1|apply ω2|refine τ3 rfl ?_|refine τ4 rfl ?_|refine ⟨rfl,?_⟩|apply τa|refine τb rfl ?_|refine ⟨⟨by kernel_rfl,by kernel_rfl⟩,?_⟩|refine ⟨by decide,?_⟩|apply τt|apply τf))
            refine ⟨oneRow_one rfl, by show ((prTo l n).length + 1) * 8 ≤ _; omega, by show (prTo l n).length + 1 ≤ _; omega, ?_⟩
            (repeat((conv=>whnf);first|apply ω0|apply ω1|apply ω2|refine τ3 rfl ?_|refine τ4 rfl ?_|refine ⟨rfl,?_⟩|apply τa|refine τb rfl ?_|refine ⟨⟨by kernel_rfl,by kernel_rfl⟩,?_⟩|refine ⟨by decide,?_⟩|apply τt|apply τf))
            exact back (n + 1, some nx4, nx4 + 1) ⟨by dsimp only; omega, fun h => by cases h⟩ (by dsimp only; omega) (ele_tell [] [((1, nx4), ((prTo l n).length + 1) * Try.prog.cellsOf 47)] rfl rfl (List.nil_sublist _) (.cons_cons _ (List.nil_sublist _)) trivial ⟨rfl, by rw [cells_insR, hsucc]; simp, trivial⟩ ⟨AVle.refl _, AVle.refl _, by (conv => arg 1; whnf); dsimp only; rw [hsucc]; exact le_snoc4 hX.symm, le_int (wrap_succ (by omega)), trivial⟩)
          · (repeat((conv=>whnf);first|apply ω0|apply ω1|apply ω2|refine τ3 rfl ?_|refine τ4 rfl ?_|refine ⟨rfl,?_⟩|apply τa|refine τb rfl ?_|refine ⟨⟨by kernel_rfl,by kernel_rfl⟩,?_⟩|refine ⟨by decide,?_⟩|apply τt|apply τf))
            refine ⟨oneRow_one rfl, by show ((prTo l n).length + 1) * 8 ≤ _; omega, by show (prTo l n).length + 1 ≤ _; omega, ?_⟩
            (repeat((conv=>whnf);first|apply ω0|apply ω1|apply ω2|refine τ3 rfl ?_|refine τ4 rfl ?_|refine ⟨rfl,?_⟩|apply τa|refine τb rfl ?_|refine ⟨⟨by kernel_rfl,by kernel_rfl⟩,?_⟩|refine ⟨by decide,?_⟩|apply τt|apply τf))
            exact back (n + 1, some nx4, nx4 + 1) ⟨by dsimp only; omega, fun h => by cases h⟩ (by dsimp only; omega) (ele_tell [] [((1, nx4), ((prTo l n).length + 1) * Try.prog.cellsOf 47)] rfl rfl (List.nil_sublist _) (.cons_cons _ (List.nil_sublist _)) trivial ⟨rfl, by rw [cells_insR, hsucc]; simp, trivial⟩ ⟨AVle.refl _, AVle.refl _, by (conv => arg 1; whnf); dsimp only; rw [hsucc]; exact le_snoc4 hX.symm, le_int (wrap_succ (by omega)), trivial⟩)
        · have hj := hjm.2.1 h25
          have ht := to_sums (o := reachI l) (n := n) (k := (l.getD n ins0).jt) (by omega) (by omega)
          have hu := to_sums (o := reachI l) (n := n) (k := (l.getD n ins0).jf) (by omega) (by omega)
          have hX : insA x = .ag [u16 (l.getD n ins0).code, u8 (IntKind.u8.wrap (((reachI l).take (n + 1 + (l.getD n ins0).jt)).count true - ((reachI l).take (n + 1)).count true : Nat)), u8 (IntKind.u8.wrap (((reachI l).take (n + 1 + (l.getD n ins0).jf)).count true - ((reachI l).take (n + 1)).count true : Nat)), u32 (l.getD n ins0).k] := by
            rw [hpr]; unfold prAt; rw [if_neg (by omega), if_pos h25, ← ht.1, ← hu.1, u8_wrap ht.2 hjt, u8_wrap hu.2 hjf]; rfl
          have wjt : IntKind.i64.wrap ((l.getD n ins0).jt : Int) = ((l.getD n ins0).jt : Nat) := wrap_id (by omega) (by omega)
          have wjf : IntKind.i64.wrap ((l.getD n ins0).jf : Int) = ((l.getD n ins0).jf : Nat) := wrap_id (by omega) (by omega)
          (repeat((conv=>whnf);first|apply ω0|apply ω1|apply ω2|refine τ3 rfl ?_|refine τ4 rfl ?_|refine ⟨rfl,?_⟩|apply τa|refine τb rfl ?_|refine ⟨⟨by kernel_rfl,by kernel_rfl⟩,?_⟩|refine ⟨by decide,?_⟩|apply τt|apply τf))
          (intro c hc; obtain rfl : c = false := hc.trans (by first | exact decide_eq_false (by omega) | (simp; omega)); (repeat((conv=>whnf);first|apply ω0|apply ω1|apply ω2|refine τ3 rfl ?_|refine τ4 rfl ?_|refine ⟨rfl,?_⟩|apply τa|refine τb rfl ?_|refine ⟨⟨by kernel_rfl,by kernel_rfl⟩,?_⟩|refine ⟨by decide,?_⟩|apply τt|apply τf)))
          (intro c hc; obtain rfl : c = true := hc.trans (by first | exact decide_eq_true (by omega) | (simp; omega)); (repeat((conv=>whnf);first|apply ω0|apply ω1|apply ω2|refine τ3 rfl ?_|refine τ4 rfl ?_|refine ⟨rfl,?_⟩|apply τa|refine τb rfl ?_|refine ⟨⟨by kernel_rfl,by kernel_rfl⟩,?_⟩|refine ⟨by decide,?_⟩|apply τt|apply τf)))
          refine aw_drawZ (ds := .int .i64) (kd := .u8) 17 15 (by kernel_rfl) (by kernel_rfl) (by kernel_rfl) rfl rfl rfl (by kernel_rfl) (by kernel_rfl) (by decide) ?_
          (repeat((conv=>whnf);first|apply ω0|apply ω1|apply ω2|refine τ3 rfl ?_|refine τ4 rfl ?_|refine ⟨rfl,?_⟩|apply τa|refine τb rfl ?_|refine ⟨⟨by kernel_rfl,by kernel_rfl⟩,?_⟩|refine ⟨by decide,?_⟩|apply τt|apply τf))
          refine ex_yields (yields_tells rfl rfl (between_spec (reachI l) (n + 1) (l.getD n ins0).jt (by omega) (by omega)) ⟨AVle.refl _, le_int wn, le_int wjt, trivial⟩ (NoId.v _)) ?_
          (repeat((conv=>whnf);first|apply ω0|apply ω1|apply ω2|refine τ3 rfl ?_|refine τ4 rfl ?_|refine ⟨rfl,?_⟩|apply τa|refine τb rfl ?_|refine ⟨⟨by kernel_rfl,by kernel_rfl⟩,?_⟩|refine ⟨by decide,?_⟩|apply τt|apply τf))
          refine ex_yields (yields_tells rfl rfl (between_spec (reachI l) (n + 1) (l.getD n ins0).jf (by omega) (by omega)) ⟨AVle.refl _, le_int wn, le_int wjf, trivial⟩ (NoId.v _)) ?_
          (repeat((conv=>whnf);first|apply ω0|apply ω1|apply ω2|refine τ3 rfl ?_|refine τ4 rfl ?_|refine ⟨rfl,?_⟩|apply τa|refine τb rfl ?_|refine ⟨⟨by kernel_rfl,by kernel_rfl⟩,?_⟩|refine ⟨by decide,?_⟩|apply τt|apply τf))
          refine ⟨⟨_, _, rfl⟩, ?_⟩
          (repeat((conv=>whnf);first|apply ω0|apply ω1|apply ω2|refine τ3 rfl ?_|refine τ4 rfl ?_|refine ⟨rfl,?_⟩|apply τa|refine τb rfl ?_|refine ⟨⟨by kernel_rfl,by kernel_rfl⟩,?_⟩|refine ⟨by decide,?_⟩|apply τt|apply τf))
          rcases oi with _ | id
          · (repeat((conv=>whnf);first|apply ω0|apply ω1|apply ω2|refine τ3 rfl ?_|refine τ4 rfl ?_|refine ⟨rfl,?_⟩|apply τa|refine τb rfl ?_|refine ⟨⟨by kernel_rfl,by kernel_rfl⟩,?_⟩|refine ⟨by decide,?_⟩|apply τt|apply τf))
            refine ⟨oneRow_one rfl, by show ((prTo l n).length + 1) * 8 ≤ _; omega, by show (prTo l n).length + 1 ≤ _; omega, ?_⟩
            (repeat((conv=>whnf);first|apply ω0|apply ω1|apply ω2|refine τ3 rfl ?_|refine τ4 rfl ?_|refine ⟨rfl,?_⟩|apply τa|refine τb rfl ?_|refine ⟨⟨by kernel_rfl,by kernel_rfl⟩,?_⟩|refine ⟨by decide,?_⟩|apply τt|apply τf))
            exact back (n + 1, some nx3, nx3 + 1) ⟨by dsimp only; omega, fun h => by cases h⟩ (by dsimp only; omega) (ele_tell [] [((1, nx3), ((prTo l n).length + 1) * Try.prog.cellsOf 47)] rfl rfl (List.nil_sublist _) (.cons_cons _ (List.nil_sublist _)) trivial ⟨rfl, by rw [cells_insR, hsucc]; simp, trivial⟩ ⟨AVle.refl _, AVle.refl _, by (conv => arg 1; whnf); dsimp only; rw [hsucc]; exact le_snoc4 hX.symm, le_int (wrap_succ (by omega)), trivial⟩)
          · (repeat((conv=>whnf);first|apply ω0|apply ω1|apply ω2|refine τ3 rfl ?_|refine τ4 rfl ?_|refine ⟨rfl,?_⟩|apply τa|refine τb rfl ?_|refine ⟨⟨by kernel_rfl,by kernel_rfl⟩,?_⟩|refine ⟨by decide,?_⟩|apply τt|apply τf))
            refine ⟨oneRow_one rfl, by show ((prTo l n).length + 1) * 8 ≤ _; omega, by show (prTo l n).length + 1 ≤ _; omega, ?_⟩
            (repeat((conv=>whnf);first|apply ω0|apply ω1|apply ω2|refine τ3 rfl ?_|refine τ4 rfl ?_|refine ⟨rfl,?_⟩|apply τa|refine τb rfl ?_|refine ⟨⟨by kernel_rfl,by kernel_rfl⟩,?_⟩|refine ⟨by decide,?_⟩|apply τt|apply τf))
            exact back (n + 1, some nx3, nx3 + 1) ⟨by dsimp only; omega, fun h => by cases h⟩ (by dsimp only; omega) (ele_tell [] [((1, nx3), ((prTo l n).length + 1) * Try.prog.cellsOf 47)] rfl rfl (List.nil_sublist _) (.cons_cons _ (List.nil_sublist _)) trivial ⟨rfl, by rw [cells_insR, hsucc]; simp, trivial⟩ ⟨AVle.refl _, AVle.refl _, by (conv => arg 1; whnf); dsimp only; rw [hsucc]; exact le_snoc4 hX.symm, le_int (wrap_succ (by omega)), trivial⟩)
        · have hX : x = l.getD n ins0 := by rw [hpr]; unfold prAt; rw [if_neg h13, if_neg (by omega)]
          (repeat((conv=>whnf);first|apply ω0|apply ω1|apply ω2|refine τ3 rfl ?_|refine τ4 rfl ?_|refine ⟨rfl,?_⟩|apply τa|refine τb rfl ?_|refine ⟨⟨by kernel_rfl,by kernel_rfl⟩,?_⟩|refine ⟨by decide,?_⟩|apply τt|apply τf))
          (intro c hc; obtain rfl : c = false := hc.trans (by first | exact decide_eq_false (by omega) | (simp; omega)); (repeat((conv=>whnf);first|apply ω0|apply ω1|apply ω2|refine τ3 rfl ?_|refine τ4 rfl ?_|refine ⟨rfl,?_⟩|apply τa|refine τb rfl ?_|refine ⟨⟨by kernel_rfl,by kernel_rfl⟩,?_⟩|refine ⟨by decide,?_⟩|apply τt|apply τf)))
          (intro c hc; obtain rfl : c = false := hc.trans (by first | exact decide_eq_false (by omega) | (simp; omega)); (repeat((conv=>whnf);first|apply ω0|apply ω1|apply ω2|refine τ3 rfl ?_|refine τ4 rfl ?_|refine ⟨rfl,?_⟩|apply τa|refine τb rfl ?_|refine ⟨⟨by kernel_rfl,by kernel_rfl⟩,?_⟩|refine ⟨by decide,?_⟩|apply τt|apply τf)))
          rcases oi with _ | id
          · (repeat((conv=>whnf);first|apply ω0|apply ω1|apply ω2|refine τ3 rfl ?_|refine τ4 rfl ?_|refine ⟨rfl,?_⟩|apply τa|refine τb rfl ?_|refine ⟨⟨by kernel_rfl,by kernel_rfl⟩,?_⟩|refine ⟨by decide,?_⟩|apply τt|apply τf))
            refine ⟨oneRow_one rfl, by show ((prTo l n).length + 1) * 8 ≤ _; omega, by show (prTo l n).length + 1 ≤ _; omega, ?_⟩
            (repeat((conv=>whnf);first|apply ω0|apply ω1|apply ω2|refine τ3 rfl ?_|refine τ4 rfl ?_|refine ⟨rfl,?_⟩|apply τa|refine τb rfl ?_|refine ⟨⟨by kernel_rfl,by kernel_rfl⟩,?_⟩|refine ⟨by decide,?_⟩|apply τt|apply τf))
            exact back (n + 1, some nx3, nx3 + 1) ⟨by dsimp only; omega, fun h => by cases h⟩ (by dsimp only; omega) (ele_tell [] [((1, nx3), ((prTo l n).length + 1) * Try.prog.cellsOf 47)] rfl rfl (List.nil_sublist _) (.cons_cons _ (List.nil_sublist _)) trivial ⟨rfl, by rw [cells_insR, hsucc]; simp, trivial⟩ ⟨AVle.refl _, AVle.refl _, by (conv => arg 1; whnf); dsimp only; rw [hsucc]; exact le_snoc4 (by rw [hX]; rfl), le_int (wrap_succ (by omega)), trivial⟩)
          · (repeat((conv=>whnf);first|apply ω0|apply ω1|apply ω2|refine τ3 rfl ?_|refine τ4 rfl ?_|refine ⟨rfl,?_⟩|apply τa|refine τb rfl ?_|refine ⟨⟨by kernel_rfl,by kernel_rfl⟩,?_⟩|refine ⟨by decide,?_⟩|apply τt|apply τf))
            refine ⟨oneRow_one rfl, by show ((prTo l n).length + 1) * 8 ≤ _; omega, by show (prTo l n).length + 1 ≤ _; omega, ?_⟩
            (repeat((conv=>whnf);first|apply ω0|apply ω1|apply ω2|refine τ3 rfl ?_|refine τ4 rfl ?_|refine ⟨rfl,?_⟩|apply τa|refine τb rfl ?_|refine ⟨⟨by kernel_rfl,by kernel_rfl⟩,?_⟩|refine ⟨by decide,?_⟩|apply τt|apply τf))
            exact back (n + 1, some nx3, nx3 + 1) ⟨by dsimp only; omega, fun h => by cases h⟩ (by dsimp only; omega) (ele_tell [] [((1, nx3), ((prTo l n).length + 1) * Try.prog.cellsOf 47)] rfl rfl (List.nil_sublist _) (.cons_cons _ (List.nil_sublist _)) trivial ⟨rfl, by rw [cells_insR, hsucc]; simp, trivial⟩ ⟨AVle.refl _, AVle.refl _, by (conv => arg 1; whnf); dsimp only; rw [hsucc]; exact le_snoc4 (by rw [hX]; rfl), le_int (wrap_succ (by omega)), trivial⟩)
end Go.Proofs.W

namespace Go.Proofs.W
open Go.Vl
set_option maxRecDepth 100000

theorem longestR_spec (l : List Ins) (hok : okL l) (hf : Formed l) : Tells Try.prog 16 [inss l] (int (longI l : Nat)) := by
  have hle := hf.le
  have hpos := hf.pos
  refine tells_of_aw Try.func16 rfl rfl fun nx => ?_
  (repeat((conv=>whnf);first|apply ω0|apply ω1|apply ω2|refine τ3 rfl ?_|refine τ4 rfl ?_|refine ⟨rfl,?_⟩|apply τa|refine τb rfl ?_|refine ⟨⟨by kernel_rfl,by kernel_rfl⟩,?_⟩|refine ⟨by decide,?_⟩|apply τt|apply τf))
  (conv => whnf)
  refine ⟨by omega, by omega, by show ((8 : Nat) : Int) * _ ≤ _; omega, by omega, ?_⟩
  (repeat((conv=>whnf);first|apply ω0|apply ω1|apply ω2|refine τ3 rfl ?_|refine τ4 rfl ?_|refine ⟨rfl,?_⟩|apply τa|refine τb rfl ?_|refine ⟨⟨by kernel_rfl,by kernel_rfl⟩,?_⟩|refine ⟨by decide,?_⟩|apply τt|apply τf))
  refine aw_loop (fun s : Nat × Nat => mk 48 [(0, inss l), (3, .hs (0, nx) 0 l.length l.length), (4, int ((l.length : Int) - 1 - s.1))] ⟨[((0, nx), .c ((longA l s.1).map intA))], [], s.2, 1⟩) (fun s => s.1 ≤ l.length) (fun s => l.length - s.1) ?_ ?_
  · refine ⟨(0, nx + 1), by dsimp only; omega, ele_tell _ _ rfl rfl (List.Sublist.refl _) .slnil ⟨rfl, OwnLe.of_eq ?_, trivial⟩ trivial ⟨AVle.refl _, AVle.refl _, le_int ((wrap_id (by omega) (by omega)).trans (by dsimp only; omega)), trivial⟩⟩
    dsimp only
    rw [longA, List.map_replicate]
    rfl
  · rintro ⟨j, nx'⟩ h1
    dsimp only at h1
    have hlen := longA_length l j
    (repeat((conv=>whnf);first|apply ω0|apply ω1|apply ω2|refine τ3 rfl ?_|refine τ4 rfl ?_|refine ⟨rfl,?_⟩|apply τa|refine τb rfl ?_|refine ⟨⟨by kernel_rfl,by kernel_rfl⟩,?_⟩|refine ⟨by decide,?_⟩|apply τt|apply τf))
    intro c g2; cases c
    · have g2 := not_of g2
      dsimp only at g2
      obtain rfl : j = l.length := by omega
      have he : (0 + (Int.toNat 0) * Try.prog.cellsOf 3) = 0 := by rw [c3]; rfl
      (repeat((conv=>whnf);first|apply ω0|apply ω1|apply ω2|refine τ3 rfl ?_|refine τ4 rfl ?_|refine ⟨rfl,?_⟩|apply τa|refine τb rfl ?_|refine ⟨⟨by kernel_rfl,by kernel_rfl⟩,?_⟩|refine ⟨by decide,?_⟩|apply τt|apply τf))
      refine ⟨⟨by simp, (by first | omega | (dsimp only at *; omega) | (simp; done) | (simp; omega))⟩, splitO_eq (b := .bp (0, nx) 0) (congrArg (AV.bp (0, nx)) he) ?_⟩
      (conv => whnf)
      refine ⟨⟨rfl, (by first | omega | (simp only [List.length_map, List.length_set, List.length_cons, List.length_nil, List.length_replicate, List.length_append]; omega))⟩, splitO_eq (b := int ((longA l l.length).getD 0 0 : Nat)) (getD_map (by first | omega | (simp only [List.length_map, List.length_set, List.length_cons, List.length_nil, List.length_replicate, List.length_append]; omega))) ?_⟩
      (repeat((conv=>whnf);first|apply ω0|apply ω1|apply ω2|refine τ3 rfl ?_|refine τ4 rfl ?_|refine ⟨rfl,?_⟩|apply τa|refine τb rfl ?_|refine ⟨⟨by kernel_rfl,by kernel_rfl⟩,?_⟩|refine ⟨by decide,?_⟩|apply τt|apply τf))
      exact ret_tells rfl (AVle.refl _)
    · have g2 := yes_of g2
      dsimp only at g2
      obtain ⟨n, hn⟩ : ∃ n, n + 1 + j = l.length := ⟨l.length - 1 - j, by omega⟩
      have hnI : ((l.length : Int) - 1 - j) = (n : Int) := by omega
      have hnN : l.length - 1 - j = n := by omega
      have hnx := nexts_lt hf (n := n) (by omega)
      have hm := longA_le l j
      have hstep : longA l (j + 1) = (longA l j).set n (longF (longA l j) (nextsI l n) + 1) := by rw [longA, hnN]
      generalize longA l j = A at *
      have hFle := longF_le hm
      (repeat((conv=>whnf);first|apply ω0|apply ω1|apply ω2|refine τ3 rfl ?_|refine τ4 rfl ?_|refine ⟨rfl,?_⟩|apply τa|refine τb rfl ?_|refine ⟨⟨by kernel_rfl,by kernel_rfl⟩,?_⟩|refine ⟨by decide,?_⟩|apply τt|apply τf))
      refine aop_tells rfl rfl (nextR_spec l hok hf n (by omega)) ⟨AVle.refl _, le_int (by dsimp only; omega), trivial⟩ fun nx3 => ?_
      have hl2 : ∀ i, i < (nextsI l n).length → (nextsI l n).getD i 0 ∈ nextsI l n := fun i hi => by simp [List.getD, hi]
      have hshort : (nextsI l n).length ≤ 2 := by unfold nextsI; repeat' split
                                                  all_goals simp
      generalize nextsI l n = ts at *
      have hit : (0 + (Int.toNat (n : Int)) * Try.prog.cellsOf 3) = n := by rw [c3]; omega
      (repeat((conv=>whnf);first|apply ω0|apply ω1|apply ω2|refine τ3 rfl ?_|refine τ4 rfl ?_|refine ⟨rfl,?_⟩|apply τa|refine τb rfl ?_|refine ⟨⟨by kernel_rfl,by kernel_rfl⟩,?_⟩|refine ⟨by decide,?_⟩|apply τt|apply τf))
      refine ⟨⟨by dsimp only; omega, by dsimp only; omega⟩, splitO_eq (b := .bp (0, nx) n) (congrArg (AV.bp (0, nx)) (show 0 + Int.toNat ((l.length : Int) - 1 - (j : Nat)) * Try.prog.cellsOf 3 = n by rw [hnI]; exact hit)) ?_⟩
      (conv => whnf)
      refine ⟨⟨rfl, (by first | omega | (simp only [List.length_map, List.length_set, List.length_cons, List.length_nil, List.length_replicate, List.length_append]; omega))⟩, ?_⟩
      rw [show splice (A.map intA) n [AV.v (.int .i64 1)] = (A.set n 1).map intA from splice_one (f := intA) (x := 1) (by omega)]
      (repeat((conv=>whnf);first|apply ω0|apply ω1|apply ω2|refine τ3 rfl ?_|refine τ4 rfl ?_|refine ⟨rfl,?_⟩|apply τa|refine τb rfl ?_|refine ⟨⟨by kernel_rfl,by kernel_rfl⟩,?_⟩|refine ⟨by decide,?_⟩|apply τt|apply τf))
      refine aw_loop (fun s : Nat × Nat => mk 48 [(0, inss l), (3, .hs (0, nx) 0 l.length l.length), (4, int n), (5, ints ts), (6, int s.1)] ⟨[((0, nx), .c ((A.set n (longF A (ts.take s.1) + 1)).map intA))], [], s.2, 1⟩) (fun s => s.1 ≤ ts.length) (fun s => ts.length - s.1) ?_ ?_
      · exact ⟨(0, nx3), Nat.zero_le _, ele_tell _ _ rfl rfl (List.Sublist.refl _) .slnil ⟨rfl, OwnLe.of_eq rfl, trivial⟩ trivial ⟨AVle.refl _, AVle.refl _, le_int (by dsimp only; omega), AVle.refl _, AVle.refl _, trivial⟩⟩
      · rintro ⟨i, nx5⟩ h5
        dsimp only at h5
        have hF := hFle (ts.take i)
        have hgn : (A.set n (longF A (ts.take i) + 1)).getD n 0 = longF A (ts.take i) + 1 := by rw [getDL_set, if_pos ⟨rfl, by omega⟩]
        (repeat((conv=>whnf);first|apply ω0|apply ω1|apply ω2|refine τ3 rfl ?_|refine τ4 rfl ?_|refine ⟨rfl,?_⟩|apply τa|refine τb rfl ?_|refine ⟨⟨by kernel_rfl,by kernel_rfl⟩,?_⟩|refine ⟨by decide,?_⟩|apply τt|apply τf))
        intro c g5; cases c
        · have g5 := not_of g5
          dsimp only at g5
          obtain rfl : i = ts.length := by omega
          (repeat((conv=>whnf);first|apply ω0|apply ω1|apply ω2|refine τ3 rfl ?_|refine τ4 rfl ?_|refine ⟨rfl,?_⟩|apply τa|refine τb rfl ?_|refine ⟨⟨by kernel_rfl,by kernel_rfl⟩,?_⟩|refine ⟨by decide,?_⟩|apply τt|apply τf))
          exact back (j + 1, nx5) (by dsimp only; omega) (by dsimp only; omega) (ele_tell _ _ rfl rfl (List.Sublist.refl _) .slnil ⟨rfl, OwnLe.of_eq (by dsimp only; rw [hstep, List.take_length]), trivial⟩ trivial ⟨AVle.refl _, AVle.refl _, le_int ((wrap_id (by omega) (by omega)).trans (by dsimp only; omega)), trivial⟩)
        · have g5 := yes_of g5
          dsimp only at g5
          have hi : i < ts.length := by omega
          have htn := hnx _ (hl2 i hi)
          have hAt := hm (ts.getD i 0)
          have hgt : (A.set n (longF A (ts.take i) + 1)).getD (ts.getD i 0) 0 = A.getD (ts.getD i 0) 0 := by rw [getDL_set, if_neg (by omega)]
          have htt : (0 + (Int.toNat ((ts.getD i 0 : Nat) : Int)) * Try.prog.cellsOf 3) = ts.getD i 0 := by rw [c3]; omega
          have hsucc := longF_take (a := A) hi
          (repeat((conv=>whnf);first|apply ω0|apply ω1|apply ω2|refine τ3 rfl ?_|refine τ4 rfl ?_|refine ⟨rfl,?_⟩|apply τa|refine τb rfl ?_|refine ⟨⟨by kernel_rfl,by kernel_rfl⟩,?_⟩|refine ⟨by decide,?_⟩|apply τt|apply τf))
          (refine aw_draw 15 ?_ ?_ ?_ ?_; (· kernel_rfl); (· kernel_rfl); (· kernel_rfl))
          (repeat((conv=>whnf);first|apply ω0|apply ω1|apply ω2|refine τ3 rfl ?_|refine τ4 rfl ?_|refine ⟨rfl,?_⟩|apply τa|refine τb rfl ?_|refine ⟨⟨by kernel_rfl,by kernel_rfl⟩,?_⟩|refine ⟨by decide,?_⟩|apply τt|apply τf))
          refine ⟨⟨by first | omega | (dsimp only; omega), by first | omega | (dsimp only; omega)⟩, splitO_eq (b := .bp (0, nx) n) (congrArg (AV.bp (0, nx)) hit) ?_⟩
          (conv => whnf)
          refine ⟨⟨rfl, (by first | omega | (simp only [List.length_map, List.length_set, List.length_cons, List.length_nil, List.length_replicate, List.length_append]; omega))⟩, splitO_eq (b := int (longF A (ts.take i) + 1 : Nat)) ((getD_map (d := 0) (by first | omega | (simp only [List.length_map, List.length_set, List.length_cons, List.length_nil, List.length_replicate, List.length_append]; omega))).trans (congrArg intA hgn)) ?_⟩
          (repeat((conv=>whnf);first|apply ω0|apply ω1|apply ω2|refine τ3 rfl ?_|refine τ4 rfl ?_|refine ⟨rfl,?_⟩|apply τa|refine τb rfl ?_|refine ⟨⟨by kernel_rfl,by kernel_rfl⟩,?_⟩|refine ⟨by decide,?_⟩|apply τt|apply τf))
          refine ⟨⟨by first | omega | (dsimp only; omega), by first | omega | (dsimp only; omega)⟩, ?_⟩
          (repeat((conv=>whnf);first|apply ω0|apply ω1|apply ω2|refine τ3 rfl ?_|refine τ4 rfl ?_|refine ⟨rfl,?_⟩|apply τa|refine τb rfl ?_|refine ⟨⟨by kernel_rfl,by kernel_rfl⟩,?_⟩|refine ⟨by decide,?_⟩|apply τt|apply τf))
          (conv => whnf)
          refine ⟨⟨(by omega : (0 : Int) ≤ ((ts.getD i 0 : Nat) : Int)), (by omega : ((ts.getD i 0 : Nat) : Int) < (l.length : Int))⟩, splitO_eq (b := .bp (0, nx) (ts.getD i 0)) (congrArg (AV.bp (0, nx)) htt) ?_⟩
          (conv => whnf)
          refine ⟨⟨rfl, (by first | omega | (simp only [List.length_map, List.length_set, List.length_cons, List.length_nil, List.length_replicate, List.length_append]; omega))⟩, splitO_eq (b := int (A.getD (ts.getD i 0) 0 : Nat)) ((getD_map (d := 0) (by first | omega | (simp only [List.length_map, List.length_set, List.length_cons, List.length_nil, List.length_replicate, List.length_append]; omega))).trans (congrArg intA hgt)) ?_⟩
          (repeat((conv=>whnf);first|apply ω0|apply ω1|apply ω2|refine τ3 rfl ?_|refine τ4 rfl ?_|refine ⟨rfl,?_⟩|apply τa|refine τb rfl ?_|refine ⟨⟨by kernel_rfl,by kernel_rfl⟩,?_⟩|refine ⟨by decide,?_⟩|apply τt|apply τf))
          (conv => whnf)
          refine ⟨⟨by first | omega | (dsimp only; omega), by first | omega | (dsimp only; omega)⟩, splitO_eq (b := .bp (0, nx) n) (congrArg (AV.bp (0, nx)) hit) ?_⟩
          (conv => whnf)
          refine ⟨⟨rfl, (by first | omega | (simp only [List.length_map, List.length_set, List.length_cons, List.length_nil, List.length_replicate, List.length_append]; omega))⟩, ?_⟩
          have hw : IntKind.i64.wrap (1 + ((A.getD (ts.getD i 0) 0 : Nat) : Int)) = ((A.getD (ts.getD i 0) 0 + 1 : Nat) : Int) := by rw [wrap_id (by omega) (by omega)]; omega
          have hmx : (if IntKind.i64.wrap (1 + ((A.getD (ts.getD i 0) 0 : Nat) : Int)) > ((longF A (ts.take i) + 1 : Nat) : Int) then IntKind.i64.wrap (1 + ((A.getD (ts.getD i 0) 0 : Nat) : Int)) else ((longF A (ts.take i) + 1 : Nat) : Int)) = ((longF A (ts.take (i + 1)) + 1 : Nat) : Int) := by
            rw [hw, hsucc]; split <;> omega
          rw [show splice ((A.set n (longF A (ts.take i) + 1)).map intA) n [AV.v (.int .i64 (if IntKind.i64.wrap (1 + ((A.getD (ts.getD i 0) 0 : Nat) : Int)) > ((longF A (ts.take i) + 1 : Nat) : Int) then IntKind.i64.wrap (1 + ((A.getD (ts.getD i 0) 0 : Nat) : Int)) else ((longF A (ts.take i) + 1 : Nat) : Int)))] = (A.set n (longF A (ts.take (i + 1)) + 1)).map intA by
            rw [hmx]
            refine (splice_one (f := intA) (x := longF A (ts.take (i + 1)) + 1) (by simp; omega)).trans ?_
            rw [List.set_set]]
          (repeat((conv=>whnf);first|apply ω0|apply ω1|apply ω2|refine τ3 rfl ?_|refine τ4 rfl ?_|refine ⟨rfl,?_⟩|apply τa|refine τb rfl ?_|refine ⟨⟨by kernel_rfl,by kernel_rfl⟩,?_⟩|refine ⟨by decide,?_⟩|apply τt|apply τf))
          exact back (i + 1, nx5) (by dsimp only; omega) (by dsimp only; omega) (ele_tell _ _ rfl rfl (List.Sublist.refl _) .slnil ⟨rfl, OwnLe.refl _, trivial⟩ trivial ⟨AVle.refl _, AVle.refl _, AVle.refl _, AVle.refl _, le_int (wrap_succ (by dsimp only; omega)), trivial⟩)
end Go.Proofs.W

namespace Go.Proofs.W
open Go.Vl
set_option maxRecDepth 100000

theorem isame_true (p : List Ins) (hl : p.length ≤ 1000000) : Tells Try.prog 14 [inss p, inss p] (boolA true) := by
  refine tells_of_aw Try.func14 rfl rfl fun nx => ?_
  (repeat((conv=>whnf);first|apply ω0|apply ω1|apply ω2|refine τ3 rfl ?_|refine τ4 rfl ?_|refine ⟨rfl,?_⟩|apply τa|refine τb rfl ?_|refine ⟨⟨by kernel_rfl,by kernel_rfl⟩,?_⟩|refine ⟨by decide,?_⟩|apply τt|apply τf))
  refine aop_tells rfl rfl (all_spec p hl) ⟨AVle.refl _, trivial⟩ fun nx1 => ?_
  (repeat((conv=>whnf);first|apply ω0|apply ω1|apply ω2|refine τ3 rfl ?_|refine τ4 rfl ?_|refine ⟨rfl,?_⟩|apply τa|refine τb rfl ?_|refine ⟨⟨by kernel_rfl,by kernel_rfl⟩,?_⟩|refine ⟨by decide,?_⟩|apply τt|apply τf))
  (intro c hc; (first | (rw [bne_self_eq_false] at hc; subst hc) | (obtain rfl : c = false := hc.trans (bne_self_eq_false _))); (repeat((conv=>whnf);first|apply ω0|apply ω1|apply ω2|refine τ3 rfl ?_|refine τ4 rfl ?_|refine ⟨rfl,?_⟩|apply τa|refine τb rfl ?_|refine ⟨⟨by kernel_rfl,by kernel_rfl⟩,?_⟩|refine ⟨by decide,?_⟩|apply τt|apply τf)))
  refine aw_loop (fun y : Nat × Nat => mk 29 [(0, inss p), (5, inss p), (6, int y.1)] ⟨[], [], y.2, 0⟩) (fun y => y.1 ≤ p.length) (fun y => p.length - y.1) ?_ ?_
  · exact ⟨(0, nx1), Nat.zero_le _, ele_keep rfl rfl (List.nil_sublist _) (List.nil_sublist _) ⟨AVle.refl _, AVle.refl _, AVle.refl _, trivial⟩⟩
  · rintro ⟨i, nx2⟩ h1
    dsimp only at h1
    (repeat((conv=>whnf);first|apply ω0|apply ω1|apply ω2|refine τ3 rfl ?_|refine τ4 rfl ?_|refine ⟨rfl,?_⟩|apply τa|refine τb rfl ?_|refine ⟨⟨by kernel_rfl,by kernel_rfl⟩,?_⟩|refine ⟨by decide,?_⟩|apply τt|apply τf))
    intro c g; cases c
    · have g := not_of g
      dsimp only at g
      (repeat((conv=>whnf);first|apply ω0|apply ω1|apply ω2|refine τ3 rfl ?_|refine τ4 rfl ?_|refine ⟨rfl,?_⟩|apply τa|refine τb rfl ?_|refine ⟨⟨by kernel_rfl,by kernel_rfl⟩,?_⟩|refine ⟨by decide,?_⟩|apply τt|apply τf))
      exact ret_tells rfl (AVle.refl _)
    · have g := yes_of g
      dsimp only at g
      have hi : i < p.length := by omega
      (repeat((conv=>whnf);first|apply ω0|apply ω1|apply ω2|refine τ3 rfl ?_|refine τ4 rfl ?_|refine ⟨rfl,?_⟩|apply τa|refine τb rfl ?_|refine ⟨⟨by kernel_rfl,by kernel_rfl⟩,?_⟩|refine ⟨by decide,?_⟩|apply τt|apply τf))
      (refine aw_draw 9 ?_ ?_ ?_ ?_; (· kernel_rfl); (· kernel_rfl); (· kernel_rfl))
      (repeat((conv=>whnf);first|apply ω0|apply ω1|apply ω2|refine τ3 rfl ?_|refine τ4 rfl ?_|refine ⟨rfl,?_⟩|apply τa|refine τb rfl ?_|refine ⟨⟨by kernel_rfl,by kernel_rfl⟩,?_⟩|refine ⟨by decide,?_⟩|apply τt|apply τf))
      refine ⟨⟨by first | omega | (dsimp only; omega), by first | omega | (dsimp only; omega)⟩, ?_⟩
      (repeat((conv=>whnf);first|apply ω0|apply ω1|apply ω2|refine τ3 rfl ?_|refine τ4 rfl ?_|refine ⟨rfl,?_⟩|apply τa|refine τb rfl ?_|refine ⟨⟨by kernel_rfl,by kernel_rfl⟩,?_⟩|refine ⟨by decide,?_⟩|apply τt|apply τf))
      refine ⟨⟨by first | omega | (dsimp only; omega), by first | omega | (dsimp only; omega)⟩, ?_⟩
      (repeat((conv=>whnf);first|apply ω0|apply ω1|apply ω2|refine τ3 rfl ?_|refine τ4 rfl ?_|refine ⟨rfl,?_⟩|apply τa|refine τb rfl ?_|refine ⟨⟨by kernel_rfl,by kernel_rfl⟩,?_⟩|refine ⟨by decide,?_⟩|apply τt|apply τf))
      intro c hc
      obtain rfl : c = false := by rw [hc]; simp
      (repeat((conv=>whnf);first|apply ω0|apply ω1|apply ω2|refine τ3 rfl ?_|refine τ4 rfl ?_|refine ⟨rfl,?_⟩|apply τa|refine τb rfl ?_|refine ⟨⟨by kernel_rfl,by kernel_rfl⟩,?_⟩|refine ⟨by decide,?_⟩|apply τt|apply τf))
      exact back (i + 1, _) (by first | omega | (dsimp only at *; omega) | (simp; done) | (simp; omega)) (by first | omega | (dsimp only at *; omega) | (simp; done) | (simp; omega)) (ele_keep rfl rfl (List.nil_sublist _) (List.nil_sublist _) ⟨AVle.refl _, AVle.refl _, le_int (wrap_succ (by first | omega | (dsimp only at *; omega) | (simp; done) | (simp; omega))), trivial⟩)
/-- A number in its place among others, once. -/
def putL : List Nat → Nat → List Nat
  | [], n => [n]
  | x :: l, n => if x < n then x :: putL l n else if x = n then x :: l else n :: x :: l
theorem putL_in {n : Nat} : ∀ {l : List Nat} {k : Nat}, k < l.length → (∀ j, j < k → l.getD j 0 < n) → l.getD k 0 = n → putL l n = l
  | x :: l, 0, _, _, h => by
    have h : x = n := h
    unfold putL; rw [if_neg (by omega), if_pos h]
  | x :: l, k + 1, hk, hb, h => by
    have h0 : x < n := hb 0 (by omega)
    unfold putL
    rw [if_pos h0, putL_in (l := l) (k := k) (by simpa using hk) (fun j hj => hb (j + 1) (by omega)) h]
theorem putL_new {n : Nat} : ∀ {l : List Nat} {k : Nat}, k ≤ l.length → (∀ j, j < k → l.getD j 0 < n) → (k < l.length → n < l.getD k 0) → putL l n = l.take k ++ [n] ++ l.drop k
  | [], k, hk, _, _ => by
    obtain rfl : k = 0 := by simpa using hk
    rfl
  | x :: l, 0, _, _, h => by
    have h : n < x := h (by simp)
    unfold putL; rw [if_neg (by omega), if_neg (by omega)]; rfl
  | x :: l, k + 1, hk, hb, h => by
    have h0 : x < n := hb 0 (by omega)
    unfold putL
    rw [if_pos h0, putL_new (l := l) (k := k) (by simpa using hk) (fun j hj => hb (j + 1) (by omega)) (fun hlt => h (by simpa using hlt))]
    rfl
theorem putL_length (l : List Nat) (n : Nat) : (putL l n).length ≤ l.length + 1 := by
  induction l with
  | nil => simp [putL]
  | cons x l ih =>
    unfold putL
    split
    · simp; omega
    · split <;> simp
theorem appF_if {a j : Nat} {f g : Nat → AV} : appF a f g j = if j < a then f j else g (j - a) := by
  show (bif Nat.blt j a then f j else g (j - a)) = _
  by_cases h : j < a
  · rw [if_pos h, show Nat.blt j a = true by simpa using h]; rfl
  · rw [if_neg h, show Nat.blt j a = false by cases hb : Nat.blt j a with | false => rfl | true => exact absurd (by simpa using hb) h]; rfl
theorem le_ints_of {N : Nat} {f : Nat → AV} {L : List Nat} {i : Option Vl.Id} (hN : N = L.length) (hf : ∀ j, j < N → f j = int (L.getD j 0 : Nat)) : AVle (.os 1 N f i) (ints L) := by
  subst hN; exact AVle.os_sl.trans (AVle.sl_fun hf)
theorem getD_ins {l : List Nat} {k n j : Nat} (hk : k ≤ l.length) : (l.take k ++ [n] ++ l.drop k).getD j 0 = if j < k then l.getD j 0 else if j = k then n else l.getD (j - 1) 0 := by
  have hlt : (l.take k).length = k := by simp; omega
  by_cases h1 : j < k
  · rw [if_pos h1, List.append_assoc, List.getD, List.getElem?_append_left (by omega), List.getElem?_take, if_pos h1]; rfl
  · rw [if_neg h1]
    by_cases h2 : j = k
    · subst h2
      rw [if_pos rfl, List.getD, List.append_assoc, List.getElem?_append_right (by omega), hlt]; simp
    · rw [if_neg h2, List.getD, List.getElem?_append_right (by simp; omega), List.length_append, hlt, List.getElem?_drop]
      rw [show k + (j - (k + [n].length)) = j - 1 by simp; omega]; rfl
theorem b3i : Try.prog.bytesOf 3 = 8 := by kernel_rfl
theorem le_put0 {l : List Nat} {n k : Nat} {F g : Nat → AV} {i : Option Vl.Id} (hk : l.length = k) (hF : ∀ j, j < k → F j = int (l.getD j 0 : Nat)) (hg : g 0 = int n) : AVle (.os 1 (k + 1) (appF k F g) i) (ints (l.take k ++ [n] ++ l.drop k)) := by
  refine le_ints_of (by simp; omega) fun j hj => ?_
  rw [getD_ins (by omega), appF_if]
  by_cases h : j < k
  · rw [if_pos h, if_pos h]; exact hF j h
  · obtain rfl : j = k := by omega
    rw [if_neg h, if_neg h, if_pos rfl, Nat.sub_self]; exact hg
theorem le_putm {l : List Nat} {n k m : Nat} {F g h : Nat → AV} {i : Option Vl.Id} (hk : k + m = l.length) (hF : ∀ j, j < k → F j = int (l.getD j 0 : Nat)) (hg : g 0 = int n) (hh : ∀ j, j < m → h j = int (l.getD (k + j) 0 : Nat)) : AVle (.os 1 (k + 1 + m) (appF (k + 1) (appF k F g) h) i) (ints (l.take k ++ [n] ++ l.drop k)) := by
  refine le_ints_of (by simp; omega) fun j hj => ?_
  rw [getD_ins (by omega), appF_if, appF_if]
  by_cases h1 : j < k
  · rw [if_pos (by omega), if_pos h1, if_pos h1]; exact hF j h1
  · by_cases h2 : j = k
    · subst h2
      rw [if_pos (by omega), if_neg h1, if_neg h1, if_pos rfl, Nat.sub_self]; exact hg
    · rw [if_neg (by omega), if_neg h1, if_neg h2, hh _ (by omega), show k + (j - (k + 1)) = j - 1 by omega]
theorem put_spec (l : List Nat) (n : Nat) (hn : n < 4294967296) (hl : l.length ≤ 1000000) : Tells Try.prog 33 [ints l, int n] (ints (putL l n)) := by
  refine tells_of_aw Try.func33 rfl rfl fun nx => ?_
  (repeat((conv=>whnf);first|apply ω0|apply ω1|apply ω2|refine τ3 rfl ?_|refine τ4 rfl ?_|refine ⟨rfl,?_⟩|apply τa|refine τb rfl ?_|refine ⟨⟨by kernel_rfl,by kernel_rfl⟩,?_⟩|refine ⟨by decide,?_⟩|apply τt|apply τf))
  refine aw_loop (fun y : Nat × Nat => mk 47 [(0, ints l), (1, int n), (5, int y.1)] ⟨[], [], y.2, 0⟩) (fun y => y.1 ≤ l.length ∧ ∀ j, j < y.1 → l.getD j 0 < n) (fun y => l.length - y.1) ?_ ?_
  · exact ⟨(0, nx), ⟨Nat.zero_le _, fun j h => absurd h (Nat.not_lt_zero _)⟩, ele_keep rfl rfl (List.nil_sublist _) (List.nil_sublist _) ⟨AVle.refl _, AVle.refl _, AVle.refl _, trivial⟩⟩
  · rintro ⟨k, nx1⟩ ⟨h1, h2⟩
    dsimp only at h1 h2
    (repeat((conv=>whnf);first|apply ω0|apply ω1|apply ω2|refine τ3 rfl ?_|refine τ4 rfl ?_|refine ⟨rfl,?_⟩|apply τa|refine τb rfl ?_|refine ⟨⟨by kernel_rfl,by kernel_rfl⟩,?_⟩|refine ⟨by decide,?_⟩|apply τt|apply τf))
    intro c g; cases c
    · have g := not_of g
      dsimp only at g
      obtain rfl : k = l.length := by omega
      have hp := putL_new (n := n) (l := l) (Nat.le_refl _) h2 (fun h => by omega)
      rw [hp]
      (repeat((conv=>whnf);first|apply ω0|apply ω1|apply ω2|refine τ3 rfl ?_|refine τ4 rfl ?_|refine ⟨rfl,?_⟩|apply τa|refine τb rfl ?_|refine ⟨⟨by kernel_rfl,by kernel_rfl⟩,?_⟩|refine ⟨by decide,?_⟩|apply τt|apply τf))
      (intro c hc; obtain rfl : c = false := hc.trans (by first | exact decide_eq_false (by omega) | (simp; omega)); (repeat((conv=>whnf);first|apply ω0|apply ω1|apply ω2|refine τ3 rfl ?_|refine τ4 rfl ?_|refine ⟨rfl,?_⟩|apply τa|refine τb rfl ?_|refine ⟨⟨by kernel_rfl,by kernel_rfl⟩,?_⟩|refine ⟨by decide,?_⟩|apply τt|apply τf)))
      (repeat((conv=>whnf);first|apply ω0|apply ω1|apply ω2|refine τ3 rfl ?_|refine τ4 rfl ?_|refine ⟨rfl,?_⟩|apply τa|refine τb rfl ?_|refine ⟨⟨by kernel_rfl,by kernel_rfl⟩,?_⟩|refine ⟨by decide,?_⟩|apply τt|apply τf))
      refine ⟨⟨by first | omega | (dsimp only; omega), by first | omega | (dsimp only; omega)⟩, ?_⟩
      (repeat((conv=>whnf);first|apply ω0|apply ω1|apply ω2|refine τ3 rfl ?_|refine τ4 rfl ?_|refine ⟨rfl,?_⟩|apply τa|refine τb rfl ?_|refine ⟨⟨by kernel_rfl,by kernel_rfl⟩,?_⟩|refine ⟨by decide,?_⟩|apply τt|apply τf))
      refine appK_intro (fun hz => ?_) (fun hz => ?_)
      · obtain rfl : l = [] := List.length_eq_zero_iff.1 (by simpa using hz)
        (repeat((conv=>whnf);first|apply ω0|apply ω1|apply ω2|refine τ3 rfl ?_|refine τ4 rfl ?_|refine ⟨rfl,?_⟩|apply τa|refine τb rfl ?_|refine ⟨⟨by kernel_rfl,by kernel_rfl⟩,?_⟩|refine ⟨by decide,?_⟩|apply τt|apply τf))
        refine ⟨oneRow_one rfl, by rw [b3i]; first | omega | (simp; omega), by first | omega | (simp; omega), ?_⟩
        (repeat((conv=>whnf);first|apply ω0|apply ω1|apply ω2|refine τ3 rfl ?_|refine τ4 rfl ?_|refine ⟨rfl,?_⟩|apply τa|refine τb rfl ?_|refine ⟨⟨by kernel_rfl,by kernel_rfl⟩,?_⟩|refine ⟨by decide,?_⟩|apply τt|apply τf))
        refine ⟨⟨by first | omega | (dsimp only; omega), by first | omega | (dsimp only; omega)⟩, ?_⟩
        (repeat((conv=>whnf);first|apply ω0|apply ω1|apply ω2|refine τ3 rfl ?_|refine τ4 rfl ?_|refine ⟨rfl,?_⟩|apply τa|refine τb rfl ?_|refine ⟨⟨by kernel_rfl,by kernel_rfl⟩,?_⟩|refine ⟨by decide,?_⟩|apply τt|apply τf))
        refine ret_tells rfl ?_
        (conv => arg 1; whnf)
        exact le_put0 (l := []) (k := 0) rfl (fun j h => absurd h (Nat.not_lt_zero _)) rfl
      · refine ⟨fun _ _ => rfl, by rw [b3i]; first | omega | (simp; omega), by first | omega | (simp; omega), ?_⟩
        (repeat((conv=>whnf);first|apply ω0|apply ω1|apply ω2|refine τ3 rfl ?_|refine τ4 rfl ?_|refine ⟨rfl,?_⟩|apply τa|refine τb rfl ?_|refine ⟨⟨by kernel_rfl,by kernel_rfl⟩,?_⟩|refine ⟨by decide,?_⟩|apply τt|apply τf))
        refine ⟨oneRow_one rfl, by rw [b3i]; first | omega | (simp; omega), by first | omega | (simp; omega), ?_⟩
        (repeat((conv=>whnf);first|apply ω0|apply ω1|apply ω2|refine τ3 rfl ?_|refine τ4 rfl ?_|refine ⟨rfl,?_⟩|apply τa|refine τb rfl ?_|refine ⟨⟨by kernel_rfl,by kernel_rfl⟩,?_⟩|refine ⟨by decide,?_⟩|apply τt|apply τf))
        refine ⟨⟨by first | omega | (dsimp only; omega), by first | omega | (dsimp only; omega)⟩, ?_⟩
        (repeat((conv=>whnf);first|apply ω0|apply ω1|apply ω2|refine τ3 rfl ?_|refine τ4 rfl ?_|refine ⟨rfl,?_⟩|apply τa|refine τb rfl ?_|refine ⟨⟨by kernel_rfl,by kernel_rfl⟩,?_⟩|refine ⟨by decide,?_⟩|apply τt|apply τf))
        refine appK_intro (fun hy => ?_) (fun hy => ?_)
        · (repeat((conv=>whnf);first|apply ω0|apply ω1|apply ω2|refine τ3 rfl ?_|refine τ4 rfl ?_|refine ⟨rfl,?_⟩|apply τa|refine τb rfl ?_|refine ⟨⟨by kernel_rfl,by kernel_rfl⟩,?_⟩|refine ⟨by decide,?_⟩|apply τt|apply τf))
          refine ret_tells rfl ?_
          (conv => arg 1; whnf)
          simp only [Nat.zero_add]
          exact le_put0 (l := l) (k := l.length) rfl (fun j h => by rw [appF_if, if_neg (by omega)]; rfl) rfl
        · exact absurd (by simp) hy
    · have g := yes_of g
      dsimp only at g
      have hk : k < l.length := by omega
      (repeat((conv=>whnf);first|apply ω0|apply ω1|apply ω2|refine τ3 rfl ?_|refine τ4 rfl ?_|refine ⟨rfl,?_⟩|apply τa|refine τb rfl ?_|refine ⟨⟨by kernel_rfl,by kernel_rfl⟩,?_⟩|refine ⟨by decide,?_⟩|apply τt|apply τf))
      refine ⟨⟨by first | omega | (dsimp only; omega), by first | omega | (dsimp only; omega)⟩, ?_⟩
      (repeat((conv=>whnf);first|apply ω0|apply ω1|apply ω2|refine τ3 rfl ?_|refine τ4 rfl ?_|refine ⟨rfl,?_⟩|apply τa|refine τb rfl ?_|refine ⟨⟨by kernel_rfl,by kernel_rfl⟩,?_⟩|refine ⟨by decide,?_⟩|apply τt|apply τf))
      intro c g2; cases c
      · have g2 : ¬ l.getD k 0 < n := fun h => not_of g2 (Int.ofNat_lt.2 h)
        (repeat((conv=>whnf);first|apply ω0|apply ω1|apply ω2|refine τ3 rfl ?_|refine τ4 rfl ?_|refine ⟨rfl,?_⟩|apply τa|refine τb rfl ?_|refine ⟨⟨by kernel_rfl,by kernel_rfl⟩,?_⟩|refine ⟨by decide,?_⟩|apply τt|apply τf))
        (intro c hc; obtain rfl : c = true := hc.trans (by first | exact decide_eq_true (by omega) | (simp; omega)); (repeat((conv=>whnf);first|apply ω0|apply ω1|apply ω2|refine τ3 rfl ?_|refine τ4 rfl ?_|refine ⟨rfl,?_⟩|apply τa|refine τb rfl ?_|refine ⟨⟨by kernel_rfl,by kernel_rfl⟩,?_⟩|refine ⟨by decide,?_⟩|apply τt|apply τf)))
        refine ⟨⟨by first | omega | (dsimp only; omega), by first | omega | (dsimp only; omega)⟩, ?_⟩
        (repeat((conv=>whnf);first|apply ω0|apply ω1|apply ω2|refine τ3 rfl ?_|refine τ4 rfl ?_|refine ⟨rfl,?_⟩|apply τa|refine τb rfl ?_|refine ⟨⟨by kernel_rfl,by kernel_rfl⟩,?_⟩|refine ⟨by decide,?_⟩|apply τt|apply τf))
        intro c g3; cases c
        · have g3 : l.getD k 0 ≠ n := fun h => fct_b0.1 g3 (show ((l.getD k 0 : Nat) : Int) = n by rw [h])
          have hp := putL_new (n := n) (l := l) (k := k) h1 h2 (fun h => by omega)
          rw [hp]
          (repeat((conv=>whnf);first|apply ω0|apply ω1|apply ω2|refine τ3 rfl ?_|refine τ4 rfl ?_|refine ⟨rfl,?_⟩|apply τa|refine τb rfl ?_|refine ⟨⟨by kernel_rfl,by kernel_rfl⟩,?_⟩|refine ⟨by decide,?_⟩|apply τt|apply τf))
          refine ⟨⟨by first | omega | (dsimp only; omega), by first | omega | (dsimp only; omega)⟩, ?_⟩
          (repeat((conv=>whnf);first|apply ω0|apply ω1|apply ω2|refine τ3 rfl ?_|refine τ4 rfl ?_|refine ⟨rfl,?_⟩|apply τa|refine τb rfl ?_|refine ⟨⟨by kernel_rfl,by kernel_rfl⟩,?_⟩|refine ⟨by decide,?_⟩|apply τt|apply τf))
          refine appK_intro (fun hz => ?_) (fun hz => ?_)
          · obtain rfl : k = 0 := by simpa using hz
            (repeat((conv=>whnf);first|apply ω0|apply ω1|apply ω2|refine τ3 rfl ?_|refine τ4 rfl ?_|refine ⟨rfl,?_⟩|apply τa|refine τb rfl ?_|refine ⟨⟨by kernel_rfl,by kernel_rfl⟩,?_⟩|refine ⟨by decide,?_⟩|apply τt|apply τf))
            refine ⟨oneRow_one rfl, by rw [b3i]; first | omega | (simp; omega), by first | omega | (simp; omega), ?_⟩
            (repeat((conv=>whnf);first|apply ω0|apply ω1|apply ω2|refine τ3 rfl ?_|refine τ4 rfl ?_|refine ⟨rfl,?_⟩|apply τa|refine τb rfl ?_|refine ⟨⟨by kernel_rfl,by kernel_rfl⟩,?_⟩|refine ⟨by decide,?_⟩|apply τt|apply τf))
            refine ⟨⟨by first | omega | (dsimp only; omega), by first | omega | (dsimp only; omega)⟩, ?_⟩
            (repeat((conv=>whnf);first|apply ω0|apply ω1|apply ω2|refine τ3 rfl ?_|refine τ4 rfl ?_|refine ⟨rfl,?_⟩|apply τa|refine τb rfl ?_|refine ⟨⟨by kernel_rfl,by kernel_rfl⟩,?_⟩|refine ⟨by decide,?_⟩|apply τt|apply τf))
            refine appK_intro (fun hy => ?_) (fun hy => ?_)
            · exact absurd hy (by simp; omega)
            · refine ⟨fun _ _ => rfl, by rw [b3i]; first | omega | (simp; omega), by first | omega | (simp; omega), ?_⟩
              (repeat((conv=>whnf);first|apply ω0|apply ω1|apply ω2|refine τ3 rfl ?_|refine τ4 rfl ?_|refine ⟨rfl,?_⟩|apply τa|refine τb rfl ?_|refine ⟨⟨by kernel_rfl,by kernel_rfl⟩,?_⟩|refine ⟨by decide,?_⟩|apply τt|apply τf))
              refine ret_tells rfl ?_
              (conv => arg 1; whnf)
              exact le_putm (l := l) (k := 0) (m := l.length - 0) (by omega) (fun j h => absurd h (Nat.not_lt_zero _)) rfl (fun j h => rfl)
          · refine ⟨fun _ _ => rfl, by rw [b3i]; first | omega | (simp; omega), by first | omega | (simp; omega), ?_⟩
            (repeat((conv=>whnf);first|apply ω0|apply ω1|apply ω2|refine τ3 rfl ?_|refine τ4 rfl ?_|refine ⟨rfl,?_⟩|apply τa|refine τb rfl ?_|refine ⟨⟨by kernel_rfl,by kernel_rfl⟩,?_⟩|refine ⟨by decide,?_⟩|apply τt|apply τf))
            refine ⟨oneRow_one rfl, by rw [b3i]; first | omega | (simp; omega), by first | omega | (simp; omega), ?_⟩
            (repeat((conv=>whnf);first|apply ω0|apply ω1|apply ω2|refine τ3 rfl ?_|refine τ4 rfl ?_|refine ⟨rfl,?_⟩|apply τa|refine τb rfl ?_|refine ⟨⟨by kernel_rfl,by kernel_rfl⟩,?_⟩|refine ⟨by decide,?_⟩|apply τt|apply τf))
            refine ⟨⟨by first | omega | (dsimp only; omega), by first | omega | (dsimp only; omega)⟩, ?_⟩
            (repeat((conv=>whnf);first|apply ω0|apply ω1|apply ω2|refine τ3 rfl ?_|refine τ4 rfl ?_|refine ⟨rfl,?_⟩|apply τa|refine τb rfl ?_|refine ⟨⟨by kernel_rfl,by kernel_rfl⟩,?_⟩|refine ⟨by decide,?_⟩|apply τt|apply τf))
            refine appK_intro (fun hy => ?_) (fun hy => ?_)
            · exact absurd hy (by simp; omega)
            · refine ⟨fun _ _ => rfl, by rw [b3i]; first | omega | (simp; omega), by first | omega | (simp; omega), ?_⟩
              (repeat((conv=>whnf);first|apply ω0|apply ω1|apply ω2|refine τ3 rfl ?_|refine τ4 rfl ?_|refine ⟨rfl,?_⟩|apply τa|refine τb rfl ?_|refine ⟨⟨by kernel_rfl,by kernel_rfl⟩,?_⟩|refine ⟨by decide,?_⟩|apply τt|apply τf))
              refine ret_tells rfl ?_
              (conv => arg 1; whnf)
              simp only [Nat.zero_add]
              exact le_putm (l := l) (k := k) (m := l.length - k) (by omega) (fun j h => by rw [appF_if, if_neg (by omega)]; rfl) rfl (fun j h => rfl)
        · have g3 : l.getD k 0 = n := Int.ofNat_inj.1 (show ((l.getD k 0 : Nat) : Int) = n from fct_b1.1 g3)
          rw [putL_in hk h2 g3]
          (repeat((conv=>whnf);first|apply ω0|apply ω1|apply ω2|refine τ3 rfl ?_|refine τ4 rfl ?_|refine ⟨rfl,?_⟩|apply τa|refine τb rfl ?_|refine ⟨⟨by kernel_rfl,by kernel_rfl⟩,?_⟩|refine ⟨by decide,?_⟩|apply τt|apply τf))
          exact ret_tells rfl (AVle.refl _)
      · have g2 : l.getD k 0 < n := Int.ofNat_lt.1 (yes_of g2)
        (repeat((conv=>whnf);first|apply ω0|apply ω1|apply ω2|refine τ3 rfl ?_|refine τ4 rfl ?_|refine ⟨rfl,?_⟩|apply τa|refine τb rfl ?_|refine ⟨⟨by kernel_rfl,by kernel_rfl⟩,?_⟩|refine ⟨by decide,?_⟩|apply τt|apply τf))
        refine back (k + 1, _) ⟨(by first | omega | (dsimp only at *; omega) | (simp; done) | (simp; omega)), fun j hj => ?_⟩ (by first | omega | (dsimp only at *; omega) | (simp; done) | (simp; omega)) (ele_keep rfl rfl (List.nil_sublist _) (List.nil_sublist _) ⟨AVle.refl _, AVle.refl _, le_int (wrap_succ (by first | omega | (dsimp only at *; omega) | (simp; done) | (simp; omega))), trivial⟩)
        rcases Nat.lt_or_ge j k with h | h
        · exact h2 j h
        · obtain rfl : j = k := by omega
          exact g2
end Go.Proofs.W

namespace Go.Proofs.W
open Go.Vl
set_option maxRecDepth 100000

def toldP (l : List Ins) (K : Nat) : Nat → List Nat
  | 0 => []
  | i + 1 => if (reachI l).getD i false = true ∧ kind l i = K then putL (toldP l K i) (l.getD i ins0).k else toldP l K i
def toldA (l : List Ins) : Nat → Bool
  | 0 => false
  | i + 1 => toldA l i || ((reachI l).getD i false && decide (kind l i = 15))
theorem toldP_length (l : List Ins) (K : Nat) : ∀ i, (toldP l K i).length ≤ i
  | 0 => Nat.le_refl _
  | i + 1 => by
    have h := toldP_length l K i
    unfold toldP
    split
    · have := putL_length (toldP l K i) (l.getD i ins0).k; omega
    · omega
set_option maxHeartbeats 2000000 in
theorem told_spec (l : List Ins) (hok : okL l) (hf : Formed l) : Tells Try.prog 13 [inss l] (.tup [ints (toldP l 14 l.length), boolA (toldA l l.length), ints (toldP l 1 l.length)]) := by
  have hle := hf.le
  have hrl := reachI_length l
  refine tells_of_aw Try.func13 rfl rfl fun nx => ?_
  (repeat((conv=>whnf);first|apply ω0|apply ω1|apply ω2|refine τ3 rfl ?_|refine τ4 rfl ?_|refine ⟨rfl,?_⟩|apply τa|refine τb rfl ?_|refine ⟨⟨by kernel_rfl,by kernel_rfl⟩,?_⟩|refine ⟨by decide,?_⟩|apply τt|apply τf))
  refine aop_tells rfl rfl (reachedI_spec l hok hf) ⟨AVle.refl _, AVle.refl _, trivial⟩ fun nx1 => ?_
  (repeat((conv=>whnf);first|apply ω0|apply ω1|apply ω2|refine τ3 rfl ?_|refine τ4 rfl ?_|refine ⟨rfl,?_⟩|apply τa|refine τb rfl ?_|refine ⟨⟨by kernel_rfl,by kernel_rfl⟩,?_⟩|refine ⟨by decide,?_⟩|apply τt|apply τf))
  refine aw_loop (fun s : Nat × Bool × Nat => mk 75 [(0, inss l), (5, bools (reachI l)), (6, ints (toldP l 14 s.1)), (7, ints (toldP l 1 s.1)), (8, boolA s.2.1), (9, int s.1)] ⟨[], [], s.2.2, 0⟩) (fun s => s.1 ≤ l.length ∧ toldA l s.1 = s.2.1) (fun s => l.length - s.1) ?_ ?_
  · exact ⟨(0, false, nx1), ⟨Nat.zero_le _, rfl⟩, ele_keep rfl rfl (List.nil_sublist _) (List.nil_sublist _) ⟨AVle.refl _, AVle.refl _, AVle.os_sl0, AVle.os_sl0, AVle.refl _, AVle.refl _, trivial⟩⟩
  · rintro ⟨n, A, nx2⟩ ⟨h3, hA⟩
    dsimp only at h3 hA
    (repeat((conv=>whnf);first|apply ω0|apply ω1|apply ω2|refine τ3 rfl ?_|refine τ4 rfl ?_|refine ⟨rfl,?_⟩|apply τa|refine τb rfl ?_|refine ⟨⟨by kernel_rfl,by kernel_rfl⟩,?_⟩|refine ⟨by decide,?_⟩|apply τt|apply τf))
    intro c h5; cases c
    · have h6 := not_of h5
      dsimp only at h6
      obtain rfl : n = l.length := by omega
      (repeat((conv=>whnf);first|apply ω0|apply ω1|apply ω2|refine τ3 rfl ?_|refine τ4 rfl ?_|refine ⟨rfl,?_⟩|apply τa|refine τb rfl ?_|refine ⟨⟨by kernel_rfl,by kernel_rfl⟩,?_⟩|refine ⟨by decide,?_⟩|apply τt|apply τf))
      rw [hA]
      exact ret_tells rfl (AVle.refl _)
    · have h6 := yes_of h5
      dsimp only at h6
      have hn : n < l.length := by omega
      have hki : (l.getD n ins0).ok := hok.get hn
      have hof := refof_spec (l.getD n ins0).code hki.1
      have hk32 : (l.getD n ins0).k < 4294967296 := hki.2.2.2
      have wk : IntKind.i64.wrap ((l.getD n ins0).k : Int) = ((l.getD n ins0).k : Nat) := wrap_id (by omega) (by omega)
      have l14 := toldP_length l 14 n
      have l1 := toldP_length l 1 n
      have s14 : toldP l 14 (n + 1) = if (reachI l).getD n false = true ∧ kind l n = 14 then putL (toldP l 14 n) (l.getD n ins0).k else toldP l 14 n := rfl
      have s1 : toldP l 1 (n + 1) = if (reachI l).getD n false = true ∧ kind l n = 1 then putL (toldP l 1 n) (l.getD n ins0).k else toldP l 1 n := rfl
      have sA : toldA l (n + 1) = (toldA l n || ((reachI l).getD n false && decide (kind l n = 15))) := rfl
      have hkd : kind l n = (kof (l.getD n ins0).code).1 := rfl
      rw [hkd] at s14 s1 sA
      rw [hA] at sA
      clear hA
      (repeat((conv=>whnf);first|apply ω0|apply ω1|apply ω2|refine τ3 rfl ?_|refine τ4 rfl ?_|refine ⟨rfl,?_⟩|apply τa|refine τb rfl ?_|refine ⟨⟨by kernel_rfl,by kernel_rfl⟩,?_⟩|refine ⟨by decide,?_⟩|apply τt|apply τf))
      refine ⟨⟨by first | omega | (dsimp only; omega), by first | omega | (dsimp only; omega)⟩, ?_⟩
      (repeat((conv=>whnf);first|apply ω0|apply ω1|apply ω2|refine τ3 rfl ?_|refine τ4 rfl ?_|refine ⟨rfl,?_⟩|apply τa|refine τb rfl ?_|refine ⟨⟨by kernel_rfl,by kernel_rfl⟩,?_⟩|refine ⟨by decide,?_⟩|apply τt|apply τf))
      refine aop_tells rfl rfl hof ⟨AVle.refl _, trivial⟩ fun nx3 => ?_
      generalize (kof (l.getD n ins0).code).1 = K at *
      generalize (kof (l.getD n ins0).code).2 = z at *
      (repeat((conv=>whnf);first|apply ω0|apply ω1|apply ω2|refine τ3 rfl ?_|refine τ4 rfl ?_|refine ⟨rfl,?_⟩|apply τa|refine τb rfl ?_|refine ⟨⟨by kernel_rfl,by kernel_rfl⟩,?_⟩|refine ⟨by decide,?_⟩|apply τt|apply τf))
      intro cx hx
      obtain rfl : cx = z := hx
      (repeat((conv=>whnf);first|apply ω0|apply ω1|apply ω2|refine τ3 rfl ?_|refine τ4 rfl ?_|refine ⟨rfl,?_⟩|apply τa|refine τb rfl ?_|refine ⟨⟨by kernel_rfl,by kernel_rfl⟩,?_⟩|refine ⟨by decide,?_⟩|apply τt|apply τf))
      refine ⟨⟨by first | omega | (dsimp only; omega), by first | omega | (dsimp only; omega)⟩, ?_⟩
      (repeat((conv=>whnf);first|apply ω0|apply ω1|apply ω2|refine τ3 rfl ?_|refine τ4 rfl ?_|refine ⟨rfl,?_⟩|apply τa|refine τb rfl ?_|refine ⟨⟨by kernel_rfl,by kernel_rfl⟩,?_⟩|refine ⟨by decide,?_⟩|apply τt|apply τf))
      intro b hb
      have hb : b = (reachI l).getD n false := hb
      rw [← hb] at s14 s1 sA
      cases b
      · cases A
        · (repeat((conv=>whnf);first|apply ω0|apply ω1|apply ω2|refine τ3 rfl ?_|refine τ4 rfl ?_|refine ⟨rfl,?_⟩|apply τa|refine τb rfl ?_|refine ⟨⟨by kernel_rfl,by kernel_rfl⟩,?_⟩|refine ⟨by decide,?_⟩|apply τt|apply τf))
          refine ⟨⟨by first | omega | (dsimp only; omega), by first | omega | (dsimp only; omega)⟩, ?_⟩
          (repeat((conv=>whnf);first|apply ω0|apply ω1|apply ω2|refine τ3 rfl ?_|refine τ4 rfl ?_|refine ⟨rfl,?_⟩|apply τa|refine τb rfl ?_|refine ⟨⟨by kernel_rfl,by kernel_rfl⟩,?_⟩|refine ⟨by decide,?_⟩|apply τt|apply τf))
          intro b2 hb2
          obtain rfl : b2 = false := hb2.trans hb.symm
          (repeat((conv=>whnf);first|apply ω0|apply ω1|apply ω2|refine τ3 rfl ?_|refine τ4 rfl ?_|refine ⟨rfl,?_⟩|apply τa|refine τb rfl ?_|refine ⟨⟨by kernel_rfl,by kernel_rfl⟩,?_⟩|refine ⟨by decide,?_⟩|apply τt|apply τf))
          refine ⟨⟨by first | omega | (dsimp only; omega), by first | omega | (dsimp only; omega)⟩, ?_⟩
          (repeat((conv=>whnf);first|apply ω0|apply ω1|apply ω2|refine τ3 rfl ?_|refine τ4 rfl ?_|refine ⟨rfl,?_⟩|apply τa|refine τb rfl ?_|refine ⟨⟨by kernel_rfl,by kernel_rfl⟩,?_⟩|refine ⟨by decide,?_⟩|apply τt|apply τf))
          intro b2 hb2
          obtain rfl : b2 = false := hb2.trans hb.symm
          (repeat((conv=>whnf);first|apply ω0|apply ω1|apply ω2|refine τ3 rfl ?_|refine τ4 rfl ?_|refine ⟨rfl,?_⟩|apply τa|refine τb rfl ?_|refine ⟨⟨by kernel_rfl,by kernel_rfl⟩,?_⟩|refine ⟨by decide,?_⟩|apply τt|apply τf))
          exact back (n + 1, false, _) ⟨by dsimp only; omega, by rw [sA]; rfl⟩ (by dsimp only; omega) (ele_keep rfl rfl (List.nil_sublist _) (List.nil_sublist _) ⟨AVle.refl _, AVle.refl _, AVle.of_eq (congrArg ints (by dsimp only; rw [s14, if_neg (by simp)])), AVle.of_eq (congrArg ints (by dsimp only; rw [s1, if_neg (by simp)])), AVle.refl _, le_int (wrap_succ (by omega)), trivial⟩)
        · (repeat((conv=>whnf);first|apply ω0|apply ω1|apply ω2|refine τ3 rfl ?_|refine τ4 rfl ?_|refine ⟨rfl,?_⟩|apply τa|refine τb rfl ?_|refine ⟨⟨by kernel_rfl,by kernel_rfl⟩,?_⟩|refine ⟨by decide,?_⟩|apply τt|apply τf))
          refine ⟨⟨by first | omega | (dsimp only; omega), by first | omega | (dsimp only; omega)⟩, ?_⟩
          (repeat((conv=>whnf);first|apply ω0|apply ω1|apply ω2|refine τ3 rfl ?_|refine τ4 rfl ?_|refine ⟨rfl,?_⟩|apply τa|refine τb rfl ?_|refine ⟨⟨by kernel_rfl,by kernel_rfl⟩,?_⟩|refine ⟨by decide,?_⟩|apply τt|apply τf))
          intro b2 hb2
          obtain rfl : b2 = false := hb2.trans hb.symm
          (repeat((conv=>whnf);first|apply ω0|apply ω1|apply ω2|refine τ3 rfl ?_|refine τ4 rfl ?_|refine ⟨rfl,?_⟩|apply τa|refine τb rfl ?_|refine ⟨⟨by kernel_rfl,by kernel_rfl⟩,?_⟩|refine ⟨by decide,?_⟩|apply τt|apply τf))
          exact back (n + 1, true, _) ⟨by dsimp only; omega, by rw [sA]; rfl⟩ (by dsimp only; omega) (ele_keep rfl rfl (List.nil_sublist _) (List.nil_sublist _) ⟨AVle.refl _, AVle.refl _, AVle.of_eq (congrArg ints (by dsimp only; rw [s14, if_neg (by simp)])), AVle.of_eq (congrArg ints (by dsimp only; rw [s1, if_neg (by simp)])), AVle.refl _, le_int (wrap_succ (by omega)), trivial⟩)
      · rcases (by omega : K = 14 ∨ K = 1 ∨ K = 15 ∨ (K ≠ 14 ∧ K ≠ 1 ∧ K ≠ 15)) with rfl | rfl | rfl | ⟨k14, k1, k15⟩
        · cases A
          · (repeat((conv=>whnf);first|apply ω0|apply ω1|apply ω2|refine τ3 rfl ?_|refine τ4 rfl ?_|refine ⟨rfl,?_⟩|apply τa|refine τb rfl ?_|refine ⟨⟨by kernel_rfl,by kernel_rfl⟩,?_⟩|refine ⟨by decide,?_⟩|apply τt|apply τf))
            refine ⟨⟨by first | omega | (dsimp only; omega), by first | omega | (dsimp only; omega)⟩, ?_⟩
            (repeat((conv=>whnf);first|apply ω0|apply ω1|apply ω2|refine τ3 rfl ?_|refine τ4 rfl ?_|refine ⟨rfl,?_⟩|apply τa|refine τb rfl ?_|refine ⟨⟨by kernel_rfl,by kernel_rfl⟩,?_⟩|refine ⟨by decide,?_⟩|apply τt|apply τf))
            refine aop_tells rfl rfl (put_spec (toldP l 14 n) _ hk32 (by omega)) ⟨AVle.refl _, le_int wk, trivial⟩ fun nx4 => ?_
            (repeat((conv=>whnf);first|apply ω0|apply ω1|apply ω2|refine τ3 rfl ?_|refine τ4 rfl ?_|refine ⟨rfl,?_⟩|apply τa|refine τb rfl ?_|refine ⟨⟨by kernel_rfl,by kernel_rfl⟩,?_⟩|refine ⟨by decide,?_⟩|apply τt|apply τf))
            refine ⟨⟨by first | omega | (dsimp only; omega), by first | omega | (dsimp only; omega)⟩, ?_⟩
            (repeat((conv=>whnf);first|apply ω0|apply ω1|apply ω2|refine τ3 rfl ?_|refine τ4 rfl ?_|refine ⟨rfl,?_⟩|apply τa|refine τb rfl ?_|refine ⟨⟨by kernel_rfl,by kernel_rfl⟩,?_⟩|refine ⟨by decide,?_⟩|apply τt|apply τf))
            intro b2 hb2
            obtain rfl : b2 = true := hb2.trans hb.symm
            (repeat((conv=>whnf);first|apply ω0|apply ω1|apply ω2|refine τ3 rfl ?_|refine τ4 rfl ?_|refine ⟨rfl,?_⟩|apply τa|refine τb rfl ?_|refine ⟨⟨by kernel_rfl,by kernel_rfl⟩,?_⟩|refine ⟨by decide,?_⟩|apply τt|apply τf))
            refine ⟨⟨by first | omega | (dsimp only; omega), by first | omega | (dsimp only; omega)⟩, ?_⟩
            (repeat((conv=>whnf);first|apply ω0|apply ω1|apply ω2|refine τ3 rfl ?_|refine τ4 rfl ?_|refine ⟨rfl,?_⟩|apply τa|refine τb rfl ?_|refine ⟨⟨by kernel_rfl,by kernel_rfl⟩,?_⟩|refine ⟨by decide,?_⟩|apply τt|apply τf))
            intro b2 hb2
            obtain rfl : b2 = true := hb2.trans hb.symm
            (repeat((conv=>whnf);first|apply ω0|apply ω1|apply ω2|refine τ3 rfl ?_|refine τ4 rfl ?_|refine ⟨rfl,?_⟩|apply τa|refine τb rfl ?_|refine ⟨⟨by kernel_rfl,by kernel_rfl⟩,?_⟩|refine ⟨by decide,?_⟩|apply τt|apply τf))
            exact back (n + 1, false, _) ⟨by dsimp only; omega, by rw [sA]; rfl⟩ (by dsimp only; omega) (ele_keep rfl rfl (List.nil_sublist _) (List.nil_sublist _) ⟨AVle.refl _, AVle.refl _, AVle.of_eq (congrArg ints (by dsimp only; rw [s14, if_pos ⟨rfl, rfl⟩])), AVle.of_eq (congrArg ints (by dsimp only; rw [s1, if_neg (by decide)])), AVle.refl _, le_int (wrap_succ (by omega)), trivial⟩)
          · (repeat((conv=>whnf);first|apply ω0|apply ω1|apply ω2|refine τ3 rfl ?_|refine τ4 rfl ?_|refine ⟨rfl,?_⟩|apply τa|refine τb rfl ?_|refine ⟨⟨by kernel_rfl,by kernel_rfl⟩,?_⟩|refine ⟨by decide,?_⟩|apply τt|apply τf))
            refine ⟨⟨by first | omega | (dsimp only; omega), by first | omega | (dsimp only; omega)⟩, ?_⟩
            (repeat((conv=>whnf);first|apply ω0|apply ω1|apply ω2|refine τ3 rfl ?_|refine τ4 rfl ?_|refine ⟨rfl,?_⟩|apply τa|refine τb rfl ?_|refine ⟨⟨by kernel_rfl,by kernel_rfl⟩,?_⟩|refine ⟨by decide,?_⟩|apply τt|apply τf))
            refine aop_tells rfl rfl (put_spec (toldP l 14 n) _ hk32 (by omega)) ⟨AVle.refl _, le_int wk, trivial⟩ fun nx4 => ?_
            (repeat((conv=>whnf);first|apply ω0|apply ω1|apply ω2|refine τ3 rfl ?_|refine τ4 rfl ?_|refine ⟨rfl,?_⟩|apply τa|refine τb rfl ?_|refine ⟨⟨by kernel_rfl,by kernel_rfl⟩,?_⟩|refine ⟨by decide,?_⟩|apply τt|apply τf))
            refine ⟨⟨by first | omega | (dsimp only; omega), by first | omega | (dsimp only; omega)⟩, ?_⟩
            (repeat((conv=>whnf);first|apply ω0|apply ω1|apply ω2|refine τ3 rfl ?_|refine τ4 rfl ?_|refine ⟨rfl,?_⟩|apply τa|refine τb rfl ?_|refine ⟨⟨by kernel_rfl,by kernel_rfl⟩,?_⟩|refine ⟨by decide,?_⟩|apply τt|apply τf))
            intro b2 hb2
            obtain rfl : b2 = true := hb2.trans hb.symm
            (repeat((conv=>whnf);first|apply ω0|apply ω1|apply ω2|refine τ3 rfl ?_|refine τ4 rfl ?_|refine ⟨rfl,?_⟩|apply τa|refine τb rfl ?_|refine ⟨⟨by kernel_rfl,by kernel_rfl⟩,?_⟩|refine ⟨by decide,?_⟩|apply τt|apply τf))
            exact back (n + 1, true, _) ⟨by dsimp only; omega, by rw [sA]; rfl⟩ (by dsimp only; omega) (ele_keep rfl rfl (List.nil_sublist _) (List.nil_sublist _) ⟨AVle.refl _, AVle.refl _, AVle.of_eq (congrArg ints (by dsimp only; rw [s14, if_pos ⟨rfl, rfl⟩])), AVle.of_eq (congrArg ints (by dsimp only; rw [s1, if_neg (by decide)])), AVle.refl _, le_int (wrap_succ (by omega)), trivial⟩)
        · cases A
          · (repeat((conv=>whnf);first|apply ω0|apply ω1|apply ω2|refine τ3 rfl ?_|refine τ4 rfl ?_|refine ⟨rfl,?_⟩|apply τa|refine τb rfl ?_|refine ⟨⟨by kernel_rfl,by kernel_rfl⟩,?_⟩|refine ⟨by decide,?_⟩|apply τt|apply τf))
            refine ⟨⟨by first | omega | (dsimp only; omega), by first | omega | (dsimp only; omega)⟩, ?_⟩
            (repeat((conv=>whnf);first|apply ω0|apply ω1|apply ω2|refine τ3 rfl ?_|refine τ4 rfl ?_|refine ⟨rfl,?_⟩|apply τa|refine τb rfl ?_|refine ⟨⟨by kernel_rfl,by kernel_rfl⟩,?_⟩|refine ⟨by decide,?_⟩|apply τt|apply τf))
            intro b2 hb2
            obtain rfl : b2 = true := hb2.trans hb.symm
            (repeat((conv=>whnf);first|apply ω0|apply ω1|apply ω2|refine τ3 rfl ?_|refine τ4 rfl ?_|refine ⟨rfl,?_⟩|apply τa|refine τb rfl ?_|refine ⟨⟨by kernel_rfl,by kernel_rfl⟩,?_⟩|refine ⟨by decide,?_⟩|apply τt|apply τf))
            refine ⟨⟨by first | omega | (dsimp only; omega), by first | omega | (dsimp only; omega)⟩, ?_⟩
            (repeat((conv=>whnf);first|apply ω0|apply ω1|apply ω2|refine τ3 rfl ?_|refine τ4 rfl ?_|refine ⟨rfl,?_⟩|apply τa|refine τb rfl ?_|refine ⟨⟨by kernel_rfl,by kernel_rfl⟩,?_⟩|refine ⟨by decide,?_⟩|apply τt|apply τf))
            refine aop_tells rfl rfl (put_spec (toldP l 1 n) _ hk32 (by omega)) ⟨AVle.refl _, le_int wk, trivial⟩ fun nx4 => ?_
            (repeat((conv=>whnf);first|apply ω0|apply ω1|apply ω2|refine τ3 rfl ?_|refine τ4 rfl ?_|refine ⟨rfl,?_⟩|apply τa|refine τb rfl ?_|refine ⟨⟨by kernel_rfl,by kernel_rfl⟩,?_⟩|refine ⟨by decide,?_⟩|apply τt|apply τf))
            refine ⟨⟨by first | omega | (dsimp only; omega), by first | omega | (dsimp only; omega)⟩, ?_⟩
            (repeat((conv=>whnf);first|apply ω0|apply ω1|apply ω2|refine τ3 rfl ?_|refine τ4 rfl ?_|refine ⟨rfl,?_⟩|apply τa|refine τb rfl ?_|refine ⟨⟨by kernel_rfl,by kernel_rfl⟩,?_⟩|refine ⟨by decide,?_⟩|apply τt|apply τf))
            intro b2 hb2
            obtain rfl : b2 = true := hb2.trans hb.symm
            (repeat((conv=>whnf);first|apply ω0|apply ω1|apply ω2|refine τ3 rfl ?_|refine τ4 rfl ?_|refine ⟨rfl,?_⟩|apply τa|refine τb rfl ?_|refine ⟨⟨by kernel_rfl,by kernel_rfl⟩,?_⟩|refine ⟨by decide,?_⟩|apply τt|apply τf))
            exact back (n + 1, false, _) ⟨by dsimp only; omega, by rw [sA]; rfl⟩ (by dsimp only; omega) (ele_keep rfl rfl (List.nil_sublist _) (List.nil_sublist _) ⟨AVle.refl _, AVle.refl _, AVle.of_eq (congrArg ints (by dsimp only; rw [s14, if_neg (by decide)])), AVle.of_eq (congrArg ints (by dsimp only; rw [s1, if_pos ⟨rfl, rfl⟩])), AVle.refl _, le_int (wrap_succ (by omega)), trivial⟩)
          · (repeat((conv=>whnf);first|apply ω0|apply ω1|apply ω2|refine τ3 rfl ?_|refine τ4 rfl ?_|refine ⟨rfl,?_⟩|apply τa|refine τb rfl ?_|refine ⟨⟨by kernel_rfl,by kernel_rfl⟩,?_⟩|refine ⟨by decide,?_⟩|apply τt|apply τf))
            refine ⟨⟨by first | omega | (dsimp only; omega), by first | omega | (dsimp only; omega)⟩, ?_⟩
            (repeat((conv=>whnf);first|apply ω0|apply ω1|apply ω2|refine τ3 rfl ?_|refine τ4 rfl ?_|refine ⟨rfl,?_⟩|apply τa|refine τb rfl ?_|refine ⟨⟨by kernel_rfl,by kernel_rfl⟩,?_⟩|refine ⟨by decide,?_⟩|apply τt|apply τf))
            intro b2 hb2
            obtain rfl : b2 = true := hb2.trans hb.symm
            (repeat((conv=>whnf);first|apply ω0|apply ω1|apply ω2|refine τ3 rfl ?_|refine τ4 rfl ?_|refine ⟨rfl,?_⟩|apply τa|refine τb rfl ?_|refine ⟨⟨by kernel_rfl,by kernel_rfl⟩,?_⟩|refine ⟨by decide,?_⟩|apply τt|apply τf))
            refine ⟨⟨by first | omega | (dsimp only; omega), by first | omega | (dsimp only; omega)⟩, ?_⟩
            (repeat((conv=>whnf);first|apply ω0|apply ω1|apply ω2|refine τ3 rfl ?_|refine τ4 rfl ?_|refine ⟨rfl,?_⟩|apply τa|refine τb rfl ?_|refine ⟨⟨by kernel_rfl,by kernel_rfl⟩,?_⟩|refine ⟨by decide,?_⟩|apply τt|apply τf))
            refine aop_tells rfl rfl (put_spec (toldP l 1 n) _ hk32 (by omega)) ⟨AVle.refl _, le_int wk, trivial⟩ fun nx4 => ?_
            (repeat((conv=>whnf);first|apply ω0|apply ω1|apply ω2|refine τ3 rfl ?_|refine τ4 rfl ?_|refine ⟨rfl,?_⟩|apply τa|refine τb rfl ?_|refine ⟨⟨by kernel_rfl,by kernel_rfl⟩,?_⟩|refine ⟨by decide,?_⟩|apply τt|apply τf))
            exact back (n + 1, true, _) ⟨by dsimp only; omega, by rw [sA]; rfl⟩ (by dsimp only; omega) (ele_keep rfl rfl (List.nil_sublist _) (List.nil_sublist _) ⟨AVle.refl _, AVle.refl _, AVle.of_eq (congrArg ints (by dsimp only; rw [s14, if_neg (by decide)])), AVle.of_eq (congrArg ints (by dsimp only; rw [s1, if_pos ⟨rfl, rfl⟩])), AVle.refl _, le_int (wrap_succ (by omega)), trivial⟩)
        · cases A
          · (repeat((conv=>whnf);first|apply ω0|apply ω1|apply ω2|refine τ3 rfl ?_|refine τ4 rfl ?_|refine ⟨rfl,?_⟩|apply τa|refine τb rfl ?_|refine ⟨⟨by kernel_rfl,by kernel_rfl⟩,?_⟩|refine ⟨by decide,?_⟩|apply τt|apply τf))
            refine ⟨⟨by first | omega | (dsimp only; omega), by first | omega | (dsimp only; omega)⟩, ?_⟩
            (repeat((conv=>whnf);first|apply ω0|apply ω1|apply ω2|refine τ3 rfl ?_|refine τ4 rfl ?_|refine ⟨rfl,?_⟩|apply τa|refine τb rfl ?_|refine ⟨⟨by kernel_rfl,by kernel_rfl⟩,?_⟩|refine ⟨by decide,?_⟩|apply τt|apply τf))
            intro b2 hb2
            obtain rfl : b2 = true := hb2.trans hb.symm
            (repeat((conv=>whnf);first|apply ω0|apply ω1|apply ω2|refine τ3 rfl ?_|refine τ4 rfl ?_|refine ⟨rfl,?_⟩|apply τa|refine τb rfl ?_|refine ⟨⟨by kernel_rfl,by kernel_rfl⟩,?_⟩|refine ⟨by decide,?_⟩|apply τt|apply τf))
            refine ⟨⟨by first | omega | (dsimp only; omega), by first | omega | (dsimp only; omega)⟩, ?_⟩
            (repeat((conv=>whnf);first|apply ω0|apply ω1|apply ω2|refine τ3 rfl ?_|refine τ4 rfl ?_|refine ⟨rfl,?_⟩|apply τa|refine τb rfl ?_|refine ⟨⟨by kernel_rfl,by kernel_rfl⟩,?_⟩|refine ⟨by decide,?_⟩|apply τt|apply τf))
            intro b2 hb2
            obtain rfl : b2 = true := hb2.trans hb.symm
            (repeat((conv=>whnf);first|apply ω0|apply ω1|apply ω2|refine τ3 rfl ?_|refine τ4 rfl ?_|refine ⟨rfl,?_⟩|apply τa|refine τb rfl ?_|refine ⟨⟨by kernel_rfl,by kernel_rfl⟩,?_⟩|refine ⟨by decide,?_⟩|apply τt|apply τf))
            exact back (n + 1, true, _) ⟨by dsimp only; omega, by rw [sA]; rfl⟩ (by dsimp only; omega) (ele_keep rfl rfl (List.nil_sublist _) (List.nil_sublist _) ⟨AVle.refl _, AVle.refl _, AVle.of_eq (congrArg ints (by dsimp only; rw [s14, if_neg (by decide)])), AVle.of_eq (congrArg ints (by dsimp only; rw [s1, if_neg (by decide)])), AVle.refl _, le_int (wrap_succ (by omega)), trivial⟩)
          · (repeat((conv=>whnf);first|apply ω0|apply ω1|apply ω2|refine τ3 rfl ?_|refine τ4 rfl ?_|refine ⟨rfl,?_⟩|apply τa|refine τb rfl ?_|refine ⟨⟨by kernel_rfl,by kernel_rfl⟩,?_⟩|refine ⟨by decide,?_⟩|apply τt|apply τf))
            refine ⟨⟨by first | omega | (dsimp only; omega), by first | omega | (dsimp only; omega)⟩, ?_⟩
            (repeat((conv=>whnf);first|apply ω0|apply ω1|apply ω2|refine τ3 rfl ?_|refine τ4 rfl ?_|refine ⟨rfl,?_⟩|apply τa|refine τb rfl ?_|refine ⟨⟨by kernel_rfl,by kernel_rfl⟩,?_⟩|refine ⟨by decide,?_⟩|apply τt|apply τf))
            intro b2 hb2
            obtain rfl : b2 = true := hb2.trans hb.symm
            (repeat((conv=>whnf);first|apply ω0|apply ω1|apply ω2|refine τ3 rfl ?_|refine τ4 rfl ?_|refine ⟨rfl,?_⟩|apply τa|refine τb rfl ?_|refine ⟨⟨by kernel_rfl,by kernel_rfl⟩,?_⟩|refine ⟨by decide,?_⟩|apply τt|apply τf))
            exact back (n + 1, true, _) ⟨by dsimp only; omega, by rw [sA]; rfl⟩ (by dsimp only; omega) (ele_keep rfl rfl (List.nil_sublist _) (List.nil_sublist _) ⟨AVle.refl _, AVle.refl _, AVle.of_eq (congrArg ints (by dsimp only; rw [s14, if_neg (by decide)])), AVle.of_eq (congrArg ints (by dsimp only; rw [s1, if_neg (by decide)])), AVle.refl _, le_int (wrap_succ (by omega)), trivial⟩)
        · cases A
          · (repeat((conv=>whnf);first|apply ω0|apply ω1|apply ω2|refine τ3 rfl ?_|refine τ4 rfl ?_|refine ⟨rfl,?_⟩|apply τa|refine τb rfl ?_|refine ⟨⟨by kernel_rfl,by kernel_rfl⟩,?_⟩|refine ⟨by decide,?_⟩|apply τt|apply τf))
            (intro c hc; obtain rfl : c = false := hc.trans (by first | exact decide_eq_false (by omega) | (simp; omega)); (repeat((conv=>whnf);first|apply ω0|apply ω1|apply ω2|refine τ3 rfl ?_|refine τ4 rfl ?_|refine ⟨rfl,?_⟩|apply τa|refine τb rfl ?_|refine ⟨⟨by kernel_rfl,by kernel_rfl⟩,?_⟩|refine ⟨by decide,?_⟩|apply τt|apply τf)))
            refine ⟨⟨by first | omega | (dsimp only; omega), by first | omega | (dsimp only; omega)⟩, ?_⟩
            (repeat((conv=>whnf);first|apply ω0|apply ω1|apply ω2|refine τ3 rfl ?_|refine τ4 rfl ?_|refine ⟨rfl,?_⟩|apply τa|refine τb rfl ?_|refine ⟨⟨by kernel_rfl,by kernel_rfl⟩,?_⟩|refine ⟨by decide,?_⟩|apply τt|apply τf))
            intro b2 hb2
            obtain rfl : b2 = true := hb2.trans hb.symm
            (repeat((conv=>whnf);first|apply ω0|apply ω1|apply ω2|refine τ3 rfl ?_|refine τ4 rfl ?_|refine ⟨rfl,?_⟩|apply τa|refine τb rfl ?_|refine ⟨⟨by kernel_rfl,by kernel_rfl⟩,?_⟩|refine ⟨by decide,?_⟩|apply τt|apply τf))
            (intro c hc; obtain rfl : c = false := hc.trans (by first | exact decide_eq_false (by omega) | (simp; omega)); (repeat((conv=>whnf);first|apply ω0|apply ω1|apply ω2|refine τ3 rfl ?_|refine τ4 rfl ?_|refine ⟨rfl,?_⟩|apply τa|refine τb rfl ?_|refine ⟨⟨by kernel_rfl,by kernel_rfl⟩,?_⟩|refine ⟨by decide,?_⟩|apply τt|apply τf)))
            refine ⟨⟨by first | omega | (dsimp only; omega), by first | omega | (dsimp only; omega)⟩, ?_⟩
            (repeat((conv=>whnf);first|apply ω0|apply ω1|apply ω2|refine τ3 rfl ?_|refine τ4 rfl ?_|refine ⟨rfl,?_⟩|apply τa|refine τb rfl ?_|refine ⟨⟨by kernel_rfl,by kernel_rfl⟩,?_⟩|refine ⟨by decide,?_⟩|apply τt|apply τf))
            intro b2 hb2
            obtain rfl : b2 = true := hb2.trans hb.symm
            (repeat((conv=>whnf);first|apply ω0|apply ω1|apply ω2|refine τ3 rfl ?_|refine τ4 rfl ?_|refine ⟨rfl,?_⟩|apply τa|refine τb rfl ?_|refine ⟨⟨by kernel_rfl,by kernel_rfl⟩,?_⟩|refine ⟨by decide,?_⟩|apply τt|apply τf))
            (intro c hc; obtain rfl : c = false := hc.trans (by first | exact decide_eq_false (by omega) | (simp; omega)); (repeat((conv=>whnf);first|apply ω0|apply ω1|apply ω2|refine τ3 rfl ?_|refine τ4 rfl ?_|refine ⟨rfl,?_⟩|apply τa|refine τb rfl ?_|refine ⟨⟨by kernel_rfl,by kernel_rfl⟩,?_⟩|refine ⟨by decide,?_⟩|apply τt|apply τf)))
            exact back (n + 1, false, _) ⟨by dsimp only; omega, by rw [sA]; first | rfl | simp [k15]⟩ (by dsimp only; omega) (ele_keep rfl rfl (List.nil_sublist _) (List.nil_sublist _) ⟨AVle.refl _, AVle.refl _, AVle.of_eq (congrArg ints (by dsimp only; rw [s14, if_neg (by omega)])), AVle.of_eq (congrArg ints (by dsimp only; rw [s1, if_neg (by omega)])), AVle.refl _, le_int (wrap_succ (by omega)), trivial⟩)
          · (repeat((conv=>whnf);first|apply ω0|apply ω1|apply ω2|refine τ3 rfl ?_|refine τ4 rfl ?_|refine ⟨rfl,?_⟩|apply τa|refine τb rfl ?_|refine ⟨⟨by kernel_rfl,by kernel_rfl⟩,?_⟩|refine ⟨by decide,?_⟩|apply τt|apply τf))
            (intro c hc; obtain rfl : c = false := hc.trans (by first | exact decide_eq_false (by omega) | (simp; omega)); (repeat((conv=>whnf);first|apply ω0|apply ω1|apply ω2|refine τ3 rfl ?_|refine τ4 rfl ?_|refine ⟨rfl,?_⟩|apply τa|refine τb rfl ?_|refine ⟨⟨by kernel_rfl,by kernel_rfl⟩,?_⟩|refine ⟨by decide,?_⟩|apply τt|apply τf)))
            refine ⟨⟨by first | omega | (dsimp only; omega), by first | omega | (dsimp only; omega)⟩, ?_⟩
            (repeat((conv=>whnf);first|apply ω0|apply ω1|apply ω2|refine τ3 rfl ?_|refine τ4 rfl ?_|refine ⟨rfl,?_⟩|apply τa|refine τb rfl ?_|refine ⟨⟨by kernel_rfl,by kernel_rfl⟩,?_⟩|refine ⟨by decide,?_⟩|apply τt|apply τf))
            intro b2 hb2
            obtain rfl : b2 = true := hb2.trans hb.symm
            (repeat((conv=>whnf);first|apply ω0|apply ω1|apply ω2|refine τ3 rfl ?_|refine τ4 rfl ?_|refine ⟨rfl,?_⟩|apply τa|refine τb rfl ?_|refine ⟨⟨by kernel_rfl,by kernel_rfl⟩,?_⟩|refine ⟨by decide,?_⟩|apply τt|apply τf))
            (intro c hc; obtain rfl : c = false := hc.trans (by first | exact decide_eq_false (by omega) | (simp; omega)); (repeat((conv=>whnf);first|apply ω0|apply ω1|apply ω2|refine τ3 rfl ?_|refine τ4 rfl ?_|refine ⟨rfl,?_⟩|apply τa|refine τb rfl ?_|refine ⟨⟨by kernel_rfl,by kernel_rfl⟩,?_⟩|refine ⟨by decide,?_⟩|apply τt|apply τf)))
            exact back (n + 1, true, _) ⟨by dsimp only; omega, by rw [sA]; first | rfl | simp [k15]⟩ (by dsimp only; omega) (ele_keep rfl rfl (List.nil_sublist _) (List.nil_sublist _) ⟨AVle.refl _, AVle.refl _, AVle.of_eq (congrArg ints (by dsimp only; rw [s14, if_neg (by omega)])), AVle.of_eq (congrArg ints (by dsimp only; rw [s1, if_neg (by omega)])), AVle.refl _, le_int (wrap_succ (by omega)), trivial⟩)
end Go.Proofs.W
