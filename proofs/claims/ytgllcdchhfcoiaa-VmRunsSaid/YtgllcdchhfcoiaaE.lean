import Derived.Test.YtgllcdchhfcoiaaD
import Derived.Test.YtgllcdchhfcoiaaC
set_option linter.unusedVariables false
set_option linter.unusedSimpArgs false
namespace Go.Proofs.W
open Go.Vl
set_option maxRecDepth 100000

theorem all_spec (l : List Ins) (hl : l.length ≤ 1000000) : Tells Try.prog 18 [inss l] (inss l) := by
  refine tells_of_aw Try.func18 rfl rfl fun nx => ?_
  (repeat ((conv=>whnf);first|refine ω0 ?_|refine ω1 ?_|refine ω2 ?_|refine ω3 ?_|refine ω4 rfl ?_|refine ω5 rfl ?_|refine ω6 ?_|refine ω7 ?_|refine ω8 ?_|refine ⟨rfl,?_⟩|refine ⟨trivial,?_⟩|refine ⟨⟨rfl,Nat.le_of_ble_eq_true rfl⟩,?_⟩|refine ⟨⟨by kernel_rfl,by kernel_rfl⟩,?_⟩|refine ⟨by decide,?_⟩|refine lit_true ?_|refine lit_false ?_))
  refine aw_loop (fun s : Nat × Option Nat × Nat => mk 36 [(0, inss l), (3, .os 4 s.1 (fun k => insA (l.getD k ins0)) (nmd s.2.1)), (4, int s.1)] ⟨[], pmOf (nmd s.2.1) (s.1 * 4), s.2.2, 0⟩) (fun s => s.1 ≤ l.length ∧ (s.2.1 = none → s.1 = 0)) (fun s => l.length - s.1) ?_ ?_
  · exact ⟨(0, none, nx), ⟨by simp, fun _ => rfl⟩, ele_mk rfl rfl ⟨AVle.refl _, AVle.os_nil, AVle.refl _, trivial⟩⟩
  · rintro ⟨i, oi, nx2⟩ ⟨h3, h4⟩
    dsimp only at h3 h4
    (repeat ((conv=>whnf);first|refine ω0 ?_|refine ω1 ?_|refine ω2 ?_|refine ω3 ?_|refine ω4 rfl ?_|refine ω5 rfl ?_|refine ω6 ?_|refine ω7 ?_|refine ω8 ?_|refine ⟨rfl,?_⟩|refine ⟨trivial,?_⟩|refine ⟨⟨rfl,Nat.le_of_ble_eq_true rfl⟩,?_⟩|refine ⟨⟨by kernel_rfl,by kernel_rfl⟩,?_⟩|refine ⟨by decide,?_⟩|refine lit_true ?_|refine lit_false ?_))
    intro c h5; cases c
    · have h6 := not_of h5
      dsimp only at h6
      obtain rfl : i = l.length := by omega
      (repeat ((conv=>whnf);first|refine ω0 ?_|refine ω1 ?_|refine ω2 ?_|refine ω3 ?_|refine ω4 rfl ?_|refine ω5 rfl ?_|refine ω6 ?_|refine ω7 ?_|refine ω8 ?_|refine ⟨rfl,?_⟩|refine ⟨trivial,?_⟩|refine ⟨⟨rfl,Nat.le_of_ble_eq_true rfl⟩,?_⟩|refine ⟨⟨by kernel_rfl,by kernel_rfl⟩,?_⟩|refine ⟨by decide,?_⟩|refine lit_true ?_|refine lit_false ?_))
      exact ret_tells rfl AVle.os_sl
    · have h6 := yes_of h5
      dsimp only at h6
      rcases oi with _ | id
      · obtain rfl := h4 rfl
        (repeat ((conv=>whnf);first|refine ω0 ?_|refine ω1 ?_|refine ω2 ?_|refine ω3 ?_|refine ω4 rfl ?_|refine ω5 rfl ?_|refine ω6 ?_|refine ω7 ?_|refine ω8 ?_|refine ⟨rfl,?_⟩|refine ⟨trivial,?_⟩|refine ⟨⟨rfl,Nat.le_of_ble_eq_true rfl⟩,?_⟩|refine ⟨⟨by kernel_rfl,by kernel_rfl⟩,?_⟩|refine ⟨by decide,?_⟩|refine lit_true ?_|refine lit_false ?_))
        (refine aw_draw 23 ?_ ?_ ?_ ?_; (· kernel_rfl); (· kernel_rfl); (· kernel_rfl))
        (repeat ((conv=>whnf);first|refine ω0 ?_|refine ω1 ?_|refine ω2 ?_|refine ω3 ?_|refine ω4 rfl ?_|refine ω5 rfl ?_|refine ω6 ?_|refine ω7 ?_|refine ω8 ?_|refine ⟨rfl,?_⟩|refine ⟨trivial,?_⟩|refine ⟨⟨rfl,Nat.le_of_ble_eq_true rfl⟩,?_⟩|refine ⟨⟨by kernel_rfl,by kernel_rfl⟩,?_⟩|refine ⟨by decide,?_⟩|refine lit_true ?_|refine lit_false ?_))
        refine ⟨⟨by dsimp only; omega, by dsimp only; omega⟩, ?_⟩
        (repeat ((conv=>whnf);first|refine ω0 ?_|refine ω1 ?_|refine ω2 ?_|refine ω3 ?_|refine ω4 rfl ?_|refine ω5 rfl ?_|refine ω6 ?_|refine ω7 ?_|refine ω8 ?_|refine ⟨rfl,?_⟩|refine ⟨trivial,?_⟩|refine ⟨⟨rfl,Nat.le_of_ble_eq_true rfl⟩,?_⟩|refine ⟨⟨by kernel_rfl,by kernel_rfl⟩,?_⟩|refine ⟨by decide,?_⟩|refine lit_true ?_|refine lit_false ?_))
        refine ⟨⟨by dsimp only; omega, by dsimp only; omega⟩, ?_⟩
        (repeat ((conv=>whnf);first|refine ω0 ?_|refine ω1 ?_|refine ω2 ?_|refine ω3 ?_|refine ω4 rfl ?_|refine ω5 rfl ?_|refine ω6 ?_|refine ω7 ?_|refine ω8 ?_|refine ⟨rfl,?_⟩|refine ⟨trivial,?_⟩|refine ⟨⟨rfl,Nat.le_of_ble_eq_true rfl⟩,?_⟩|refine ⟨⟨by kernel_rfl,by kernel_rfl⟩,?_⟩|refine ⟨by decide,?_⟩|refine lit_true ?_|refine lit_false ?_))
        refine ⟨⟨by dsimp only; omega, by dsimp only; omega⟩, ?_⟩
        (repeat ((conv=>whnf);first|refine ω0 ?_|refine ω1 ?_|refine ω2 ?_|refine ω3 ?_|refine ω4 rfl ?_|refine ω5 rfl ?_|refine ω6 ?_|refine ω7 ?_|refine ω8 ?_|refine ⟨rfl,?_⟩|refine ⟨trivial,?_⟩|refine ⟨⟨rfl,Nat.le_of_ble_eq_true rfl⟩,?_⟩|refine ⟨⟨by kernel_rfl,by kernel_rfl⟩,?_⟩|refine ⟨by decide,?_⟩|refine lit_true ?_|refine lit_false ?_))
        refine ⟨⟨by dsimp only; omega, by dsimp only; omega⟩, ?_⟩
        (repeat ((conv=>whnf);first|refine ω0 ?_|refine ω1 ?_|refine ω2 ?_|refine ω3 ?_|refine ω4 rfl ?_|refine ω5 rfl ?_|refine ω6 ?_|refine ω7 ?_|refine ω8 ?_|refine ⟨rfl,?_⟩|refine ⟨trivial,?_⟩|refine ⟨⟨rfl,Nat.le_of_ble_eq_true rfl⟩,?_⟩|refine ⟨⟨by kernel_rfl,by kernel_rfl⟩,?_⟩|refine ⟨by decide,?_⟩|refine lit_true ?_|refine lit_false ?_))
        refine ⟨oneRow_one rfl, by show (0 + 1) * 8 ≤ _; omega, by dsimp only; omega, ?_⟩
        (repeat ((conv=>whnf);first|refine ω0 ?_|refine ω1 ?_|refine ω2 ?_|refine ω3 ?_|refine ω4 rfl ?_|refine ω5 rfl ?_|refine ω6 ?_|refine ω7 ?_|refine ω8 ?_|refine ⟨rfl,?_⟩|refine ⟨trivial,?_⟩|refine ⟨⟨rfl,Nat.le_of_ble_eq_true rfl⟩,?_⟩|refine ⟨⟨by kernel_rfl,by kernel_rfl⟩,?_⟩|refine ⟨by decide,?_⟩|refine lit_true ?_|refine lit_false ?_))
        exact back (0 + 1, some nx2, nx2 + 1) ⟨by dsimp only; omega, (fun h => by cases h)⟩ (by dsimp only; omega) (ele_keep rfl rfl .slnil (.cons_cons _ .slnil) ⟨AVle.refl _, AVle.os_fun (appF_one (fun k hk => absurd hk (Nat.not_lt_zero _)) rfl), le_int (wrap_succ (by dsimp only; omega)), trivial⟩)
      · (repeat ((conv=>whnf);first|refine ω0 ?_|refine ω1 ?_|refine ω2 ?_|refine ω3 ?_|refine ω4 rfl ?_|refine ω5 rfl ?_|refine ω6 ?_|refine ω7 ?_|refine ω8 ?_|refine ⟨rfl,?_⟩|refine ⟨trivial,?_⟩|refine ⟨⟨rfl,Nat.le_of_ble_eq_true rfl⟩,?_⟩|refine ⟨⟨by kernel_rfl,by kernel_rfl⟩,?_⟩|refine ⟨by decide,?_⟩|refine lit_true ?_|refine lit_false ?_))
        (refine aw_draw 23 ?_ ?_ ?_ ?_; (· kernel_rfl); (· kernel_rfl); (· kernel_rfl))
        (repeat ((conv=>whnf);first|refine ω0 ?_|refine ω1 ?_|refine ω2 ?_|refine ω3 ?_|refine ω4 rfl ?_|refine ω5 rfl ?_|refine ω6 ?_|refine ω7 ?_|refine ω8 ?_|refine ⟨rfl,?_⟩|refine ⟨trivial,?_⟩|refine ⟨⟨rfl,Nat.le_of_ble_eq_true rfl⟩,?_⟩|refine ⟨⟨by kernel_rfl,by kernel_rfl⟩,?_⟩|refine ⟨by decide,?_⟩|refine lit_true ?_|refine lit_false ?_))
        refine ⟨⟨by dsimp only; omega, by dsimp only; omega⟩, ?_⟩
        (repeat ((conv=>whnf);first|refine ω0 ?_|refine ω1 ?_|refine ω2 ?_|refine ω3 ?_|refine ω4 rfl ?_|refine ω5 rfl ?_|refine ω6 ?_|refine ω7 ?_|refine ω8 ?_|refine ⟨rfl,?_⟩|refine ⟨trivial,?_⟩|refine ⟨⟨rfl,Nat.le_of_ble_eq_true rfl⟩,?_⟩|refine ⟨⟨by kernel_rfl,by kernel_rfl⟩,?_⟩|refine ⟨by decide,?_⟩|refine lit_true ?_|refine lit_false ?_))
        refine ⟨⟨by dsimp only; omega, by dsimp only; omega⟩, ?_⟩
        (repeat ((conv=>whnf);first|refine ω0 ?_|refine ω1 ?_|refine ω2 ?_|refine ω3 ?_|refine ω4 rfl ?_|refine ω5 rfl ?_|refine ω6 ?_|refine ω7 ?_|refine ω8 ?_|refine ⟨rfl,?_⟩|refine ⟨trivial,?_⟩|refine ⟨⟨rfl,Nat.le_of_ble_eq_true rfl⟩,?_⟩|refine ⟨⟨by kernel_rfl,by kernel_rfl⟩,?_⟩|refine ⟨by decide,?_⟩|refine lit_true ?_|refine lit_false ?_))
        refine ⟨⟨by dsimp only; omega, by dsimp only; omega⟩, ?_⟩
        (repeat ((conv=>whnf);first|refine ω0 ?_|refine ω1 ?_|refine ω2 ?_|refine ω3 ?_|refine ω4 rfl ?_|refine ω5 rfl ?_|refine ω6 ?_|refine ω7 ?_|refine ω8 ?_|refine ⟨rfl,?_⟩|refine ⟨trivial,?_⟩|refine ⟨⟨rfl,Nat.le_of_ble_eq_true rfl⟩,?_⟩|refine ⟨⟨by kernel_rfl,by kernel_rfl⟩,?_⟩|refine ⟨by decide,?_⟩|refine lit_true ?_|refine lit_false ?_))
        refine ⟨⟨by dsimp only; omega, by dsimp only; omega⟩, ?_⟩
        (repeat ((conv=>whnf);first|refine ω0 ?_|refine ω1 ?_|refine ω2 ?_|refine ω3 ?_|refine ω4 rfl ?_|refine ω5 rfl ?_|refine ω6 ?_|refine ω7 ?_|refine ω8 ?_|refine ⟨rfl,?_⟩|refine ⟨trivial,?_⟩|refine ⟨⟨rfl,Nat.le_of_ble_eq_true rfl⟩,?_⟩|refine ⟨⟨by kernel_rfl,by kernel_rfl⟩,?_⟩|refine ⟨by decide,?_⟩|refine lit_true ?_|refine lit_false ?_))
        refine ⟨oneRow_one rfl, by show (i + 1) * 8 ≤ _; omega, by dsimp only; omega, ?_⟩
        (repeat ((conv=>whnf);first|refine ω0 ?_|refine ω1 ?_|refine ω2 ?_|refine ω3 ?_|refine ω4 rfl ?_|refine ω5 rfl ?_|refine ω6 ?_|refine ω7 ?_|refine ω8 ?_|refine ⟨rfl,?_⟩|refine ⟨trivial,?_⟩|refine ⟨⟨rfl,Nat.le_of_ble_eq_true rfl⟩,?_⟩|refine ⟨⟨by kernel_rfl,by kernel_rfl⟩,?_⟩|refine ⟨by decide,?_⟩|refine lit_true ?_|refine lit_false ?_))
        exact back (i + 1, some nx2, nx2 + 1) ⟨by dsimp only; omega, (fun h => by cases h)⟩ (by dsimp only; omega) (ele_keep rfl rfl .slnil (.cons_cons _ .slnil) ⟨AVle.refl _, AVle.os_fun (appF_one (fun k hk => rfl) rfl), le_int (wrap_succ (by dsimp only; omega)), trivial⟩)
end Go.Proofs.W

namespace Go.Proofs.W

def stopC (l : List Ins) (c : Nat) (n : Nat) : Bool := decide (isStore (kind l n)) && decide ((l.getD n ins0).k = c)
theorem fold_bit (now c : Nat) : ∀ (ts : List Nat) (a : List Nat) (n : Nat), (∀ t ∈ ts, t < a.length) → ((ts.foldl (goI now) a).getD n 0).testBit c = ((a.getD n 0).testBit c && (!decide (n ∈ ts) || now.testBit c))
  | [], a, n, _ => by simp
  | t :: ts, a, n, h => by
    rw [List.foldl_cons, fold_bit now c ts (goI now a t) n (fun x hx => by rw [goI_length]; exact h x (by simp [hx])), goI_get]
    have ht := h t (by simp)
    by_cases h1 : t = n
    · subst h1
      rw [if_pos ⟨rfl, ht⟩, Nat.testBit_and]
      by_cases h2 : t ∈ ts <;> cases (a.getD t 0).testBit c <;> cases now.testBit c <;> simp [h2]
    · rw [if_neg (fun h => h1 h.1)]
      have h3 : decide (n ∈ t :: ts) = decide (n ∈ ts) := decide_eq_decide.2 (by rw [List.mem_cons]; exact ⟨fun h => h.resolve_left fun h2 => h1 h2.symm, .inr⟩)
      rw [h3]
theorem foldT_bit : ∀ (ts : List Nat) (o : List Bool) (k : Nat), (∀ t ∈ ts, t < o.length) → (ts.foldl setT o).getD k false = (o.getD k false || decide (k ∈ ts)) := fun ts o k h => by
  rw [Bool.eq_iff_iff, foldT_get ts o k h]; simp
theorem init_bit {n k c : Nat} (hn : n ≤ 4096) (hk : k < n) (hc : c < 16) : ((initS n).getD k 0).testBit c = !(scan0 n).getD k false := by
  rw [initS_get hn]
  by_cases h : k = 0
  · subst h
    rw [(scan0_get hk 0).2 rfl]; simp
  · have h1 : (scan0 n).getD k false = false := by
      cases h2 : (scan0 n).getD k false
      · rfl
      · exact absurd ((scan0_get (by omega) k).1 h2) h
    rw [h1, if_pos ⟨by omega, hk⟩]
    show (2 ^ 16 - 1).testBit c = _
    rw [Nat.testBit_two_pow_sub_one]; simp [hc]
theorem now_bit {l : List Ins} (n c a : Nat) : (nowI (l.getD n ins0) a).testBit c = (a.testBit c || stopC l c n) := by
  unfold nowI stopC
  have hk : (kof (l.getD n ins0).code).1 = kind l n := rfl
  rw [hk]
  by_cases h : isStore (kind l n)
  · rw [if_pos h, Nat.testBit_or, Nat.testBit_two_pow]; simp [h]
  · rw [if_neg h]; simp [h]
/-- What is stored on every way, bit by bit: the cells without which nothing leads there. -/
theorem at_scan {l : List Ins} (hf : Formed l) {c : Nat} (hc : c < 16) : ∀ k, k ≤ l.length → ∀ n, n < l.length → ((atI l k).getD n 0).testBit c = !(scanN l (stopC l c) k).getD n false := by
  intro k
  induction k with
  | zero => intro _ n hn; exact init_bit hf.le hn hc
  | succ k ih =>
    intro hk n hn
    have hnx := nexts_lt hf (n := k) (by omega)
    rw [atI_succ, scanN_succ, stepS, scanStep, fold_bit _ _ _ _ _ (fun t ht => by rw [atI_length hf.le]; have := hnx t ht; have := hf.le; omega), now_bit, ih (by omega) n hn, ih (by omega) k (by omega)]
    split
    · rename_i h
      rw [foldT_bit _ _ _ (fun t ht => by rw [scanN_length]; exact (hnx t ht).2)]
      simp only [Bool.and_eq_true, Bool.not_eq_true'] at h
      rw [h.1, h.2]
      cases (scanN l (stopC l c) k).getD n false <;> cases decide (n ∈ nextsI l k) <;> rfl
    · rename_i h
      cases h1 : (scanN l (stopC l c) k).getD k false <;> cases h2 : stopC l c k
      · simp
      · simp
      · rw [h1, h2] at h; exact absurd rfl h
      · simp
theorem stored_bit {l : List Ins} (hf : Formed l) {c n : Nat} (hc : c < 16) (hn : n < l.length) : ((storedI l).getD n 0).testBit c = true ↔ ¬ Rch l (stopC l c) n := by
  have h1 : (storedI l).getD n 0 = (atI l l.length).getD n 0 := by
    unfold storedI; simp only [List.getD, List.getElem?_take]; rw [if_pos hn]
  rw [h1, at_scan hf hc l.length (Nat.le_refl _) n hn, Bool.not_eq_true', ← reachC_iff hf]
  show reachC l _ |>.getD n false |> fun x => x = false ↔ _
  simp [reachC]
def Right (l : List Ins) : Prop := Formed l ∧ ∀ n, n < l.length → kind l n = 3 ∨ kind l n = 6 → ¬ Rch l (stopC l (l.getD n ins0).k) n
theorem check_iff {l : List Ins} : (checkI l).2 = 0 ↔ Right l := by
  have key : ∀ (hf : Formed l) n, n < l.length → kind l n = 3 ∨ kind l n = 6 → ((storedI l).getD n 0 / 2 ^ (l.getD n ins0).k % 2 = 0 ↔ Rch l (stopC l (l.getD n ins0).k) n) := by
    intro hf n hn hk
    have hk16 : (l.getD n ins0).k < 16 := by
      have := (wrong_parts (hf.ok n hn)).2.2.1
      have hkd : (kof (l.getD n ins0).code).1 = kind l n := rfl
      omega
    have h1 := stored_bit hf hk16 hn
    rw [Nat.testBit_eq_decide_div_mod_eq, decide_eq_true_eq] at h1
    constructor
    · intro h
      refine Classical.byContradiction fun h2 => ?_
      have := h1.2 h2
      omega
    · intro h
      have h3 : ¬ ((storedI l).getD n 0 / 2 ^ (l.getD n ins0).k % 2 = 1) := fun h2 => h1.1 h2 h
      omega
  constructor
  · intro h
    unfold checkI at h
    split at h
    · exact absurd h (by assumption)
    · rename_i h0
      have hf : Formed l := formed_of (by omega)
      split at h
      · cases h
      · rename_i hn
        rw [List.find?_range_eq_none] at hn
        refine ⟨hf, fun n hnl hk hr => ?_⟩
        have := hn n hnl
        simp only [Bool.not_eq_true', decide_eq_false_iff_not] at this
        exact this ⟨hk, (key hf n hnl hk).2 hr⟩
  · rintro ⟨hf, h⟩
    unfold checkI
    rw [if_neg (fun h0 => formed_fail h0 hf)]
    rw [List.find?_range_eq_none.2 (fun i hi => by
      simp only [Bool.not_eq_true', decide_eq_false_iff_not]
      rintro ⟨h1, h2⟩
      exact h i hi h1 ((key hf i hi h1).1 h2))]
end Go.Proofs.W

namespace Go.Proofs.W

section
variable {l : List Ins}
def cnt (l : List Ins) (n : Nat) : Nat := ((reachI l).take n).count true
theorem reachedOf_ok (h : Right l) : reachedOf l = reachI l := by unfold reachedOf; rw [if_pos (check_iff.2 h)]
theorem cnt_zero : cnt l 0 = 0 := by simp [cnt]
theorem cnt_succ {n : Nat} (hn : n < l.length) : cnt l (n + 1) = cnt l n + (if (reachI l).getD n false then 1 else 0) := count_take (by rw [reachI_length]; exact hn)
theorem cnt_in (hf : Formed l) {n : Nat} (h : Reached l n) : cnt l (n + 1) = cnt l n + 1 := by
  rw [cnt_succ (h.lt hf), (reachI_iff hf n).2 h]; rfl
theorem cnt_mono {a b : Nat} (h : a ≤ b) : cnt l a ≤ cnt l b := by
  obtain ⟨d, rfl⟩ : ∃ d, b = a + d := ⟨b - a, by omega⟩
  exact (count_mono (reachI l) a d).1
theorem cnt_lt (hf : Formed l) {a b : Nat} (ha : Reached l a) (h : a < b) : cnt l a < cnt l b := by
  have h1 := cnt_in hf ha
  have h2 := cnt_mono (l := l) (show a + 1 ≤ b from h)
  omega
theorem cnt_inj (hf : Formed l) {a b : Nat} (ha : Reached l a) (hb : Reached l b) (h : cnt l a = cnt l b) : a = b := by
  rcases Nat.lt_trichotomy a b with h1 | h1 | h1
  · have := cnt_lt hf ha h1; omega
  · exact h1
  · have := cnt_lt hf hb h1; omega
theorem prTo_len (h : Right l) : ∀ n, n ≤ l.length → (prTo l n).length = cnt l n := by
  intro n
  induction n with
  | zero => intro _; rw [cnt_zero]; simp [prTo]
  | succ n ih =>
    intro hn
    rw [prTo_succ, reachedOf_ok h, cnt_succ (by omega), ← ih (by omega)]
    split
    · rename_i h1; simp
    · rename_i h1; simp
theorem prTo_get (h : Right l) {n : Nat} (hr : Reached l n) : ∀ m, n < m → m ≤ l.length → (prTo l m).getD (cnt l n) ins0 = prI l n := by
  intro m
  induction m with
  | zero => intro h; omega
  | succ m ih =>
    intro h1 h2
    have hlen := prTo_len h m (by omega)
    rw [prTo_succ, reachedOf_ok h]
    by_cases h3 : n = m
    · subst h3
      rw [if_pos ((reachI_iff h.1 n).2 hr)]
      simp [List.getD, ← hlen]
    · have h4 := ih (by omega) (by omega)
      have h5 := cnt_lt h.1 hr (show n < m by omega)
      split
      · rw [← h4]
        simp only [List.getD]
        rw [List.getElem?_append_left (by omega)]
      · exact h4
theorem pruneI_ok (h : Right l) : pruneI l = prTo l l.length := by unfold pruneI; rw [reachedOf_ok h, reachI_length]
theorem prune_len (h : Right l) : (pruneI l).length = cnt l l.length := by rw [pruneI_ok h]; exact prTo_len h l.length (Nat.le_refl _)
theorem prune_get (h : Right l) {n : Nat} (hr : Reached l n) : (pruneI l).getD (cnt l n) ins0 = prI l n := by rw [pruneI_ok h]; exact prTo_get h hr l.length (hr.lt h.1) (Nat.le_refl _)
theorem cnt_onto (hf : Formed l) : ∀ m, m ≤ l.length → ∀ j, j < cnt l m → ∃ n, n < m ∧ Reached l n ∧ cnt l n = j := by
  intro m
  induction m with
  | zero => intro _ j hj; rw [cnt_zero] at hj; omega
  | succ m ih =>
    intro hm j hj
    rw [cnt_succ (by omega)] at hj
    by_cases h1 : j < cnt l m
    · obtain ⟨n, h2, h3⟩ := ih (by omega) j h1
      exact ⟨n, by omega, h3⟩
    · split at hj
      · rename_i h2
        exact ⟨m, by omega, (reachI_iff hf m).1 h2, by omega⟩
      · omega
theorem prune_at (h : Right l) {j : Nat} (hj : j < (pruneI l).length) : ∃ n, Reached l n ∧ cnt l n = j := by
  rw [prune_len h] at hj
  obtain ⟨n, _, h1⟩ := cnt_onto h.1 l.length (Nat.le_refl _) j hj
  exact ⟨n, h1⟩
theorem cnt_len (h : Right l) {n : Nat} (hr : Reached l n) : cnt l n < (pruneI l).length := by rw [prune_len h]; exact cnt_lt h.1 hr (hr.lt h.1)
theorem to_cnt (h : Right l) {n k : Nat} (hn : Reached l n) (ht : n + 1 + k < l.length) : (toI (sums (reachedOf l)) n k).toNat + (cnt l n + 1) = cnt l (n + 1 + k) ∧ (toI (sums (reachedOf l)) n k).toNat ≤ k := by
  have hle := h.1.le
  have h1 := to_sums (o := reachedOf l) (n := n) (k := k) (by rw [reachedOf_ok h, reachI_length]; omega) (by rw [reachedOf_ok h, reachI_length]; omega)
  have h2 := cnt_in h.1 hn
  have h3 := cnt_mono (l := l) (show n + 1 ≤ n + 1 + k by omega)
  rw [h1.1]
  rw [reachedOf_ok h] at *
  unfold cnt at *
  refine ⟨by omega, ?_⟩
  have := h1.2.2
  rw [h1.1] at this
  omega
theorem next_in (h : Right l) {n t : Nat} (hr : Reached l n) (ht : t ∈ nextsI l n) : Reached l t := .step n t hr rfl ht
theorem pr_code (n : Nat) : (prI l n).code = (l.getD n ins0).code := by unfold prI prAt; split; · rfl
                                                                        split <;> rfl
theorem pr_kind (h : Right l) {n : Nat} (hr : Reached l n) : kind (pruneI l) (cnt l n) = kind l n := by unfold kind; rw [prune_get h hr, pr_code]
theorem pr_k {n : Nat} (hk : kind l n ≠ 13) : (prI l n).k = (l.getD n ins0).k := by unfold prI prAt; rw [if_neg hk]; split <;> rfl
theorem pr_nexts (h : Right l) {n : Nat} (hr : Reached l n) : nextsI (pruneI l) (cnt l n) = (nextsI l n).map (cnt l) := by
  have hnx := nexts_lt h.1 (hr.lt h.1)
  have h1 := cnt_in h.1 hr
  unfold nextsI at hnx ⊢
  rw [pr_kind h hr, prune_get h hr]
  by_cases k1 : kind l n = 14 ∨ kind l n = 15
  · rw [if_pos k1, if_pos k1]; rfl
  · rw [if_neg k1] at hnx
    rw [if_neg k1, if_neg k1]
    by_cases k2 : kind l n = 13
    · rw [if_pos k2] at hnx
      rw [if_pos k2, if_pos k2]
      have h2 := hnx _ (List.mem_singleton.2 rfl)
      have h3 := to_cnt h hr h2.2
      have h4 : (prI l n).k = (toI (sums (reachedOf l)) n (l.getD n ins0).k).toNat := by unfold prI prAt; rw [if_pos k2]
      rw [h4]
      simp only [List.map_cons, List.map_nil, List.cons.injEq, and_true]
      omega
    · rw [if_neg k2] at hnx
      rw [if_neg k2, if_neg k2]
      by_cases k3 : 25 ≤ kind l n
      · rw [if_pos k3] at hnx
        rw [if_pos k3, if_pos k3]
        have h2 := hnx (n + 1 + (l.getD n ins0).jt) (by simp)
        have h2' := hnx (n + 1 + (l.getD n ins0).jf) (by simp)
        have h3 := to_cnt h hr h2.2
        have h3' := to_cnt h hr h2'.2
        have h4 : (prI l n).jt = (toI (sums (reachedOf l)) n (l.getD n ins0).jt).toNat := by unfold prI prAt; rw [if_neg k2, if_pos k3]
        have h4' : (prI l n).jf = (toI (sums (reachedOf l)) n (l.getD n ins0).jf).toNat := by unfold prI prAt; rw [if_neg k2, if_pos k3]
        rw [h4, h4']
        simp only [List.map_cons, List.map_nil, List.cons.injEq, and_true]
        omega
      · rw [if_neg k3, if_neg k3]
        simp [h1]
theorem pr_reach (h : Right l) {s s' : Nat → Bool} (hs : ∀ m, Reached l m → s' (cnt l m) = s m) {n : Nat} (hr : Rch l s n) : Reached l n ∧ Rch (pruneI l) s' (cnt l n) := by
  induction hr with
  | zero => exact ⟨.zero, by rw [cnt_zero]; exact .zero⟩
  | step n t h1 h2 h3 ih =>
    obtain ⟨ih1, ih2⟩ := ih
    exact ⟨next_in h ih1 h3, .step (cnt l n) (cnt l t) ih2 (by rw [hs n ih1]; exact h2) (by rw [pr_nexts h ih1]; exact List.mem_map.2 ⟨t, h3, rfl⟩)⟩
theorem pr_back (h : Right l) {s s' : Nat → Bool} (hs : ∀ m, Reached l m → s' (cnt l m) = s m) {j : Nat} (hr : Rch (pruneI l) s' j) : ∃ n, Reached l n ∧ cnt l n = j ∧ Rch l s n := by
  induction hr with
  | zero => exact ⟨0, .zero, cnt_zero, .zero⟩
  | step j t h1 h2 h3 ih =>
    obtain ⟨n, i1, rfl, i3⟩ := ih
    rw [pr_nexts h i1] at h3
    obtain ⟨t', h4, rfl⟩ := List.mem_map.1 h3
    exact ⟨t', next_in h i1 h4, rfl, .step n t' i3 (by rw [← hs n i1]; exact h2) h4⟩
theorem pr_wrong (h : Right l) {n : Nat} (hr : Reached l n) : wrongI (prI l n) ((pruneI l).length - 1 - cnt l n) = 0 := by
  have hw := h.1.ok n (hr.lt h.1)
  have hnx := nexts_lt h.1 (hr.lt h.1)
  have hin := fun t (ht : t ∈ nextsI l n) => cnt_len h (next_in h hr ht)
  have hc := pr_code (l := l) n
  have hkd : (kof (l.getD n ins0).code).1 = kind l n := rfl
  have hk := fun hk => pr_k (l := l) (n := n) hk
  have h13 : kind l n = 13 → (prI l n).k < (pruneI l).length - 1 - cnt l n := by
    intro k2
    have hm : n + 1 + (l.getD n ins0).k ∈ nextsI l n := by unfold nextsI; rw [if_neg (by omega), if_pos k2]; simp
    have h2 := hin _ hm
    have h3 := to_cnt h hr (hnx _ hm).2
    have h4 : (prI l n).k = (toI (sums (reachedOf l)) n (l.getD n ins0).k).toNat := by unfold prI prAt; rw [if_pos k2]
    omega
  have h25 : 25 ≤ kind l n → (prI l n).jt < (pruneI l).length - 1 - cnt l n ∧ (prI l n).jf < (pruneI l).length - 1 - cnt l n := by
    intro k3
    have hm : n + 1 + (l.getD n ins0).jt ∈ nextsI l n := by unfold nextsI; rw [if_neg (by omega), if_neg (by omega), if_pos k3]; simp
    have hm' : n + 1 + (l.getD n ins0).jf ∈ nextsI l n := by unfold nextsI; rw [if_neg (by omega), if_neg (by omega), if_pos k3]; simp
    have h2 := hin _ hm
    have h2' := hin _ hm'
    have h3 := to_cnt h hr (hnx _ hm).2
    have h3' := to_cnt h hr (hnx _ hm').2
    have h4 : (prI l n).jt = (toI (sums (reachedOf l)) n (l.getD n ins0).jt).toNat := by unfold prI prAt; rw [if_neg (by omega), if_pos k3]
    have h4' : (prI l n).jf = (toI (sums (reachedOf l)) n (l.getD n ins0).jf).toNat := by unfold prI prAt; rw [if_neg (by omega), if_pos k3]
    omega
  unfold wrongI at hw ⊢
  rw [hc]
  rw [← hkd] at hk h13 h25
  clear hnx hin hkd hc
  generalize kof (l.getD n ins0).code = kk at *
  obtain ⟨k, x⟩ := kk
  dsimp only at hw hk h13 h25 ⊢
  by_cases e : k = 13
  · have h13 := h13 e
    subst e
    simp at hw ⊢
    omega
  · rw [hk e]
    by_cases e2 : 25 ≤ k
    · have h25 := h25 e2
      repeat' split at hw
      all_goals first | (exfalso; omega) | skip
      repeat' split
      all_goals first | rfl | (exfalso; omega)
    · have e3 : ¬ (k = 13 ∧ (l.length - 1 - n) ≤ (l.getD n ins0).k ∨ 25 ≤ k ∧ (l.length - 1 - n ≤ (l.getD n ins0).jt ∨ l.length - 1 - n ≤ (l.getD n ins0).jf)) := fun h => h.elim (fun h => e h.1) (fun h => e2 h.1)
      rw [if_neg e3] at hw
      have e4 : ¬ (k = 13 ∧ (pruneI l).length - 1 - cnt l n ≤ (l.getD n ins0).k ∨ 25 ≤ k ∧ ((pruneI l).length - 1 - cnt l n ≤ (prI l n).jt ∨ (pruneI l).length - 1 - cnt l n ≤ (prI l n).jf)) := fun h => h.elim (fun h => e h.1) (fun h => e2 h.1)
      rw [if_neg e4]
      exact hw
theorem pruned_formed (h : Right l) : Formed (pruneI l) := by
  have hz : Reached l 0 := .zero
  have hlen := prune_len h
  have hcl : cnt l l.length ≤ l.length := by
    unfold cnt
    have := List.count_le_length (a := true) (l := (reachI l).take l.length)
    rw [List.length_take, reachI_length] at this
    omega
  have hpos := cnt_len h hz
  refine ⟨by omega, by have := h.1.le; omega, fun j hj => ?_, ?_⟩
  · obtain ⟨n, hr, rfl⟩ := prune_at h hj
    rw [prune_get h hr]
    exact pr_wrong h hr
  · obtain ⟨n, hr, hn⟩ := prune_at h (j := (pruneI l).length - 1) (by omega)
    rw [← hn, pr_kind h hr]
    refine Classical.byContradiction fun hk => ?_
    obtain ⟨t, ht⟩ : ∃ t, t ∈ nextsI l n := by
      unfold nextsI
      rw [if_neg hk]
      split
      · exact ⟨_, List.mem_singleton.2 rfl⟩
      · split
        · exact ⟨_, List.mem_cons_self ..⟩
        · exact ⟨_, List.mem_singleton.2 rfl⟩
    have h1 := cnt_lt h.1 hr (nexts_lt h.1 (hr.lt h.1) t ht).1
    have h2 := cnt_len h (next_in h hr ht)
    omega
theorem pr_stop (h : Right l) (c : Nat) : ∀ m, Reached l m → stopC (pruneI l) c (cnt l m) = stopC l c m := by
  intro m hm
  unfold stopC
  rw [pr_kind h hm, prune_get h hm]
  by_cases hk : isStore (kind l m)
  · rw [pr_k (by unfold isStore at hk; omega)]
  · simp [hk]
theorem pruned_right (h : Right l) : Right (pruneI l) := by
  refine ⟨pruned_formed h, fun j hj hk hr => ?_⟩
  obtain ⟨n, hn, rfl⟩ := prune_at h hj
  rw [pr_kind h hn] at hk
  rw [prune_get h hn, pr_k (by omega)] at hr
  obtain ⟨n', h1, h2, h3⟩ := pr_back h (pr_stop h _) hr
  have := cnt_inj h.1 h1 hn h2
  subst this
  exact h.2 n' (hn.lt h.1) hk h3
theorem pruned_reached (h : Right l) {j : Nat} (hj : j < (pruneI l).length) : Reached (pruneI l) j := by
  obtain ⟨n, hn, rfl⟩ := prune_at h hj
  exact (pr_reach h (fun _ _ => rfl) hn).2
theorem prune_nil (h : ¬ Right l) : pruneI l = [] := by
  unfold pruneI reachedOf
  rw [if_neg (fun h0 => h (check_iff.1 h0))]
  rfl
theorem pruned_ok (h : Right l) (hok : okL l) : okL (pruneI l) := by
  intro i hi
  obtain ⟨j, hj, rfl⟩ := List.getElem_of_mem hi
  obtain ⟨n, hn, rfl⟩ := prune_at h hj
  have h1 := prune_get h hn
  have h2 : (pruneI l)[cnt l n] = prI l n := by simpa [List.getD, hj] using h1
  rw [h2]
  have hki := hok.get (hn.lt h.1)
  obtain ⟨a1, a2, a3, a4⟩ := hki
  have hnx := nexts_lt h.1 (hn.lt h.1)
  unfold prI prAt
  split
  · rename_i k2
    have hm : n + 1 + (l.getD n ins0).k ∈ nextsI l n := by unfold nextsI; rw [if_neg (by omega), if_pos k2]; simp
    have h3 := to_cnt h hn (hnx _ hm).2
    exact ⟨a1, a2, a3, by dsimp only; omega⟩
  · split
    · rename_i k2 k3
      have hm : n + 1 + (l.getD n ins0).jt ∈ nextsI l n := by unfold nextsI; rw [if_neg (by omega), if_neg (by omega), if_pos k3]; simp
      have hm' : n + 1 + (l.getD n ins0).jf ∈ nextsI l n := by unfold nextsI; rw [if_neg (by omega), if_neg (by omega), if_pos k3]; simp
      have h3 := to_cnt h hn (hnx _ hm).2
      have h3' := to_cnt h hn (hnx _ hm').2
      exact ⟨a1, by dsimp only; omega, by dsimp only; omega, a4⟩
    · exact ⟨a1, a2, a3, a4⟩
end
end Go.Proofs.W

namespace Go.Proofs.W
open Go.Vl
set_option maxRecDepth 100000

theorem prune_awake : pruneI [⟨5, 0, 0, 1⟩, ⟨132, 0, 0, 0⟩, ⟨22, 0, 0, 0⟩] = [⟨5, 0, 0, 0⟩, ⟨22, 0, 0, 0⟩] := by decide +kernel
theorem awake_spec : Tells Try.prog 19 [] (boolA true) := by
  refine tells_of_aw Try.func19 rfl rfl fun nx => ?_
  (repeat ((conv=>whnf);first|refine ω0 ?_|refine ω1 ?_|refine ω2 ?_|refine ω3 ?_|refine ω4 rfl ?_|refine ω5 rfl ?_|refine ω6 ?_|refine ω7 ?_|refine ω8 ?_|refine ⟨rfl,?_⟩|refine ⟨trivial,?_⟩|refine ⟨⟨rfl,Nat.le_of_ble_eq_true rfl⟩,?_⟩|refine ⟨⟨by kernel_rfl,by kernel_rfl⟩,?_⟩|refine ⟨by decide,?_⟩|refine lit_true ?_|refine lit_false ?_))
  have hp := prune_spec [⟨5, 0, 0, 1⟩, ⟨132, 0, 0, 0⟩, ⟨22, 0, 0, 0⟩] (by intro i hi; simp at hi; rcases hi with rfl | rfl | rfl <;> simp [Ins.ok]) (by simp)
  rw [prune_awake] at hp
  refine aop_tells rfl rfl hp ⟨AVle.os_sl.trans (AVle.sl_fun (allK_use ⟨⟨⟨trivial, rfl⟩, rfl⟩, rfl⟩)), trivial⟩ fun nx => ?_
  (repeat ((conv=>whnf);first|refine ω0 ?_|refine ω1 ?_|refine ω2 ?_|refine ω3 ?_|refine ω4 rfl ?_|refine ω5 rfl ?_|refine ω6 ?_|refine ω7 ?_|refine ω8 ?_|refine ⟨rfl,?_⟩|refine ⟨trivial,?_⟩|refine ⟨⟨rfl,Nat.le_of_ble_eq_true rfl⟩,?_⟩|refine ⟨⟨by kernel_rfl,by kernel_rfl⟩,?_⟩|refine ⟨by decide,?_⟩|refine lit_true ?_|refine lit_false ?_))
  refine ret_tells rfl (AVle.refl _)
theorem once_spec (l : List Ins) (hok : okL l) (hl : l.length ≤ maxLen) : PCall Try.prog 3 [inss l] (fun r => r = .v (.bool true)) := by
  refine pcall_of_aw Try.func3 rfl rfl fun nx => ?_
  (repeat ((conv=>whnf);first|refine ω0 ?_|refine ω1 ?_|refine ω2 ?_|refine ω3 ?_|refine ω4 rfl ?_|refine ω5 rfl ?_|refine ω6 ?_|refine ω7 ?_|refine ω8 ?_|refine ⟨rfl,?_⟩|refine ⟨trivial,?_⟩|refine ⟨⟨rfl,Nat.le_of_ble_eq_true rfl⟩,?_⟩|refine ⟨⟨by kernel_rfl,by kernel_rfl⟩,?_⟩|refine ⟨by decide,?_⟩|refine lit_true ?_|refine lit_false ?_))
  intro c h1; cases c
  · have h1 := not_of h1
    have hl2 : l.length ≤ 200 := by omega
    (repeat ((conv=>whnf);first|refine ω0 ?_|refine ω1 ?_|refine ω2 ?_|refine ω3 ?_|refine ω4 rfl ?_|refine ω5 rfl ?_|refine ω6 ?_|refine ω7 ?_|refine ω8 ?_|refine ⟨rfl,?_⟩|refine ⟨trivial,?_⟩|refine ⟨⟨rfl,Nat.le_of_ble_eq_true rfl⟩,?_⟩|refine ⟨⟨by kernel_rfl,by kernel_rfl⟩,?_⟩|refine ⟨by decide,?_⟩|refine lit_true ?_|refine lit_false ?_))
    refine aop_tells rfl rfl (all_spec l (by omega)) ⟨AVle.refl _, trivial⟩ fun nx => ?_
    (repeat ((conv=>whnf);first|refine ω0 ?_|refine ω1 ?_|refine ω2 ?_|refine ω3 ?_|refine ω4 rfl ?_|refine ω5 rfl ?_|refine ω6 ?_|refine ω7 ?_|refine ω8 ?_|refine ⟨rfl,?_⟩|refine ⟨trivial,?_⟩|refine ⟨⟨rfl,Nat.le_of_ble_eq_true rfl⟩,?_⟩|refine ⟨⟨by kernel_rfl,by kernel_rfl⟩,?_⟩|refine ⟨by decide,?_⟩|refine lit_true ?_|refine lit_false ?_))
    refine aop_tells rfl rfl (prune_spec l hok (by omega)) ⟨AVle.refl _, trivial⟩ fun nx => ?_
    by_cases hR : Right l
    · have hpl := pruned_right hR
      have hpf := hpl.1
      have hro : reachedOf (pruneI l) = reachI (pruneI l) := reachedOf_ok hpl
      have hck := check_iff.2 hpl
      have hle := hpf.le
      have hpos := hpf.pos
      have hokp := pruned_ok hR hok
      have hallr : ∀ j, j < (pruneI l).length → (reachI (pruneI l)).getD j false = true := fun j hj => (reachI_iff hpf j).2 (pruned_reached hR hj)
      generalize pruneI l = p at *
      (repeat ((conv=>whnf);first|refine ω0 ?_|refine ω1 ?_|refine ω2 ?_|refine ω3 ?_|refine ω4 rfl ?_|refine ω5 rfl ?_|refine ω6 ?_|refine ω7 ?_|refine ω8 ?_|refine ⟨rfl,?_⟩|refine ⟨trivial,?_⟩|refine ⟨⟨rfl,Nat.le_of_ble_eq_true rfl⟩,?_⟩|refine ⟨⟨by kernel_rfl,by kernel_rfl⟩,?_⟩|refine ⟨by decide,?_⟩|refine lit_true ?_|refine lit_false ?_))
      intro c h2; cases c
      · (repeat ((conv=>whnf);first|refine ω0 ?_|refine ω1 ?_|refine ω2 ?_|refine ω3 ?_|refine ω4 rfl ?_|refine ω5 rfl ?_|refine ω6 ?_|refine ω7 ?_|refine ω8 ?_|refine ⟨rfl,?_⟩|refine ⟨trivial,?_⟩|refine ⟨⟨rfl,Nat.le_of_ble_eq_true rfl⟩,?_⟩|refine ⟨⟨by kernel_rfl,by kernel_rfl⟩,?_⟩|refine ⟨by decide,?_⟩|refine lit_true ?_|refine lit_false ?_))
        have hr : Tells Try.prog 20 [inss p] (bools (reachedOf p)) := reach_spec p hokp (by omega)
        have hrl := reachI_length p
        rw [hro] at hr
        have hcs := check_spec p hokp (by omega)
        rw [hck] at hcs
        generalize reachI p = o at *
        refine aop_tells rfl rfl hr ⟨AVle.refl _, trivial⟩ fun nx => ?_
        (repeat ((conv=>whnf);first|refine ω0 ?_|refine ω1 ?_|refine ω2 ?_|refine ω3 ?_|refine ω4 rfl ?_|refine ω5 rfl ?_|refine ω6 ?_|refine ω7 ?_|refine ω8 ?_|refine ⟨rfl,?_⟩|refine ⟨trivial,?_⟩|refine ⟨⟨rfl,Nat.le_of_ble_eq_true rfl⟩,?_⟩|refine ⟨⟨by kernel_rfl,by kernel_rfl⟩,?_⟩|refine ⟨by decide,?_⟩|refine lit_true ?_|refine lit_false ?_))
        intro c h3; cases c
        rotate_left
        · have h3 := bne_yes h3; exact absurd (congrArg Int.ofNat hrl) h3
        (repeat ((conv=>whnf);first|refine ω0 ?_|refine ω1 ?_|refine ω2 ?_|refine ω3 ?_|refine ω4 rfl ?_|refine ω5 rfl ?_|refine ω6 ?_|refine ω7 ?_|refine ω8 ?_|refine ⟨rfl,?_⟩|refine ⟨trivial,?_⟩|refine ⟨⟨rfl,Nat.le_of_ble_eq_true rfl⟩,?_⟩|refine ⟨⟨by kernel_rfl,by kernel_rfl⟩,?_⟩|refine ⟨by decide,?_⟩|refine lit_true ?_|refine lit_false ?_))
        refine aw_loop (fun s : Nat × Nat => mk 46 [(0, inss l), (3, inss p), (4, bools o), (5, int s.1)] ⟨[], [], s.2, 0⟩) (fun s => s.1 ≤ o.length) (fun s => o.length - s.1) ?_ ?_
        · exact ⟨(0, _), by dsimp only; omega, ele_mk rfl rfl ⟨AVle.refl _, AVle.refl _, AVle.refl _, AVle.refl _, trivial⟩⟩
        · rintro ⟨i, nx'⟩ h4
          dsimp only at h4
          (repeat ((conv=>whnf);first|refine ω0 ?_|refine ω1 ?_|refine ω2 ?_|refine ω3 ?_|refine ω4 rfl ?_|refine ω5 rfl ?_|refine ω6 ?_|refine ω7 ?_|refine ω8 ?_|refine ⟨rfl,?_⟩|refine ⟨trivial,?_⟩|refine ⟨⟨rfl,Nat.le_of_ble_eq_true rfl⟩,?_⟩|refine ⟨⟨by kernel_rfl,by kernel_rfl⟩,?_⟩|refine ⟨by decide,?_⟩|refine lit_true ?_|refine lit_false ?_))
          intro c h5; cases c
          · have h5 := not_of h5
            dsimp only at h5
            (repeat ((conv=>whnf);first|refine ω0 ?_|refine ω1 ?_|refine ω2 ?_|refine ω3 ?_|refine ω4 rfl ?_|refine ω5 rfl ?_|refine ω6 ?_|refine ω7 ?_|refine ω8 ?_|refine ⟨rfl,?_⟩|refine ⟨trivial,?_⟩|refine ⟨⟨rfl,Nat.le_of_ble_eq_true rfl⟩,?_⟩|refine ⟨⟨by kernel_rfl,by kernel_rfl⟩,?_⟩|refine ⟨by decide,?_⟩|refine lit_true ?_|refine lit_false ?_))
            refine aop_tells rfl rfl hcs ⟨AVle.refl _, trivial⟩ fun nx => ?_
            (repeat ((conv=>whnf);first|refine ω0 ?_|refine ω1 ?_|refine ω2 ?_|refine ω3 ?_|refine ω4 rfl ?_|refine ω5 rfl ?_|refine ω6 ?_|refine ω7 ?_|refine ω8 ?_|refine ⟨rfl,?_⟩|refine ⟨trivial,?_⟩|refine ⟨⟨rfl,Nat.le_of_ble_eq_true rfl⟩,?_⟩|refine ⟨⟨by kernel_rfl,by kernel_rfl⟩,?_⟩|refine ⟨by decide,?_⟩|refine lit_true ?_|refine lit_false ?_))
            refine aop_tells rfl rfl awake_spec trivial fun nx => ?_
            (repeat ((conv=>whnf);first|refine ω0 ?_|refine ω1 ?_|refine ω2 ?_|refine ω3 ?_|refine ω4 rfl ?_|refine ω5 rfl ?_|refine ω6 ?_|refine ω7 ?_|refine ω8 ?_|refine ⟨rfl,?_⟩|refine ⟨trivial,?_⟩|refine ⟨⟨rfl,Nat.le_of_ble_eq_true rfl⟩,?_⟩|refine ⟨⟨by kernel_rfl,by kernel_rfl⟩,?_⟩|refine ⟨by decide,?_⟩|refine lit_true ?_|refine lit_false ?_))
            refine ret_all rfl trivial rfl
          · have h5 := yes_of h5
            dsimp only at h5
            (repeat ((conv=>whnf);first|refine ω0 ?_|refine ω1 ?_|refine ω2 ?_|refine ω3 ?_|refine ω4 rfl ?_|refine ω5 rfl ?_|refine ω6 ?_|refine ω7 ?_|refine ω8 ?_|refine ⟨rfl,?_⟩|refine ⟨trivial,?_⟩|refine ⟨⟨rfl,Nat.le_of_ble_eq_true rfl⟩,?_⟩|refine ⟨⟨by kernel_rfl,by kernel_rfl⟩,?_⟩|refine ⟨by decide,?_⟩|refine lit_true ?_|refine lit_false ?_))
            refine ⟨⟨by dsimp only; omega, by dsimp only; omega⟩, ?_⟩
            (repeat ((conv=>whnf);first|refine ω0 ?_|refine ω1 ?_|refine ω2 ?_|refine ω3 ?_|refine ω4 rfl ?_|refine ω5 rfl ?_|refine ω6 ?_|refine ω7 ?_|refine ω8 ?_|refine ⟨rfl,?_⟩|refine ⟨trivial,?_⟩|refine ⟨⟨rfl,Nat.le_of_ble_eq_true rfl⟩,?_⟩|refine ⟨⟨by kernel_rfl,by kernel_rfl⟩,?_⟩|refine ⟨by decide,?_⟩|refine lit_true ?_|refine lit_false ?_))
            intro c h6; cases c
            · have h6 : false = o.getD i false := h6
              rw [hallr i (by omega)] at h6; cases h6
            · (repeat ((conv=>whnf);first|refine ω0 ?_|refine ω1 ?_|refine ω2 ?_|refine ω3 ?_|refine ω4 rfl ?_|refine ω5 rfl ?_|refine ω6 ?_|refine ω7 ?_|refine ω8 ?_|refine ⟨rfl,?_⟩|refine ⟨trivial,?_⟩|refine ⟨⟨rfl,Nat.le_of_ble_eq_true rfl⟩,?_⟩|refine ⟨⟨by kernel_rfl,by kernel_rfl⟩,?_⟩|refine ⟨by decide,?_⟩|refine lit_true ?_|refine lit_false ?_))
              exact back (i + 1, _) (by dsimp only; omega) (by dsimp only; omega) (ele_mk rfl rfl ⟨AVle.refl _, AVle.refl _, AVle.refl _, le_int (wrap_succ (by dsimp only; omega)), trivial⟩)
      · have h2 := yes_of h2; omega
    · rw [prune_nil hR]
      (repeat ((conv=>whnf);first|refine ω0 ?_|refine ω1 ?_|refine ω2 ?_|refine ω3 ?_|refine ω4 rfl ?_|refine ω5 rfl ?_|refine ω6 ?_|refine ω7 ?_|refine ω8 ?_|refine ⟨rfl,?_⟩|refine ⟨trivial,?_⟩|refine ⟨⟨rfl,Nat.le_of_ble_eq_true rfl⟩,?_⟩|refine ⟨⟨by kernel_rfl,by kernel_rfl⟩,?_⟩|refine ⟨by decide,?_⟩|refine lit_true ?_|refine lit_false ?_))
      refine aop_tells rfl rfl awake_spec trivial fun nx => ?_
      (repeat ((conv=>whnf);first|refine ω0 ?_|refine ω1 ?_|refine ω2 ?_|refine ω3 ?_|refine ω4 rfl ?_|refine ω5 rfl ?_|refine ω6 ?_|refine ω7 ?_|refine ω8 ?_|refine ⟨rfl,?_⟩|refine ⟨trivial,?_⟩|refine ⟨⟨rfl,Nat.le_of_ble_eq_true rfl⟩,?_⟩|refine ⟨⟨by kernel_rfl,by kernel_rfl⟩,?_⟩|refine ⟨by decide,?_⟩|refine lit_true ?_|refine lit_false ?_))
      refine ret_all rfl trivial rfl
  · (repeat ((conv=>whnf);first|refine ω0 ?_|refine ω1 ?_|refine ω2 ?_|refine ω3 ?_|refine ω4 rfl ?_|refine ω5 rfl ?_|refine ω6 ?_|refine ω7 ?_|refine ω8 ?_|refine ⟨rfl,?_⟩|refine ⟨trivial,?_⟩|refine ⟨⟨rfl,Nat.le_of_ble_eq_true rfl⟩,?_⟩|refine ⟨⟨by kernel_rfl,by kernel_rfl⟩,?_⟩|refine ⟨by decide,?_⟩|refine lit_true ?_|refine lit_false ?_))
    refine ret_all rfl trivial rfl
end Go.Proofs.W

namespace Go.Proofs.W
open Go.Vl
set_option maxRecDepth 100000

def longF (a ts : List Nat) : Nat := ts.foldl (fun x t => max x (a.getD t 0)) 0
def longA (l : List Ins) : Nat → List Nat
  | 0 => List.replicate l.length 0
  | j + 1 => (longA l j).set (l.length - 1 - j) (longF (longA l j) (nextsI l (l.length - 1 - j)) + 1)
def longI (l : List Ins) : Nat := (longA l l.length).getD 0 0
theorem longA_length (l : List Ins) : ∀ j, (longA l j).length = l.length
  | 0 => by simp [longA]
  | j + 1 => by rw [longA, List.length_set, longA_length l j]
theorem longA_zero (l : List Ins) : ∀ j n, n + j < l.length → (longA l j).getD n 0 = 0
  | 0, n, h => by simp [longA, List.getD, List.getElem?_replicate]; split <;> rfl
  | j + 1, n, h => by
    rw [longA, getDL_set, if_neg (by omega)]
    exact longA_zero l j n (by omega)
theorem longF_le {a : List Nat} {b : Nat} (h : ∀ k, a.getD k 0 ≤ b) : ∀ ts, longF a ts ≤ b := by
  intro ts
  unfold longF
  have : ∀ (ts : List Nat) (m : Nat), m ≤ b → ts.foldl (fun x t => max x (a.getD t 0)) m ≤ b := by
    intro ts
    induction ts with
    | nil => intro m hm; exact hm
    | cons t ts ih => intro m hm; rw [List.foldl_cons]; exact ih _ (Nat.max_le.2 ⟨hm, h t⟩)
  exact this ts 0 (by omega)
theorem longA_le (l : List Ins) : ∀ j n, (longA l j).getD n 0 ≤ j
  | 0, n => by simp [longA, List.getD, List.getElem?_replicate]; split <;> simp
  | j + 1, n => by
    rw [longA, getDL_set]
    split
    · have := longF_le (longA_le l j) (nextsI l (l.length - 1 - j)); omega
    · have := longA_le l j n; omega
theorem longF_take {a ts : List Nat} {i : Nat} (hi : i < ts.length) : longF a (ts.take (i + 1)) = max (longF a (ts.take i)) (a.getD (ts.getD i 0) 0) := by
  unfold longF; rw [take_getD 0 hi, List.foldl_append]; rfl
theorem set_same {a : List Nat} {n : Nat} (hn : n < a.length) (h : a.getD n 0 = 0) : a.set n 0 = a := by
  refine List.ext_getElem (by simp) fun k h1 h2 => ?_
  rw [List.getElem_set]
  split
  · rename_i h3; subst h3
    simp only [List.getD, List.getElem?_eq_getElem hn, Option.getD_some] at h
    exact h.symm
  · rfl
theorem longest_spec (l : List Ins) (hok : okL l) (hl : l.length ≤ 1000000000) : Tells Try.prog 30 [inss l] (int (if (checkI l).2 = 0 then longI l else 0 : Nat)) := by
  refine tells_of_aw Try.func30 rfl rfl fun nx => ?_
  (repeat ((conv=>whnf);first|refine ω0 ?_|refine ω1 ?_|refine ω2 ?_|refine ω3 ?_|refine ω4 rfl ?_|refine ω5 rfl ?_|refine ω6 ?_|refine ω7 ?_|refine ω8 ?_|refine ⟨rfl,?_⟩|refine ⟨trivial,?_⟩|refine ⟨⟨rfl,Nat.le_of_ble_eq_true rfl⟩,?_⟩|refine ⟨⟨by kernel_rfl,by kernel_rfl⟩,?_⟩|refine ⟨by decide,?_⟩|refine lit_true ?_|refine lit_false ?_))
  refine aop_tells rfl rfl (check_spec l hok hl) ⟨AVle.refl _, trivial⟩ fun nx => ?_
  (repeat ((conv=>whnf);first|refine ω0 ?_|refine ω1 ?_|refine ω2 ?_|refine ω3 ?_|refine ω4 rfl ?_|refine ω5 rfl ?_|refine ω6 ?_|refine ω7 ?_|refine ω8 ?_|refine ⟨rfl,?_⟩|refine ⟨trivial,?_⟩|refine ⟨⟨rfl,Nat.le_of_ble_eq_true rfl⟩,?_⟩|refine ⟨⟨by kernel_rfl,by kernel_rfl⟩,?_⟩|refine ⟨by decide,?_⟩|refine lit_true ?_|refine lit_false ?_))
  intro c g1; cases c
  rotate_left
  · have g1 := bne_yes g1
    (repeat ((conv=>whnf);first|refine ω0 ?_|refine ω1 ?_|refine ω2 ?_|refine ω3 ?_|refine ω4 rfl ?_|refine ω5 rfl ?_|refine ω6 ?_|refine ω7 ?_|refine ω8 ?_|refine ⟨rfl,?_⟩|refine ⟨trivial,?_⟩|refine ⟨⟨rfl,Nat.le_of_ble_eq_true rfl⟩,?_⟩|refine ⟨⟨by kernel_rfl,by kernel_rfl⟩,?_⟩|refine ⟨by decide,?_⟩|refine lit_true ?_|refine lit_false ?_))
    refine ret_tells rfl ?_
    rw [if_neg (by omega)]
    exact AVle.refl _
  have g1 := bne_no g1
  have hf : Formed l := check_formed (by omega)
  have hle := hf.le
  have hpos := hf.pos
  rw [if_pos (by omega)]
  (repeat ((conv=>whnf);first|refine ω0 ?_|refine ω1 ?_|refine ω2 ?_|refine ω3 ?_|refine ω4 rfl ?_|refine ω5 rfl ?_|refine ω6 ?_|refine ω7 ?_|refine ω8 ?_|refine ⟨rfl,?_⟩|refine ⟨trivial,?_⟩|refine ⟨⟨rfl,Nat.le_of_ble_eq_true rfl⟩,?_⟩|refine ⟨⟨by kernel_rfl,by kernel_rfl⟩,?_⟩|refine ⟨by decide,?_⟩|refine lit_true ?_|refine lit_false ?_))
  (conv => whnf)
  refine ⟨by omega, by omega, by show ((8 : Nat) : Int) * _ ≤ _; omega, by omega, ?_⟩
  (repeat ((conv=>whnf);first|refine ω0 ?_|refine ω1 ?_|refine ω2 ?_|refine ω3 ?_|refine ω4 rfl ?_|refine ω5 rfl ?_|refine ω6 ?_|refine ω7 ?_|refine ω8 ?_|refine ⟨rfl,?_⟩|refine ⟨trivial,?_⟩|refine ⟨⟨rfl,Nat.le_of_ble_eq_true rfl⟩,?_⟩|refine ⟨⟨by kernel_rfl,by kernel_rfl⟩,?_⟩|refine ⟨by decide,?_⟩|refine lit_true ?_|refine lit_false ?_))
  refine aw_loop (fun s : Nat × Nat => mk 56 [(0, inss l), (5, .hs (0, nx) 0 l.length l.length), (6, int ((l.length : Int) - 1 - s.1))] ⟨[((0, nx), .c ((longA l s.1).map intA))], [], s.2, 1⟩) (fun s => s.1 ≤ l.length) (fun s => l.length - s.1) ?_ ?_
  · refine ⟨(0, nx + 1), by dsimp only; omega, ele_tell _ _ rfl rfl (List.Sublist.refl _) .slnil ⟨rfl, OwnLe.of_eq ?_, trivial⟩ trivial ⟨AVle.refl _, AVle.refl _, le_int ((wrap_id (by omega) (by omega)).trans (by dsimp only; omega)), trivial⟩⟩
    dsimp only
    rw [longA, List.map_replicate]
    rfl
  · rintro ⟨j, nx'⟩ h1
    dsimp only at h1
    have hlen := longA_length l j
    (repeat ((conv=>whnf);first|refine ω0 ?_|refine ω1 ?_|refine ω2 ?_|refine ω3 ?_|refine ω4 rfl ?_|refine ω5 rfl ?_|refine ω6 ?_|refine ω7 ?_|refine ω8 ?_|refine ⟨rfl,?_⟩|refine ⟨trivial,?_⟩|refine ⟨⟨rfl,Nat.le_of_ble_eq_true rfl⟩,?_⟩|refine ⟨⟨by kernel_rfl,by kernel_rfl⟩,?_⟩|refine ⟨by decide,?_⟩|refine lit_true ?_|refine lit_false ?_))
    intro c g2; cases c
    · have g2 := not_of g2
      dsimp only at g2
      obtain rfl : j = l.length := by omega
      have he : (0 + (Int.toNat 0) * Try.prog.cellsOf 3) = 0 := by rw [c3]; rfl
      (repeat ((conv=>whnf);first|refine ω0 ?_|refine ω1 ?_|refine ω2 ?_|refine ω3 ?_|refine ω4 rfl ?_|refine ω5 rfl ?_|refine ω6 ?_|refine ω7 ?_|refine ω8 ?_|refine ⟨rfl,?_⟩|refine ⟨trivial,?_⟩|refine ⟨⟨rfl,Nat.le_of_ble_eq_true rfl⟩,?_⟩|refine ⟨⟨by kernel_rfl,by kernel_rfl⟩,?_⟩|refine ⟨by decide,?_⟩|refine lit_true ?_|refine lit_false ?_))
      refine ⟨⟨by omega, by omega⟩, splitO_eq (b := .bp (0, nx) 0) (congrArg (AV.bp (0, nx)) he) ?_⟩
      (conv => whnf)
      refine ⟨⟨rfl, (by first | omega | (simp only [List.length_map, List.length_set, List.length_cons, List.length_nil, List.length_replicate, List.length_append]; omega))⟩, splitO_eq (b := int ((longA l l.length).getD 0 0 : Nat)) (getD_map (by first | omega | (dsimp only at *; omega) | (simp; done) | (simp; omega))) ?_⟩
      (repeat ((conv=>whnf);first|refine ω0 ?_|refine ω1 ?_|refine ω2 ?_|refine ω3 ?_|refine ω4 rfl ?_|refine ω5 rfl ?_|refine ω6 ?_|refine ω7 ?_|refine ω8 ?_|refine ⟨rfl,?_⟩|refine ⟨trivial,?_⟩|refine ⟨⟨rfl,Nat.le_of_ble_eq_true rfl⟩,?_⟩|refine ⟨⟨by kernel_rfl,by kernel_rfl⟩,?_⟩|refine ⟨by decide,?_⟩|refine lit_true ?_|refine lit_false ?_))
      exact ret_tells rfl (AVle.refl _)
    · have g2 := yes_of g2
      dsimp only at g2
      obtain ⟨n, hn⟩ : ∃ n, n + 1 + j = l.length := ⟨l.length - 1 - j, by omega⟩
      have hnI : ((l.length : Int) - 1 - j) = (n : Int) := by omega
      have hnN : l.length - 1 - j = n := by omega
      have hnx := nexts_lt hf (n := n) (by omega)
      have hset := set_same (a := longA l j) (n := n) (by omega) (longA_zero l j n (by omega))
      have hm := longA_le l j
      have hstep : longA l (j + 1) = (longA l j).set n (longF (longA l j) (nextsI l n) + 1) := by rw [longA, hnN]
      generalize longA l j = A at *
      have hFle := longF_le hm
      (repeat ((conv=>whnf);first|refine ω0 ?_|refine ω1 ?_|refine ω2 ?_|refine ω3 ?_|refine ω4 rfl ?_|refine ω5 rfl ?_|refine ω6 ?_|refine ω7 ?_|refine ω8 ?_|refine ⟨rfl,?_⟩|refine ⟨trivial,?_⟩|refine ⟨⟨rfl,Nat.le_of_ble_eq_true rfl⟩,?_⟩|refine ⟨⟨by kernel_rfl,by kernel_rfl⟩,?_⟩|refine ⟨by decide,?_⟩|refine lit_true ?_|refine lit_false ?_))
      refine aop_tells rfl rfl (next_spec l hok hf n (by omega)) ⟨AVle.refl _, le_int (by dsimp only; omega), trivial⟩ fun nx3 => ?_
      have hl2 : ∀ i, i < (nextsI l n).length → (nextsI l n).getD i 0 ∈ nextsI l n := fun i hi => by simp [List.getD, hi]
      have hshort : (nextsI l n).length ≤ 2 := by unfold nextsI; repeat' split
                                                  all_goals simp
      generalize nextsI l n = ts at *
      (repeat ((conv=>whnf);first|refine ω0 ?_|refine ω1 ?_|refine ω2 ?_|refine ω3 ?_|refine ω4 rfl ?_|refine ω5 rfl ?_|refine ω6 ?_|refine ω7 ?_|refine ω8 ?_|refine ⟨rfl,?_⟩|refine ⟨trivial,?_⟩|refine ⟨⟨rfl,Nat.le_of_ble_eq_true rfl⟩,?_⟩|refine ⟨⟨by kernel_rfl,by kernel_rfl⟩,?_⟩|refine ⟨by decide,?_⟩|refine lit_true ?_|refine lit_false ?_))
      refine aw_loop (fun s : Nat × Nat => mk 56 [(0, inss l), (5, .hs (0, nx) 0 l.length l.length), (6, int n), (28, ints ts), (29, int ts.length), (30, int s.1)] ⟨[((0, nx), .c ((A.set n (longF A (ts.take s.1))).map intA))], [], s.2, 1⟩) (fun s => s.1 ≤ ts.length) (fun s => ts.length - s.1) ?_ ?_
      · refine ⟨(0, nx3), by dsimp only; omega, ele_tell _ _ rfl rfl (List.Sublist.refl _) .slnil ⟨rfl, OwnLe.of_eq ?_, trivial⟩ trivial ⟨AVle.refl _, AVle.refl _, le_int (by dsimp only; omega), AVle.refl _, AVle.refl _, AVle.refl _, trivial⟩⟩
        dsimp only
        rw [show longF A (ts.take 0) = 0 from rfl, hset]
      · rintro ⟨i, nx5⟩ h5
        dsimp only at h5
        have hF := hFle (ts.take i)
        have hit : (0 + (Int.toNat (n : Int)) * Try.prog.cellsOf 3) = n := by rw [c3]; omega
        have hgn : (A.set n (longF A (ts.take i))).getD n 0 = longF A (ts.take i) := by rw [getDL_set, if_pos ⟨rfl, by omega⟩]
        (repeat ((conv=>whnf);first|refine ω0 ?_|refine ω1 ?_|refine ω2 ?_|refine ω3 ?_|refine ω4 rfl ?_|refine ω5 rfl ?_|refine ω6 ?_|refine ω7 ?_|refine ω8 ?_|refine ⟨rfl,?_⟩|refine ⟨trivial,?_⟩|refine ⟨⟨rfl,Nat.le_of_ble_eq_true rfl⟩,?_⟩|refine ⟨⟨by kernel_rfl,by kernel_rfl⟩,?_⟩|refine ⟨by decide,?_⟩|refine lit_true ?_|refine lit_false ?_))
        intro c g5; cases c
        · have g5 := not_of g5
          dsimp only at g5
          obtain rfl : i = ts.length := by omega
          have hall : longF A (ts.take ts.length) = longF A ts := by rw [List.take_length]
          (repeat ((conv=>whnf);first|refine ω0 ?_|refine ω1 ?_|refine ω2 ?_|refine ω3 ?_|refine ω4 rfl ?_|refine ω5 rfl ?_|refine ω6 ?_|refine ω7 ?_|refine ω8 ?_|refine ⟨rfl,?_⟩|refine ⟨trivial,?_⟩|refine ⟨⟨rfl,Nat.le_of_ble_eq_true rfl⟩,?_⟩|refine ⟨⟨by kernel_rfl,by kernel_rfl⟩,?_⟩|refine ⟨by decide,?_⟩|refine lit_true ?_|refine lit_false ?_))
          refine ⟨⟨by first | omega | (dsimp only; omega), by first | omega | (dsimp only; omega)⟩, splitO_eq (b := .bp (0, nx) n) (congrArg (AV.bp (0, nx)) hit) ?_⟩
          (conv => whnf)
          refine ⟨⟨rfl, (by first | omega | (simp only [List.length_map, List.length_set, List.length_cons, List.length_nil, List.length_replicate, List.length_append]; omega))⟩, splitO_eq (b := int ((A.set n (longF A (ts.take ts.length))).getD n 0 : Nat)) (getD_map (by first | omega | (simp only [List.length_map, List.length_set, List.length_cons, List.length_nil, List.length_replicate, List.length_append]; omega))) ?_⟩
          (repeat ((conv=>whnf);first|refine ω0 ?_|refine ω1 ?_|refine ω2 ?_|refine ω3 ?_|refine ω4 rfl ?_|refine ω5 rfl ?_|refine ω6 ?_|refine ω7 ?_|refine ω8 ?_|refine ⟨rfl,?_⟩|refine ⟨trivial,?_⟩|refine ⟨⟨rfl,Nat.le_of_ble_eq_true rfl⟩,?_⟩|refine ⟨⟨by kernel_rfl,by kernel_rfl⟩,?_⟩|refine ⟨by decide,?_⟩|refine lit_true ?_|refine lit_false ?_))
          (conv => whnf)
          refine ⟨⟨by first | omega | (dsimp only; omega), by first | omega | (dsimp only; omega)⟩, splitO_eq (b := .bp (0, nx) n) (congrArg (AV.bp (0, nx)) hit) ?_⟩
          (conv => whnf)
          have hsp : splice ((A.set n (longF A (ts.take ts.length))).map intA) n [AV.v (.int .i64 (IntKind.i64.wrap (((A.set n (longF A (ts.take ts.length))).getD n 0 : Nat) + 1)))] = (A.set n (longF A ts + 1)).map intA := by
            have hw : IntKind.i64.wrap ((longF A ts : Nat) + 1 : Int) = ((longF A ts + 1 : Nat) : Int) := wrap_succ (by have := hFle ts; omega)
            rw [hgn, hall, hw]
            refine (splice_one (f := intA) (x := longF A ts + 1) (by simp; omega)).trans ?_
            rw [List.set_set]
          refine ⟨⟨rfl, (by first | omega | (simp only [List.length_map, List.length_set, List.length_cons, List.length_nil, List.length_replicate, List.length_append]; omega))⟩, ?_⟩
          rw [hsp]
          (repeat ((conv=>whnf);first|refine ω0 ?_|refine ω1 ?_|refine ω2 ?_|refine ω3 ?_|refine ω4 rfl ?_|refine ω5 rfl ?_|refine ω6 ?_|refine ω7 ?_|refine ω8 ?_|refine ⟨rfl,?_⟩|refine ⟨trivial,?_⟩|refine ⟨⟨rfl,Nat.le_of_ble_eq_true rfl⟩,?_⟩|refine ⟨⟨by kernel_rfl,by kernel_rfl⟩,?_⟩|refine ⟨by decide,?_⟩|refine lit_true ?_|refine lit_false ?_))
          exact back (j + 1, nx5) (by dsimp only; omega) (by dsimp only; omega) (ele_tell _ _ rfl rfl (List.Sublist.refl _) .slnil ⟨rfl, OwnLe.of_eq (by dsimp only; rw [hstep]), trivial⟩ trivial ⟨AVle.refl _, AVle.refl _, le_int ((wrap_id (by omega) (by omega)).trans (by dsimp only; omega)), trivial⟩)
        · have g5 := yes_of g5
          dsimp only at g5
          have hi : i < ts.length := by omega
          have htn := hnx _ (hl2 i hi)
          have hgt : (A.set n (longF A (ts.take i))).getD (ts.getD i 0) 0 = A.getD (ts.getD i 0) 0 := by rw [getDL_set, if_neg (by omega)]
          have htt : (0 + (Int.toNat ((ts.getD i 0 : Nat) : Int)) * Try.prog.cellsOf 3) = ts.getD i 0 := by rw [c3]; omega
          (repeat ((conv=>whnf);first|refine ω0 ?_|refine ω1 ?_|refine ω2 ?_|refine ω3 ?_|refine ω4 rfl ?_|refine ω5 rfl ?_|refine ω6 ?_|refine ω7 ?_|refine ω8 ?_|refine ⟨rfl,?_⟩|refine ⟨trivial,?_⟩|refine ⟨⟨rfl,Nat.le_of_ble_eq_true rfl⟩,?_⟩|refine ⟨⟨by kernel_rfl,by kernel_rfl⟩,?_⟩|refine ⟨by decide,?_⟩|refine lit_true ?_|refine lit_false ?_))
          refine ⟨⟨by first | omega | (dsimp only; omega), by first | omega | (dsimp only; omega)⟩, ?_⟩
          (repeat ((conv=>whnf);first|refine ω0 ?_|refine ω1 ?_|refine ω2 ?_|refine ω3 ?_|refine ω4 rfl ?_|refine ω5 rfl ?_|refine ω6 ?_|refine ω7 ?_|refine ω8 ?_|refine ⟨rfl,?_⟩|refine ⟨trivial,?_⟩|refine ⟨⟨rfl,Nat.le_of_ble_eq_true rfl⟩,?_⟩|refine ⟨⟨by kernel_rfl,by kernel_rfl⟩,?_⟩|refine ⟨by decide,?_⟩|refine lit_true ?_|refine lit_false ?_))
          (refine aw_draw 12 ?_ ?_ ?_ ?_; (· kernel_rfl); (· kernel_rfl); (· kernel_rfl))
          (repeat ((conv=>whnf);first|refine ω0 ?_|refine ω1 ?_|refine ω2 ?_|refine ω3 ?_|refine ω4 rfl ?_|refine ω5 rfl ?_|refine ω6 ?_|refine ω7 ?_|refine ω8 ?_|refine ⟨rfl,?_⟩|refine ⟨trivial,?_⟩|refine ⟨⟨rfl,Nat.le_of_ble_eq_true rfl⟩,?_⟩|refine ⟨⟨by kernel_rfl,by kernel_rfl⟩,?_⟩|refine ⟨by decide,?_⟩|refine lit_true ?_|refine lit_false ?_))
          refine ⟨⟨by first | omega | (dsimp only; omega), by first | omega | (dsimp only; omega)⟩, splitO_eq (b := .bp (0, nx) n) (congrArg (AV.bp (0, nx)) hit) ?_⟩
          (conv => whnf)
          refine ⟨⟨rfl, (by first | omega | (simp only [List.length_map, List.length_set, List.length_cons, List.length_nil, List.length_replicate, List.length_append]; omega))⟩, splitO_eq (b := int (longF A (ts.take i) : Nat)) ((getD_map (d := 0) (by first | omega | (simp only [List.length_map, List.length_set, List.length_cons, List.length_nil, List.length_replicate, List.length_append]; omega))).trans (congrArg intA hgn)) ?_⟩
          (repeat ((conv=>whnf);first|refine ω0 ?_|refine ω1 ?_|refine ω2 ?_|refine ω3 ?_|refine ω4 rfl ?_|refine ω5 rfl ?_|refine ω6 ?_|refine ω7 ?_|refine ω8 ?_|refine ⟨rfl,?_⟩|refine ⟨trivial,?_⟩|refine ⟨⟨rfl,Nat.le_of_ble_eq_true rfl⟩,?_⟩|refine ⟨⟨by kernel_rfl,by kernel_rfl⟩,?_⟩|refine ⟨by decide,?_⟩|refine lit_true ?_|refine lit_false ?_))
          (conv => whnf)
          refine ⟨⟨(by omega : (0 : Int) ≤ ((ts.getD i 0 : Nat) : Int)), (by omega : ((ts.getD i 0 : Nat) : Int) < (l.length : Int))⟩, splitO_eq (b := .bp (0, nx) (ts.getD i 0)) (congrArg (AV.bp (0, nx)) htt) ?_⟩
          (conv => whnf)
          refine ⟨⟨rfl, (by first | omega | (simp only [List.length_map, List.length_set, List.length_cons, List.length_nil, List.length_replicate, List.length_append]; omega))⟩, splitO_eq (b := int (A.getD (ts.getD i 0) 0 : Nat)) ((getD_map (d := 0) (by first | omega | (simp only [List.length_map, List.length_set, List.length_cons, List.length_nil, List.length_replicate, List.length_append]; omega))).trans (congrArg intA hgt)) ?_⟩
          (repeat ((conv=>whnf);first|refine ω0 ?_|refine ω1 ?_|refine ω2 ?_|refine ω3 ?_|refine ω4 rfl ?_|refine ω5 rfl ?_|refine ω6 ?_|refine ω7 ?_|refine ω8 ?_|refine ⟨rfl,?_⟩|refine ⟨trivial,?_⟩|refine ⟨⟨rfl,Nat.le_of_ble_eq_true rfl⟩,?_⟩|refine ⟨⟨by kernel_rfl,by kernel_rfl⟩,?_⟩|refine ⟨by decide,?_⟩|refine lit_true ?_|refine lit_false ?_))
          (conv => whnf)
          refine ⟨⟨by first | omega | (dsimp only; omega), by first | omega | (dsimp only; omega)⟩, splitO_eq (b := .bp (0, nx) n) (congrArg (AV.bp (0, nx)) hit) ?_⟩
          (conv => whnf)
          have hmx : (if ((A.getD (ts.getD i 0) 0 : Nat) : Int) > (longF A (ts.take i) : Nat) then ((A.getD (ts.getD i 0) 0 : Nat) : Int) else (longF A (ts.take i) : Nat)) = ((longF A (ts.take (i + 1)) : Nat) : Int) := by
            rw [longF_take hi]; split <;> omega
          have hsp : splice ((A.set n (longF A (ts.take i))).map intA) n [AV.v (.int .i64 (if ((A.getD (ts.getD i 0) 0 : Nat) : Int) > (longF A (ts.take i) : Nat) then ((A.getD (ts.getD i 0) 0 : Nat) : Int) else (longF A (ts.take i) : Nat)))] = (A.set n (longF A (ts.take (i + 1)))).map intA := by
            rw [hmx]
            refine (splice_one (f := intA) (x := longF A (ts.take (i + 1))) (by simp; omega)).trans ?_
            rw [List.set_set]
          refine ⟨⟨rfl, (by first | omega | (simp only [List.length_map, List.length_set, List.length_cons, List.length_nil, List.length_replicate, List.length_append]; omega))⟩, ?_⟩
          rw [hsp]
          (repeat ((conv=>whnf);first|refine ω0 ?_|refine ω1 ?_|refine ω2 ?_|refine ω3 ?_|refine ω4 rfl ?_|refine ω5 rfl ?_|refine ω6 ?_|refine ω7 ?_|refine ω8 ?_|refine ⟨rfl,?_⟩|refine ⟨trivial,?_⟩|refine ⟨⟨rfl,Nat.le_of_ble_eq_true rfl⟩,?_⟩|refine ⟨⟨by kernel_rfl,by kernel_rfl⟩,?_⟩|refine ⟨by decide,?_⟩|refine lit_true ?_|refine lit_false ?_))
          exact back (i + 1, nx5) (by dsimp only; omega) (by dsimp only; omega) (ele_tell _ _ rfl rfl (List.Sublist.refl _) .slnil ⟨rfl, OwnLe.refl _, trivial⟩ trivial ⟨AVle.refl _, AVle.refl _, AVle.refl _, AVle.refl _, AVle.refl _, le_int (wrap_succ (by dsimp only; omega)), trivial⟩)
end Go.Proofs.W

namespace Go.Proofs.W
open Go.Vl

/-- The longest way from each instruction on. -/
def LV (l : List Ins) (n : Nat) : Nat := (longA l l.length).getD n 0
theorem longA_step (l : List Ins) (j : Nat) : longA l (j + 1) = (longA l j).set (l.length - 1 - j) (longF (longA l j) (nextsI l (l.length - 1 - j)) + 1) := rfl
theorem longA_keep (l : List Ins) (n : Nat) : ∀ d j, l.length ≤ n + j → j + d ≤ l.length → (longA l (j + d)).getD n 0 = (longA l j).getD n 0
  | 0, _, _, _ => rfl
  | d + 1, j, h, h2 => by
    rw [← Nat.add_assoc, longA_step, getDL_set, if_neg (by omega)]
    exact longA_keep l n d j h (by omega)
theorem longF_congr {a b : List Nat} : ∀ (ts : List Nat), (∀ t ∈ ts, a.getD t 0 = b.getD t 0) → longF a ts = longF b ts := by
  intro ts h
  unfold longF
  have : ∀ (ts : List Nat) (m : Nat), (∀ t ∈ ts, a.getD t 0 = b.getD t 0) → ts.foldl (fun x t => max x (a.getD t 0)) m = ts.foldl (fun x t => max x (b.getD t 0)) m := by
    intro ts
    induction ts with
    | nil => intro m _; rfl
    | cons t ts ih => intro m h; rw [List.foldl_cons, List.foldl_cons, h t (by simp)]; exact ih _ fun x hx => h x (by simp [hx])
  exact this ts 0 h
theorem LV_eq {l : List Ins} (hf : Formed l) {n : Nat} (hn : n < l.length) : LV l n = longF (longA l l.length) (nextsI l n) + 1 := by
  obtain ⟨j, hj⟩ : ∃ j, n + 1 + j = l.length := ⟨l.length - 1 - n, by omega⟩
  have h1 := longA_keep l n (l.length - (j + 1)) (j + 1) (by omega) (by omega)
  rw [show j + 1 + (l.length - (j + 1)) = l.length by omega] at h1
  unfold LV
  rw [h1, longA_step, show l.length - 1 - j = n by omega, getDL_set, if_pos ⟨rfl, by rw [longA_length]; exact hn⟩]
  congr 1
  refine longF_congr _ fun t ht => ?_
  have h2 := nexts_lt hf hn t ht
  have h3 := longA_keep l t (l.length - j) j (by omega) (by omega)
  rw [show j + (l.length - j) = l.length by omega] at h3
  exact h3.symm
def insB (b : Bool) : Ins := if b then ⟨22, 0, 0, 0⟩ else ⟨132, 0, 0, 0⟩
def straight (l : List Bool) : List Ins := l.map insB ++ [⟨22, 0, 0, 0⟩]
def firstB (l : List Bool) : Nat := (l.findIdx? (fun b => b)).getD l.length
theorem straight_len (l : List Bool) : (straight l).length = l.length + 1 := by simp [straight]
theorem straight_get {l : List Bool} {n : Nat} (h : n ≤ l.length) : (straight l).getD n ins0 = insB (if n < l.length then l.getD n false else true) := by
  unfold straight
  simp only [List.getD]
  by_cases h1 : n < l.length
  · rw [List.getElem?_append_left (by simpa using h1), if_pos h1]
    simp [h1]
  · obtain rfl : n = l.length := by omega
    rw [List.getElem?_append_right (by simp), if_neg h1]
    simp [insB]
theorem kof_insB (b : Bool) : kof (insB b).code = (if b then 15 else 12, false) := by cases b <;> decide
theorem kind_straight {l : List Bool} {n : Nat} (h : n ≤ l.length) : kind (straight l) n = if (if n < l.length then l.getD n false else true) = true then 15 else 12 := by
  unfold kind; rw [straight_get h, kof_insB]
theorem firstB_le (l : List Bool) : firstB l ≤ l.length := by
  unfold firstB
  cases h : l.findIdx? (fun b => b) with
  | none => simp
  | some i => have := (List.findIdx?_eq_some_iff_getElem.1 h).1; simp; omega
theorem firstB_low {l : List Bool} {n : Nat} (h : n < firstB l) : l.getD n false = false := by
  unfold firstB at h
  cases hf : l.findIdx? (fun b => b) with
  | none =>
    rw [hf] at h
    rw [List.findIdx?_eq_none_iff] at hf
    have hn : n < l.length := by simpa using h
    have := hf l[n] (List.getElem_mem hn)
    simpa [List.getD, hn] using this
  | some i =>
    rw [hf] at h
    obtain ⟨h1, h2, h3⟩ := List.findIdx?_eq_some_iff_getElem.1 hf
    have h4 : n < i := by simpa using h
    have := h3 n h4
    simpa [List.getD, show n < l.length by omega] using this
theorem firstB_at (l : List Bool) (h : firstB l < l.length) : l.getD (firstB l) false = true := by
  unfold firstB at h ⊢
  cases hf : l.findIdx? (fun b => b) with
  | none => rw [hf] at h; simp at h
  | some i =>
    obtain ⟨h1, h2, h3⟩ := List.findIdx?_eq_some_iff_getElem.1 hf
    simpa [List.getD, h1] using h2
theorem kind_first (l : List Bool) : kind (straight l) (firstB l) = 15 := by
  rw [kind_straight (firstB_le l)]
  split
  · rename_i h
    rw [firstB_at l h]; rfl
  · rfl
theorem kind_low {l : List Bool} {n : Nat} (h : n < firstB l) : kind (straight l) n = 12 := by
  have := firstB_le l
  rw [kind_straight (by omega), if_pos (show n < l.length by omega), firstB_low h]
  rfl
theorem straight_right {l : List Bool} (hl : l.length ≤ 200) : Right (straight l) := by
  have hk : ∀ n, n < (straight l).length → kind (straight l) n = 15 ∨ kind (straight l) n = 12 := fun n hn => by
    rw [straight_len] at hn
    rw [kind_straight (by omega)]; split <;> simp
  refine ⟨⟨by rw [straight_len]; omega, by rw [straight_len]; omega, fun n hn => ?_, ?_⟩, fun n hn h => ?_⟩
  · rw [straight_len] at hn
    rw [straight_get (by omega)]
    unfold wrongI
    rw [kof_insB]
    generalize (if n < l.length then l.getD n false else true) = b
    cases b <;> simp
  · rw [straight_len, kind_straight (by omega)]
    simp
  · have := hk n hn; omega
theorem straight_nexts {l : List Bool} {n : Nat} (h : n < firstB l) : nextsI (straight l) n = [n + 1] := by
  unfold nextsI; rw [kind_low h]; rfl
theorem straight_end (l : List Bool) : nextsI (straight l) (firstB l) = [] := by
  unfold nextsI; rw [kind_first l]; rfl
theorem straight_reached {l : List Bool} (n : Nat) : Reached (straight l) n ↔ n ≤ firstB l := by
  constructor
  · intro h
    induction h with
    | zero => omega
    | step m t _ _ ht ih =>
      rcases Nat.lt_or_ge m (firstB l) with h1 | h1
      · rw [straight_nexts h1] at ht; simp at ht; omega
      · obtain rfl : m = firstB l := by omega
        rw [straight_end] at ht; simp at ht
  · induction n with
    | zero => intro _; exact .zero
    | succ n ih => intro h; exact .step n (n + 1) (ih (by omega)) rfl (by rw [straight_nexts (by omega)]; simp)
theorem straight_LV {l : List Bool} (hl : l.length ≤ 200) : ∀ d n, n + d = firstB l → LV (straight l) n = d + 1
  | 0, n, h => by
    obtain rfl : n = firstB l := by omega
    have := firstB_le l
    rw [LV_eq (straight_right hl).1 (by rw [straight_len]; omega), straight_end]
    rfl
  | d + 1, n, h => by
    have := firstB_le l
    have ih := straight_LV hl d (n + 1) (by omega)
    rw [LV_eq (straight_right hl).1 (by rw [straight_len]; omega), straight_nexts (by omega)]
    show max 0 (LV (straight l) (n + 1)) + 1 = _
    rw [ih]; omega
theorem straight_long {l : List Bool} (hl : l.length ≤ 200) : longI (straight l) = firstB l + 1 := straight_LV hl (firstB l) 0 (by omega)
theorem straight_cnt {l : List Bool} (hl : l.length ≤ 200) : ∀ n, n ≤ l.length + 1 → cnt (straight l) n = min n (firstB l + 1)
  | 0, _ => by rw [cnt_zero]; omega
  | n + 1, h => by
    rw [cnt_succ (by rw [straight_len]; omega), straight_cnt hl n (by omega)]
    have h1 := reachI_iff (straight_right hl).1 n
    rw [straight_reached] at h1
    split
    · rename_i h2; have := h1.1 h2; omega
    · rename_i h2; have : ¬ n ≤ firstB l := fun h3 => h2 (h1.2 h3); omega
theorem straight_prune {l : List Bool} (hl : l.length ≤ 200) : (pruneI (straight l)).length = firstB l + 1 := by
  have := firstB_le l
  rw [prune_len (straight_right hl), straight_len, straight_cnt hl _ (Nat.le_refl _)]
  omega
end Go.Proofs.W

namespace Go.Proofs.W
open Go.Vl
set_option maxRecDepth 100000

def u64 (n : Int) : AV := .v (.int .u64 n)
def bytesA (l : List Nat) : AV := slOf 1 (fun n : Nat => u8 n) 0 l
def okB (b : List Nat) : Prop := ∀ x ∈ b, x < 256
def intsZ (l : List Int) : AV := slOf 1 int 0 l
/-- The first place where p holds; -1: none. -/
def idxOf (n : Nat) (p : Nat → Bool) : Int := match (List.range n).find? p with | some i => (i : Nat) | none => -1
theorem idxOf_some {n i : Nat} {p : Nat → Bool} (hi : i < n) (h : p i = true) (hb : ∀ j, j < i → p j = false) : idxOf n p = (i : Nat) := by
  unfold idxOf; rw [find_range_some hi h hb]
theorem idxOf_none {n : Nat} {p : Nat → Bool} (hb : ∀ j, j < n → p j = false) : idxOf n p = -1 := by
  unfold idxOf; rw [find_range_none hb]
theorem idxOf_cases (n : Nat) (p : Nat → Bool) : (∃ i, i < n ∧ p i = true ∧ (∀ j, j < i → p j = false) ∧ idxOf n p = (i : Nat)) ∨ ((∀ j, j < n → p j = false) ∧ idxOf n p = -1) := by
  cases h : (List.range n).find? p with
  | some i =>
    have h1 := List.find?_some h
    have hi : i < n := List.mem_range.1 (List.mem_of_find?_eq_some h)
    refine .inl ⟨i, hi, h1, fun j hj => ?_, by unfold idxOf; rw [h]⟩
    have := List.find?_range_eq_some.1 h
    have h4 := this.2.2 j hj
    simpa using h4
  | none =>
    refine .inr ⟨fun j hj => ?_, by unfold idxOf; rw [h]⟩
    have := List.find?_eq_none.1 h j (List.mem_range.2 hj)
    simpa using this

theorem index_spec (l : List Int) (x : Int) (hl : l.length ≤ 1000000000) : Tells Try.prog 123 [intsZ l, int x] (int (idxOf l.length fun i => decide (x = l.getD i 0))) := by
  refine tells_of_aw Try.func123 rfl rfl fun nx => ?_
  (repeat ((conv=>whnf);first|refine ω0 ?_|refine ω1 ?_|refine ω2 ?_|refine ω3 ?_|refine ω4 rfl ?_|refine ω5 rfl ?_|refine ω6 ?_|refine ω7 ?_|refine ω8 ?_|refine ⟨rfl,?_⟩|refine ⟨trivial,?_⟩|refine ⟨⟨rfl,Nat.le_of_ble_eq_true rfl⟩,?_⟩|refine ⟨⟨by kernel_rfl,by kernel_rfl⟩,?_⟩|refine ⟨by decide,?_⟩|refine lit_true ?_|refine lit_false ?_))
  refine aw_loop (fun i : Nat => mk 19 [(0, intsZ l), (1, int x), (7, int l.length), (8, int i)] ⟨[], [], nx, 0⟩) (fun i => i ≤ l.length ∧ ∀ j, j < i → x ≠ l.getD j 0) (fun i => l.length - i) ?_ ?_
  · exact ⟨0, ⟨by omega, by intro j hj; omega⟩, ele_mk rfl rfl ⟨AVle.refl _, AVle.refl _, AVle.refl _, AVle.refl _, trivial⟩⟩
  · rintro i ⟨h1, h2⟩
    (repeat ((conv=>whnf);first|refine ω0 ?_|refine ω1 ?_|refine ω2 ?_|refine ω3 ?_|refine ω4 rfl ?_|refine ω5 rfl ?_|refine ω6 ?_|refine ω7 ?_|refine ω8 ?_|refine ⟨rfl,?_⟩|refine ⟨trivial,?_⟩|refine ⟨⟨rfl,Nat.le_of_ble_eq_true rfl⟩,?_⟩|refine ⟨⟨by kernel_rfl,by kernel_rfl⟩,?_⟩|refine ⟨by decide,?_⟩|refine lit_true ?_|refine lit_false ?_))
    intro c g; cases c
    · have g := not_of g
      (repeat ((conv=>whnf);first|refine ω0 ?_|refine ω1 ?_|refine ω2 ?_|refine ω3 ?_|refine ω4 rfl ?_|refine ω5 rfl ?_|refine ω6 ?_|refine ω7 ?_|refine ω8 ?_|refine ⟨rfl,?_⟩|refine ⟨trivial,?_⟩|refine ⟨⟨rfl,Nat.le_of_ble_eq_true rfl⟩,?_⟩|refine ⟨⟨by kernel_rfl,by kernel_rfl⟩,?_⟩|refine ⟨by decide,?_⟩|refine lit_true ?_|refine lit_false ?_))
      refine ret_tells rfl (le_int ?_)
      rw [idxOf_none fun j hj => decide_eq_false (h2 j (by omega))]
    · have g := yes_of g
      (repeat ((conv=>whnf);first|refine ω0 ?_|refine ω1 ?_|refine ω2 ?_|refine ω3 ?_|refine ω4 rfl ?_|refine ω5 rfl ?_|refine ω6 ?_|refine ω7 ?_|refine ω8 ?_|refine ⟨rfl,?_⟩|refine ⟨trivial,?_⟩|refine ⟨⟨rfl,Nat.le_of_ble_eq_true rfl⟩,?_⟩|refine ⟨⟨by kernel_rfl,by kernel_rfl⟩,?_⟩|refine ⟨by decide,?_⟩|refine lit_true ?_|refine lit_false ?_))
      refine ⟨⟨by first | omega | (dsimp only; omega), by first | omega | (dsimp only; omega)⟩, ?_⟩
      (repeat ((conv=>whnf);first|refine ω0 ?_|refine ω1 ?_|refine ω2 ?_|refine ω3 ?_|refine ω4 rfl ?_|refine ω5 rfl ?_|refine ω6 ?_|refine ω7 ?_|refine ω8 ?_|refine ⟨rfl,?_⟩|refine ⟨trivial,?_⟩|refine ⟨⟨rfl,Nat.le_of_ble_eq_true rfl⟩,?_⟩|refine ⟨⟨by kernel_rfl,by kernel_rfl⟩,?_⟩|refine ⟨by decide,?_⟩|refine lit_true ?_|refine lit_false ?_))
      intro c g2; cases c
      · have g2 := fct_b0.1 g2
        (repeat ((conv=>whnf);first|refine ω0 ?_|refine ω1 ?_|refine ω2 ?_|refine ω3 ?_|refine ω4 rfl ?_|refine ω5 rfl ?_|refine ω6 ?_|refine ω7 ?_|refine ω8 ?_|refine ⟨rfl,?_⟩|refine ⟨trivial,?_⟩|refine ⟨⟨rfl,Nat.le_of_ble_eq_true rfl⟩,?_⟩|refine ⟨⟨by kernel_rfl,by kernel_rfl⟩,?_⟩|refine ⟨by decide,?_⟩|refine lit_true ?_|refine lit_false ?_))
        refine back (i + 1) ⟨by omega, fun j hj => ?_⟩ (by omega) (ele_mk rfl rfl ⟨AVle.refl _, AVle.refl _, AVle.refl _, le_int (wrap_succ (by omega)), trivial⟩)
        rcases Nat.lt_or_ge j i with h | h
        · exact h2 j h
        · obtain rfl : j = i := by omega
          exact g2
      · have g2 := fct_b1.1 g2
        (repeat ((conv=>whnf);first|refine ω0 ?_|refine ω1 ?_|refine ω2 ?_|refine ω3 ?_|refine ω4 rfl ?_|refine ω5 rfl ?_|refine ω6 ?_|refine ω7 ?_|refine ω8 ?_|refine ⟨rfl,?_⟩|refine ⟨trivial,?_⟩|refine ⟨⟨rfl,Nat.le_of_ble_eq_true rfl⟩,?_⟩|refine ⟨⟨by kernel_rfl,by kernel_rfl⟩,?_⟩|refine ⟨by decide,?_⟩|refine lit_true ?_|refine lit_false ?_))
        refine ret_tells rfl (le_int ?_)
        rw [idxOf_some (i := i) (by omega) (decide_eq_true g2) fun j hj => decide_eq_false (h2 j hj)]
theorem contains_spec (l : List Int) (x : Int) (hl : l.length ≤ 1000000000) : Tells Try.prog 115 [intsZ l, int x] (boolA (l.contains x)) := by
  refine tells_of_aw Try.func115 rfl rfl fun nx => ?_
  (repeat ((conv=>whnf);first|refine ω0 ?_|refine ω1 ?_|refine ω2 ?_|refine ω3 ?_|refine ω4 rfl ?_|refine ω5 rfl ?_|refine ω6 ?_|refine ω7 ?_|refine ω8 ?_|refine ⟨rfl,?_⟩|refine ⟨trivial,?_⟩|refine ⟨⟨rfl,Nat.le_of_ble_eq_true rfl⟩,?_⟩|refine ⟨⟨by kernel_rfl,by kernel_rfl⟩,?_⟩|refine ⟨by decide,?_⟩|refine lit_true ?_|refine lit_false ?_))
  refine aop_tells rfl rfl (index_spec l x hl) ⟨AVle.refl _, AVle.refl _, trivial⟩ fun nx => ?_
  (repeat ((conv=>whnf);first|refine ω0 ?_|refine ω1 ?_|refine ω2 ?_|refine ω3 ?_|refine ω4 rfl ?_|refine ω5 rfl ?_|refine ω6 ?_|refine ω7 ?_|refine ω8 ?_|refine ⟨rfl,?_⟩|refine ⟨trivial,?_⟩|refine ⟨⟨rfl,Nat.le_of_ble_eq_true rfl⟩,?_⟩|refine ⟨⟨by kernel_rfl,by kernel_rfl⟩,?_⟩|refine ⟨by decide,?_⟩|refine lit_true ?_|refine lit_false ?_))
  intro c hc
  (repeat ((conv=>whnf);first|refine ω0 ?_|refine ω1 ?_|refine ω2 ?_|refine ω3 ?_|refine ω4 rfl ?_|refine ω5 rfl ?_|refine ω6 ?_|refine ω7 ?_|refine ω8 ?_|refine ⟨rfl,?_⟩|refine ⟨trivial,?_⟩|refine ⟨⟨rfl,Nat.le_of_ble_eq_true rfl⟩,?_⟩|refine ⟨⟨by kernel_rfl,by kernel_rfl⟩,?_⟩|refine ⟨by decide,?_⟩|refine lit_true ?_|refine lit_false ?_))
  refine ret_tells rfl (le_bool (hc.trans ?_))
  rcases idxOf_cases l.length (fun i => decide (x = l.getD i 0)) with ⟨i, h1, h2, h3, h4⟩ | ⟨h1, h2⟩
  · rw [h4]
    have h2 := of_decide_eq_true h2
    have : x ∈ l := by rw [h2]; simp [List.getD, h1]
    simp [this]
  · rw [h2]
    have : ¬ x ∈ l := fun hm => by
      obtain ⟨i, hi, he⟩ := List.getElem_of_mem hm
      have := of_decide_eq_false (h1 i hi)
      exact this (by simp [List.getD, hi, he])
    simp [this]

def okW (w : Nat) : Prop := w = 1 ∨ w = 2 ∨ w = 4 ∨ w = 8
def okI (n : Int) : Prop := -9223372036854775808 ≤ n ∧ n ≤ 9223372036854775807
def thereI (n : Nat) (at' : Int) (w : Nat) : Nat := if 0 ≤ at' ∧ at' + w ≤ n then 0 else 2
theorem there_spec (b : List Nat) (at' : Int) (w : Nat) (hw : okW w) (hl : b.length ≤ 1000000000) (ha : okI at') : Tells Try.prog 84 [bytesA b, int at', int w] (int (thereI b.length at' w)) := by
  refine tells_of_aw Try.func84 rfl rfl fun nx => ?_
  (repeat ((conv=>whnf);first|refine ω0 ?_|refine ω1 ?_|refine ω2 ?_|refine ω3 ?_|refine ω4 rfl ?_|refine ω5 rfl ?_|refine ω6 ?_|refine ω7 ?_|refine ω8 ?_|refine ⟨rfl,?_⟩|refine ⟨trivial,?_⟩|refine ⟨⟨rfl,Nat.le_of_ble_eq_true rfl⟩,?_⟩|refine ⟨⟨by kernel_rfl,by kernel_rfl⟩,?_⟩|refine ⟨by decide,?_⟩|refine lit_true ?_|refine lit_false ?_))
  refine aop_tells rfl rfl (contains_spec [1, 2, 4, 8] w (by decide)) ⟨?_, AVle.refl _, trivial⟩ fun nx => ?_
  · refine AVle.os_sl.trans (AVle.sl_fun fun k hk => ?_)
    match k, hk with
    | 0, _ => rfl
    | 1, _ => rfl
    | 2, _ => rfl
    | 3, _ => rfl
  intro c hc
  obtain rfl : c = true := by rw [hc]; rcases hw with rfl | rfl | rfl | rfl <;> rfl
  (repeat ((conv=>whnf);first|refine ω0 ?_|refine ω1 ?_|refine ω2 ?_|refine ω3 ?_|refine ω4 rfl ?_|refine ω5 rfl ?_|refine ω6 ?_|refine ω7 ?_|refine ω8 ?_|refine ⟨rfl,?_⟩|refine ⟨trivial,?_⟩|refine ⟨⟨rfl,Nat.le_of_ble_eq_true rfl⟩,?_⟩|refine ⟨⟨by kernel_rfl,by kernel_rfl⟩,?_⟩|refine ⟨by decide,?_⟩|refine lit_true ?_|refine lit_false ?_))
  intro c g; cases c
  · have g := not_of g
    (repeat ((conv=>whnf);first|refine ω0 ?_|refine ω1 ?_|refine ω2 ?_|refine ω3 ?_|refine ω4 rfl ?_|refine ω5 rfl ?_|refine ω6 ?_|refine ω7 ?_|refine ω8 ?_|refine ⟨rfl,?_⟩|refine ⟨trivial,?_⟩|refine ⟨⟨rfl,Nat.le_of_ble_eq_true rfl⟩,?_⟩|refine ⟨⟨by kernel_rfl,by kernel_rfl⟩,?_⟩|refine ⟨by decide,?_⟩|refine lit_true ?_|refine lit_false ?_))
    intro c g2; cases c
    · have g2 := not_of g2
      rw [wrap_id (by rcases hw with rfl | rfl | rfl | rfl <;> omega) (by omega)] at g2
      (repeat ((conv=>whnf);first|refine ω0 ?_|refine ω1 ?_|refine ω2 ?_|refine ω3 ?_|refine ω4 rfl ?_|refine ω5 rfl ?_|refine ω6 ?_|refine ω7 ?_|refine ω8 ?_|refine ⟨rfl,?_⟩|refine ⟨trivial,?_⟩|refine ⟨⟨rfl,Nat.le_of_ble_eq_true rfl⟩,?_⟩|refine ⟨⟨by kernel_rfl,by kernel_rfl⟩,?_⟩|refine ⟨by decide,?_⟩|refine lit_true ?_|refine lit_false ?_))
      refine ret_tells rfl (le_int ?_)
      unfold thereI; rw [if_pos (by omega)]; rfl
    · have g2 := yes_of g2
      rw [wrap_id (by rcases hw with rfl | rfl | rfl | rfl <;> omega) (by omega)] at g2
      (repeat ((conv=>whnf);first|refine ω0 ?_|refine ω1 ?_|refine ω2 ?_|refine ω3 ?_|refine ω4 rfl ?_|refine ω5 rfl ?_|refine ω6 ?_|refine ω7 ?_|refine ω8 ?_|refine ⟨rfl,?_⟩|refine ⟨trivial,?_⟩|refine ⟨⟨rfl,Nat.le_of_ble_eq_true rfl⟩,?_⟩|refine ⟨⟨by kernel_rfl,by kernel_rfl⟩,?_⟩|refine ⟨by decide,?_⟩|refine lit_true ?_|refine lit_false ?_))
      refine ret_tells rfl (le_int ?_)
      unfold thereI; rw [if_neg (by omega)]; rfl
  · have g := yes_of g
    (repeat ((conv=>whnf);first|refine ω0 ?_|refine ω1 ?_|refine ω2 ?_|refine ω3 ?_|refine ω4 rfl ?_|refine ω5 rfl ?_|refine ω6 ?_|refine ω7 ?_|refine ω8 ?_|refine ⟨rfl,?_⟩|refine ⟨trivial,?_⟩|refine ⟨⟨rfl,Nat.le_of_ble_eq_true rfl⟩,?_⟩|refine ⟨⟨by kernel_rfl,by kernel_rfl⟩,?_⟩|refine ⟨by decide,?_⟩|refine lit_true ?_|refine lit_false ?_))
    refine ret_tells rfl (le_int ?_)
    unfold thereI; rw [if_neg (by omega)]; rfl

def placesI (at' w : Nat) (big : Bool) : List Nat := (List.range w).map fun i => if big then at' + i else at' + w - 1 - i
theorem placesI_length (at' w : Nat) (big : Bool) : (placesI at' w big).length = w := by simp [placesI]
theorem placesI_get {at' w i : Nat} {big : Bool} (h : i < w) : (placesI at' w big).getD i 0 = if big then at' + i else at' + w - 1 - i := by
  simp [placesI, List.getD, List.getElem?_map, List.getElem?_range h]
theorem places_spec (at' : Int) (w : Int) (big : Bool) : Tells Try.prog 85 [int at', int w, boolA big] (.fn (.func 116) [] [.rp [int w], .rp [int at'], .rp [boolA big]]) := by
  refine tells_of_aw Try.func85 rfl rfl fun nx => ?_
  (repeat ((conv=>whnf);first|refine ω0 ?_|refine ω1 ?_|refine ω2 ?_|refine ω3 ?_|refine ω4 rfl ?_|refine ω5 rfl ?_|refine ω6 ?_|refine ω7 ?_|refine ⟨rfl,?_⟩|refine ⟨trivial,?_⟩|refine ⟨⟨rfl,Nat.le_of_ble_eq_true rfl⟩,?_⟩|refine ⟨⟨by kernel_rfl,by kernel_rfl⟩,?_⟩|refine ⟨by decide,?_⟩|refine lit_true ?_|refine lit_false ?_))
  refine AW.le (ele_freeze (L := [(6, .fn (.func 116) [] [.rp [int w], .rp [int at'], .rp [boolA big]])]) (bx := []) (pm := []) (nn := 3) [((2, nx + 2), .c [boolA big]), ((1, nx + 1), .c [int w]), ((0, nx), .c [int at'])] rfl rfl (List.Sublist.refl _) .slnil ⟨Frz.fn trivial ⟨Frz.bp (.tail _ (.head _)) rfl, Frz.bp (.tail _ (.tail _ (.head _))) rfl, Frz.bp (.head _) rfl, trivial⟩, trivial⟩) ?_
  (repeat ((conv=>whnf);first|refine ω0 ?_|refine ω1 ?_|refine ω2 ?_|refine ω3 ?_|refine ω4 rfl ?_|refine ω5 rfl ?_|refine ω6 ?_|refine ω7 ?_|refine ω8 ?_|refine ⟨rfl,?_⟩|refine ⟨trivial,?_⟩|refine ⟨⟨rfl,Nat.le_of_ble_eq_true rfl⟩,?_⟩|refine ⟨⟨by kernel_rfl,by kernel_rfl⟩,?_⟩|refine ⟨by decide,?_⟩|refine lit_true ?_|refine lit_false ?_))
  exact ret_tells rfl (AVle.refl _)
theorem places_iter (at' w : Nat) (big : Bool) (hw : w ≤ 8) (ha : at' ≤ 1000000000) : IterSpec Try.prog 116 [] [.rp [int w], .rp [int at'], .rp [boolA big]] (fun k : Nat => [int k]) (placesI at' w big) := by
  intro i σ Cb Cp I J hc s0 nx nn h0
  refine ecall_of_aw Try.func116 rfl rfl ?_
  (repeat ((conv=>whnf);first|refine ω0 ?_|refine ω1 ?_|refine ω2 ?_|refine ω3 ?_|refine ω4 rfl ?_|refine ω5 rfl ?_|refine ω6 ?_|refine ω7 ?_|refine ω8 ?_|refine ⟨rfl,?_⟩|refine ⟨trivial,?_⟩|refine ⟨⟨rfl,Nat.le_of_ble_eq_true rfl⟩,?_⟩|refine ⟨⟨by kernel_rfl,by kernel_rfl⟩,?_⟩|refine ⟨by decide,?_⟩|refine lit_true ?_|refine lit_false ?_))
  refine aw_loop (fun x : Nat × σ × Nat => mk 26 [(0, .yl i), (1, .rp [int w]), (2, .rp [int at']), (3, .rp [boolA big]), (7, int w), (8, int x.1)] ⟨Cb x.2.1, Cp x.2.1, x.2.2, nn⟩) (fun x => x.1 ≤ w ∧ I ((placesI at' w big).take x.1) x.2.1) (fun x => w - x.1) ?_ ?_
  · exact ⟨(0, s0, nx), ⟨by dsimp only; omega, by simpa using h0⟩, ele_mk rfl rfl ⟨AVle.refl _, AVle.refl _, AVle.refl _, AVle.refl _, AVle.refl _, AVle.refl _, trivial⟩⟩
  · rintro ⟨j, s, nx'⟩ ⟨h1, h2⟩
    dsimp only at h1 h2
    (repeat ((conv=>whnf);first|refine ω0 ?_|refine ω1 ?_|refine ω2 ?_|refine ω3 ?_|refine ω4 rfl ?_|refine ω5 rfl ?_|refine ω6 ?_|refine ω7 ?_|refine ω8 ?_|refine ⟨rfl,?_⟩|refine ⟨trivial,?_⟩|refine ⟨⟨rfl,Nat.le_of_ble_eq_true rfl⟩,?_⟩|refine ⟨⟨by kernel_rfl,by kernel_rfl⟩,?_⟩|refine ⟨by decide,?_⟩|refine lit_true ?_|refine lit_false ?_))
    intro c g; cases c
    · have g := not_of g
      dsimp only at g
      (repeat ((conv=>whnf);first|refine ω0 ?_|refine ω1 ?_|refine ω2 ?_|refine ω3 ?_|refine ω4 rfl ?_|refine ω5 rfl ?_|refine ω6 ?_|refine ω7 ?_|refine ω8 ?_|refine ⟨rfl,?_⟩|refine ⟨trivial,?_⟩|refine ⟨⟨rfl,Nat.le_of_ble_eq_true rfl⟩,?_⟩|refine ⟨⟨by kernel_rfl,by kernel_rfl⟩,?_⟩|refine ⟨by decide,?_⟩|refine lit_true ?_|refine lit_false ?_))
      refine ret_is rfl ⟨s, .inl ?_, rfl, rfl⟩
      rw [List.take_of_length_le (by rw [placesI_length]; omega)] at h2
      exact h2
    · have g := yes_of g
      dsimp only at g
      have hj : j < w := by omega
      have hsp : placesI at' w big = (placesI at' w big).take j ++ (placesI at' w big).getD j 0 :: (placesI at' w big).drop (j + 1) := by
        have hlt : j < (placesI at' w big).length := by rw [placesI_length]; exact hj
        simp [List.getD, hlt]
      have hst : (placesI at' w big).take (j + 1) = (placesI at' w big).take j ++ [(placesI at' w big).getD j 0] := take_getD 0 (by rw [placesI_length]; exact hj)
      have hgt := placesI_get (at' := at') (w := w) (i := j) (big := big) hj
      generalize placesI at' w big = xs at *
      (repeat ((conv=>whnf);first|refine ω0 ?_|refine ω1 ?_|refine ω2 ?_|refine ω3 ?_|refine ω4 rfl ?_|refine ω5 rfl ?_|refine ω6 ?_|refine ω7 ?_|refine ω8 ?_|refine ⟨rfl,?_⟩|refine ⟨trivial,?_⟩|refine ⟨⟨rfl,Nat.le_of_ble_eq_true rfl⟩,?_⟩|refine ⟨⟨by kernel_rfl,by kernel_rfl⟩,?_⟩|refine ⟨by decide,?_⟩|refine lit_true ?_|refine lit_false ?_))
      cases big
      all_goals (repeat ((conv=>whnf);first|refine ω0 ?_|refine ω1 ?_|refine ω2 ?_|refine ω3 ?_|refine ω4 rfl ?_|refine ω5 rfl ?_|refine ω6 ?_|refine ω7 ?_|refine ω8 ?_|refine ⟨rfl,?_⟩|refine ⟨trivial,?_⟩|refine ⟨⟨rfl,Nat.le_of_ble_eq_true rfl⟩,?_⟩|refine ⟨⟨by kernel_rfl,by kernel_rfl⟩,?_⟩|refine ⟨by decide,?_⟩|refine lit_true ?_|refine lit_false ?_))
      · simp only [Bool.false_eq_true, if_false] at hgt
        refine aop_hand (pre := xs.take j) (post := xs.drop (j + 1)) (x := xs.getD j 0) (s := s) [] [] rfl rfl rfl hc hsp h2 ⟨le_int ?_, trivial⟩ (fun s' nx5 hI => ?_) (fun s' nx5 hJ => ?_)
        · rw [hgt]
          dsimp only
          rw [wrap_id (n := (at' : Int) + w) (by omega) (by omega), wrap_id (n := (at' : Int) + w - 1) (by omega) (by omega), wrap_id (by omega) (by omega)]
          omega
        · (repeat ((conv=>whnf);first|refine ω0 ?_|refine ω1 ?_|refine ω2 ?_|refine ω3 ?_|refine ω4 rfl ?_|refine ω5 rfl ?_|refine ω6 ?_|refine ω7 ?_|refine ω8 ?_|refine ⟨rfl,?_⟩|refine ⟨trivial,?_⟩|refine ⟨⟨rfl,Nat.le_of_ble_eq_true rfl⟩,?_⟩|refine ⟨⟨by kernel_rfl,by kernel_rfl⟩,?_⟩|refine ⟨by decide,?_⟩|refine lit_true ?_|refine lit_false ?_))
          exact back (j + 1, s', nx5) ⟨by dsimp only; omega, by dsimp only; rw [hst]; exact hI⟩ (by dsimp only; omega) (ele_mk rfl rfl ⟨AVle.refl _, AVle.refl _, AVle.refl _, AVle.refl _, AVle.refl _, le_int (wrap_succ (by dsimp only; omega)), trivial⟩)
        · (repeat ((conv=>whnf);first|refine ω0 ?_|refine ω1 ?_|refine ω2 ?_|refine ω3 ?_|refine ω4 rfl ?_|refine ω5 rfl ?_|refine ω6 ?_|refine ω7 ?_|refine ω8 ?_|refine ⟨rfl,?_⟩|refine ⟨trivial,?_⟩|refine ⟨⟨rfl,Nat.le_of_ble_eq_true rfl⟩,?_⟩|refine ⟨⟨by kernel_rfl,by kernel_rfl⟩,?_⟩|refine ⟨by decide,?_⟩|refine lit_true ?_|refine lit_false ?_))
          exact ret_is rfl ⟨s', .inr ⟨_, _, _, hsp, hJ⟩, rfl, rfl⟩
      · simp only [if_true] at hgt
        refine aop_hand (pre := xs.take j) (post := xs.drop (j + 1)) (x := xs.getD j 0) (s := s) [] [] rfl rfl rfl hc hsp h2 ⟨le_int ?_, trivial⟩ (fun s' nx5 hI => ?_) (fun s' nx5 hJ => ?_)
        · rw [hgt]
          dsimp only
          rw [wrap_id (by omega) (by omega)]
          omega
        · (repeat ((conv=>whnf);first|refine ω0 ?_|refine ω1 ?_|refine ω2 ?_|refine ω3 ?_|refine ω4 rfl ?_|refine ω5 rfl ?_|refine ω6 ?_|refine ω7 ?_|refine ω8 ?_|refine ⟨rfl,?_⟩|refine ⟨trivial,?_⟩|refine ⟨⟨rfl,Nat.le_of_ble_eq_true rfl⟩,?_⟩|refine ⟨⟨by kernel_rfl,by kernel_rfl⟩,?_⟩|refine ⟨by decide,?_⟩|refine lit_true ?_|refine lit_false ?_))
          exact back (j + 1, s', nx5) ⟨by dsimp only; omega, by dsimp only; rw [hst]; exact hI⟩ (by dsimp only; omega) (ele_mk rfl rfl ⟨AVle.refl _, AVle.refl _, AVle.refl _, AVle.refl _, AVle.refl _, le_int (wrap_succ (by dsimp only; omega)), trivial⟩)
        · (repeat ((conv=>whnf);first|refine ω0 ?_|refine ω1 ?_|refine ω2 ?_|refine ω3 ?_|refine ω4 rfl ?_|refine ω5 rfl ?_|refine ω6 ?_|refine ω7 ?_|refine ω8 ?_|refine ⟨rfl,?_⟩|refine ⟨trivial,?_⟩|refine ⟨⟨rfl,Nat.le_of_ble_eq_true rfl⟩,?_⟩|refine ⟨⟨by kernel_rfl,by kernel_rfl⟩,?_⟩|refine ⟨by decide,?_⟩|refine lit_true ?_|refine lit_false ?_))
          exact ret_is rfl ⟨s', .inr ⟨_, _, _, hsp, hJ⟩, rfl, rfl⟩

/-- Bytes put together, in this order. -/
def accB (b : List Nat) (ks : List Nat) : Nat := ks.foldl (fun n k => n * 256 + b.getD k 0) 0
theorem accB_snoc (b ks : List Nat) (k : Nat) : accB b (ks ++ [k]) = accB b ks * 256 + b.getD k 0 := by simp [accB]
theorem okB.get {b : List Nat} (h : okB b) (k : Nat) : b.getD k 0 < 256 := by
  rcases Nat.lt_or_ge k b.length with hk | hk
  · have e : b.getD k 0 = b[k] := by simp [List.getD, hk]
    rw [e]; exact h _ (List.getElem_mem hk)
  · simp [List.getD, List.getElem?_eq_none hk]
theorem accB_go {b : List Nat} (h : okB b) : ∀ (ks : List Nat) (n : Nat), ks.foldl (fun n k => n * 256 + b.getD k 0) n + 1 ≤ (n + 1) * 256 ^ ks.length
  | [], n => by simp
  | k :: ks, n => by
    have h1 := accB_go h ks (n * 256 + b.getD k 0)
    have h2 := h.get k
    rw [List.foldl_cons, List.length_cons, Nat.pow_succ]
    refine Nat.le_trans h1 ?_
    rw [Nat.mul_comm (256 ^ ks.length) 256, ← Nat.mul_assoc]
    exact Nat.mul_le_mul_right _ (by omega)
theorem accB_lt {b : List Nat} (h : okB b) (ks : List Nat) : accB b ks < 256 ^ ks.length := by
  have := accB_go h ks 0
  simp only [Nat.zero_add, Nat.one_mul] at this
  exact this
theorem shl_or {n x : Nat} (hn : n < 72057594037927936) (hx : x < 256) : bitsI .or .u64 (IntKind.u64.wrap ((n : Int) * 2 ^ 8)) (IntKind.u64.wrap (x : Int)) = ((n * 256 + x : Nat) : Int) := by
  have h1 : IntKind.u64.wrap ((n : Int) * 2 ^ 8) = ((n * 256 : Nat) : Int) := by
    have : ((n : Int) * 2 ^ 8) = ((n * 256 : Nat) : Int) := by push_cast; rfl
    rw [this]
    show ((n * 256 : Nat) : Int) % 18446744073709551616 = _
    omega
  have h2 : IntKind.u64.wrap (x : Int) = (x : Int) := by show (x : Int) % 18446744073709551616 = _; omega
  rw [h1, h2]
  have h3 : n * 256 ||| x = n * 256 + x := by
    have := Nat.two_pow_add_eq_or_of_lt (i := 8) (b := x) (by omega) n
    rw [Nat.mul_comm] at this
    exact this.symm
  have := bits_or (k := .u64) (a := n * 256) (b := x) (by show _ < 2 ^ 64; omega) (by show _ < 2 ^ 64; omega) (by rw [h3]; show ((n * 256 + x : Nat) : Int) % 18446744073709551616 = _; omega)
  rw [h3] at this
  exact this
theorem get_spec (b : List Nat) (hb : okB b) (hl : b.length ≤ 1000000000) (at' : Int) (ha : okI at') (w : Nat) (hw : okW w) (big : Bool) :
    Tells Try.prog 61 [bytesA b, int at', int w, boolA big] (.tup [u64 (if thereI b.length at' w = 0 then accB b (placesI at'.toNat w big) else 0 : Nat), int (thereI b.length at' w)]) := by
  have hw8 : w ≤ 8 := by rcases hw with rfl | rfl | rfl | rfl <;> omega
  refine tells_of_aw Try.func61 rfl rfl fun nx => ?_
  (repeat ((conv=>whnf);first|refine ω0 ?_|refine ω1 ?_|refine ω2 ?_|refine ω3 ?_|refine ω4 rfl ?_|refine ω5 rfl ?_|refine ω6 ?_|refine ω7 ?_|refine ω8 ?_|refine ⟨rfl,?_⟩|refine ⟨trivial,?_⟩|refine ⟨⟨rfl,Nat.le_of_ble_eq_true rfl⟩,?_⟩|refine ⟨⟨by kernel_rfl,by kernel_rfl⟩,?_⟩|refine ⟨by decide,?_⟩|refine lit_true ?_|refine lit_false ?_))
  refine aop_tells rfl rfl (there_spec b at' w hw hl ha) ⟨AVle.refl _, AVle.refl _, AVle.refl _, trivial⟩ fun nx1 => ?_
  (repeat ((conv=>whnf);first|refine ω0 ?_|refine ω1 ?_|refine ω2 ?_|refine ω3 ?_|refine ω4 rfl ?_|refine ω5 rfl ?_|refine ω6 ?_|refine ω7 ?_|refine ω8 ?_|refine ⟨rfl,?_⟩|refine ⟨trivial,?_⟩|refine ⟨⟨rfl,Nat.le_of_ble_eq_true rfl⟩,?_⟩|refine ⟨⟨by kernel_rfl,by kernel_rfl⟩,?_⟩|refine ⟨by decide,?_⟩|refine lit_true ?_|refine lit_false ?_))
  intro c g1; cases c
  · have g1 := bne_no g1
    have hz : thereI b.length at' w = 0 := by omega
    obtain ⟨n, rfl⟩ : ∃ n : Nat, at' = n := ⟨at'.toNat, by unfold thereI at hz; split at hz <;> omega⟩
    have hn : n + w ≤ b.length := by unfold thereI at hz; split at hz <;> omega
    (repeat ((conv=>whnf);first|refine ω0 ?_|refine ω1 ?_|refine ω2 ?_|refine ω3 ?_|refine ω4 rfl ?_|refine ω5 rfl ?_|refine ω6 ?_|refine ω7 ?_|refine ω8 ?_|refine ⟨rfl,?_⟩|refine ⟨trivial,?_⟩|refine ⟨⟨rfl,Nat.le_of_ble_eq_true rfl⟩,?_⟩|refine ⟨⟨by kernel_rfl,by kernel_rfl⟩,?_⟩|refine ⟨by decide,?_⟩|refine lit_true ?_|refine lit_false ?_))
    refine aop_tells rfl rfl (places_spec n w big) ⟨AVle.refl _, AVle.refl _, AVle.refl _, trivial⟩ fun nx2 => ?_
    (repeat ((conv=>whnf);first|refine ω0 ?_|refine ω1 ?_|refine ω2 ?_|refine ω3 ?_|refine ω4 rfl ?_|refine ω5 rfl ?_|refine ω6 ?_|refine ω7 ?_|refine ω8 ?_|refine ⟨rfl,?_⟩|refine ⟨trivial,?_⟩|refine ⟨⟨rfl,Nat.le_of_ble_eq_true rfl⟩,?_⟩|refine ⟨⟨by kernel_rfl,by kernel_rfl⟩,?_⟩|refine ⟨by decide,?_⟩|refine lit_true ?_|refine lit_false ?_))
    refine AW.le (ele_mk (L := [(4, .bp (0, nx) 0), (11, .bp (1, nx1) 0), (23, .fn (.func 116) [] [.rp [int w], .rp [int n], .rp [boolA big]])]) rfl rfl ⟨AVle.refl _, AVle.refl _, AVle.refl _, trivial⟩) ?_
    refine aw_for (σ := Nat) (α := Nat) (e := fun k : Nat => [int k]) (xs := placesI n w big) (first' := []) (caps' := [.rp [int w], .rp [int n], .rp [boolA big]]) (fun x : Nat => [((1, nx1), .c [u64 x]), ((0, nx), .c [bytesA b])]) (fun _ => [])
      (fun pre x => x = accB b pre) (fun _ _ _ => False) 0 rfl rfl (places_iter n w big hw8 (by omega)) trivial (LeL.refl _) rfl rfl rfl (fun _ => rfl) ?_ ?_
    · intro pre x post s nx3 nn3 hx hs
      subst hs
      have hlen : pre.length < w := by rw [← placesI_length n w big, hx]; simp
      have hxb : x < b.length := by
        have : x ∈ placesI n w big := by rw [hx]; simp
        obtain ⟨i, hi, rfl⟩ := List.mem_map.1 this
        have := List.mem_range.1 hi
        split <;> omega
      have hacc : accB b pre < 72057594037927936 := Nat.lt_of_lt_of_le (accB_lt hb pre) (Nat.le_trans (Nat.pow_le_pow_right (by decide) (by omega : pre.length ≤ 7)) (by decide))
      (repeat ((conv=>whnf);first|refine ω0 ?_|refine ω1 ?_|refine ω2 ?_|refine ω3 ?_|refine ω4 rfl ?_|refine ω5 rfl ?_|refine ω6 ?_|refine ω7 ?_|refine ω8 ?_|refine ⟨rfl,?_⟩|refine ⟨trivial,?_⟩|refine ⟨⟨rfl,Nat.le_of_ble_eq_true rfl⟩,?_⟩|refine ⟨⟨by kernel_rfl,by kernel_rfl⟩,?_⟩|refine ⟨by decide,?_⟩|refine lit_true ?_|refine lit_false ?_))
      (refine aw_draw 8 ?_ ?_ ?_ ?_; (· kernel_rfl); (· kernel_rfl); (· kernel_rfl))
      (repeat ((conv=>whnf);first|refine ω0 ?_|refine ω1 ?_|refine ω2 ?_|refine ω3 ?_|refine ω4 rfl ?_|refine ω5 rfl ?_|refine ω6 ?_|refine ω7 ?_|refine ω8 ?_|refine ⟨rfl,?_⟩|refine ⟨trivial,?_⟩|refine ⟨⟨rfl,Nat.le_of_ble_eq_true rfl⟩,?_⟩|refine ⟨⟨by kernel_rfl,by kernel_rfl⟩,?_⟩|refine ⟨by decide,?_⟩|refine lit_true ?_|refine lit_false ?_))
      refine ⟨⟨by first | omega | (dsimp only; omega), by first | omega | (dsimp only; omega)⟩, ?_⟩
      (repeat ((conv=>whnf);first|refine ω0 ?_|refine ω1 ?_|refine ω2 ?_|refine ω3 ?_|refine ω4 rfl ?_|refine ω5 rfl ?_|refine ω6 ?_|refine ω7 ?_|refine ω8 ?_|refine ⟨rfl,?_⟩|refine ⟨trivial,?_⟩|refine ⟨⟨rfl,Nat.le_of_ble_eq_true rfl⟩,?_⟩|refine ⟨⟨by kernel_rfl,by kernel_rfl⟩,?_⟩|refine ⟨by decide,?_⟩|refine lit_true ?_|refine lit_false ?_))
      have hv : bitsI .or .u64 (IntKind.u64.wrap ((accB b pre : Nat) * 2 ^ 8)) (IntKind.u64.wrap (b.getD x 0 : Nat)) = ((accB b (pre ++ [x]) : Nat) : Int) := by rw [accB_snoc]; exact shl_or hacc (hb.get x)
      exact ⟨accB b (pre ++ [x]), .inl ⟨rfl, rfl⟩, congrArg (fun v : Int => _ :: _ :: ((1, nx1), Own.c [u64 v]) :: _) hv, rfl⟩
    · intro s' nx3 nn3 hs
      subst hs
      (repeat ((conv=>whnf);first|refine ω0 ?_|refine ω1 ?_|refine ω2 ?_|refine ω3 ?_|refine ω4 rfl ?_|refine ω5 rfl ?_|refine ω6 ?_|refine ω7 ?_|refine ω8 ?_|refine ⟨rfl,?_⟩|refine ⟨trivial,?_⟩|refine ⟨⟨rfl,Nat.le_of_ble_eq_true rfl⟩,?_⟩|refine ⟨⟨by kernel_rfl,by kernel_rfl⟩,?_⟩|refine ⟨by decide,?_⟩|refine lit_true ?_|refine lit_false ?_))
      have hv : (if thereI b.length (n : Int) w = 0 then accB b (placesI (Int.toNat (n : Int)) w big) else 0) = accB b (placesI n w big) := if_pos hz
      refine ret_tells (r := AV.tup [u64 (accB b (placesI n w big) : Nat), int (0 : Nat)]) rfl (AVle.of_eq ?_)
      rw [hv, hz]
  · have g1 := bne_yes g1
    (repeat ((conv=>whnf);first|refine ω0 ?_|refine ω1 ?_|refine ω2 ?_|refine ω3 ?_|refine ω4 rfl ?_|refine ω5 rfl ?_|refine ω6 ?_|refine ω7 ?_|refine ω8 ?_|refine ⟨rfl,?_⟩|refine ⟨trivial,?_⟩|refine ⟨⟨rfl,Nat.le_of_ble_eq_true rfl⟩,?_⟩|refine ⟨⟨by kernel_rfl,by kernel_rfl⟩,?_⟩|refine ⟨by decide,?_⟩|refine lit_true ?_|refine lit_false ?_))
    refine ret_tells rfl (AVle.of_eq ?_)
    rw [if_neg (by omega)]
    rfl
end Go.Proofs.W
