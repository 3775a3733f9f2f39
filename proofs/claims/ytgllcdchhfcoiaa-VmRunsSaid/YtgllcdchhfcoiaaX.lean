import Derived.Test.YtgllcdchhfcoiaaE
import Derived.Test.YtgllcdchhfcoiaaD
set_option linter.unusedVariables false
set_option linter.unusedSimpArgs false
namespace Go.Proofs.W
open Go.Vl

/-- A test, a path. -/
structure Tst where
  at' : Nat
  mask : Nat
  kind : Nat
  k : Nat
  is : Bool
def tst0 : Tst := ⟨0, 0, 0, 0, false⟩
structure Pth where
  tests : List Tst
  steps : Nat
  value : Nat
def pth0 : Pth := ⟨[], 0, 0⟩
def nextP (l : List Ins) (n : Nat) : Int × Int :=
  if kind l n = 14 then (-1, -1) else if kind l n = 13 then ((n + 1 + (l.getD n ins0).k : Nat), -1) else if 25 ≤ kind l n then ((n + 1 + (l.getD n ins0).jt : Nat), (n + 1 + (l.getD n ins0).jf : Nat)) else ((n + 1 : Nat), -1)
def asks (l : List Ins) (n : Nat) : Prop := kind l n = 21 ∨ 25 ≤ kind l n
instance (l : List Ins) (n : Nat) : Decidable (asks l n) := by unfold asks; infer_instance
/-- To which a way leads on which nothing was loaded (of the first n looked at). -/
def bareN (l : List Ins) : Nat → List Bool
  | 0 => setT (List.replicate l.length false) 0
  | n + 1 => if (bareN l n).getD n false = true ∧ kind l n = 13 then setT (bareN l n) (n + 1 + (l.getD n ins0).k) else bareN l n
def okP (l : List Ins) (n : Nat) : Prop := (asks l n ∨ kind l n = 1 ∨ kind l n = 13 ∨ kind l n = 14) ∧ (kof (l.getD n ins0).code).2 = false ∧ ¬ (asks l n ∧ (bareN l n).getD n false = true)
instance (l : List Ins) (n : Nat) : Decidable (okP l n) := by unfold okP; infer_instance
def Plain (l : List Ins) : Prop := (checkI l).2 = 0 ∧ ∀ n, n < l.length → okP l n
def plainB (l : List Ins) : Bool := decide ((checkI l).2 = 0) && (List.range l.length).all fun n => decide (okP l n)
theorem plainB_iff {l : List Ins} : plainB l = true ↔ Plain l := by
  unfold plainB Plain
  simp [List.all_eq_true]
theorem bareN_length (l : List Ins) : ∀ n, (bareN l n).length = l.length
  | 0 => by simp [bareN, setT_length]
  | n + 1 => by
    unfold bareN
    split
    · rw [setT_length, bareN_length l n]
    · exact bareN_length l n
theorem plainB_no {l : List Ins} {n : Nat} (hn : n < l.length) (h : ¬ okP l n) : plainB l = false := by
  cases hb : plainB l with
  | false => rfl
  | true => exact absurd ((plainB_iff.1 hb).2 n hn) h
theorem plainB_chk {l : List Ins} (h : (checkI l).2 ≠ 0) : plainB l = false := by
  cases hb : plainB l with
  | false => rfl
  | true => exact absurd (plainB_iff.1 hb).1 h
theorem plainB_yes {l : List Ins} (h : (checkI l).2 = 0) (hk : ∀ n, n < l.length → okP l n) : plainB l = true := plainB_iff.2 ⟨h, hk⟩

/-- All paths from an instruction on. -/
def pathsF (l : List Ins) : Nat → Nat → Nat → Nat → List Tst → Nat → List Pth
  | 0, _, _, _, _, _ => []
  | f + 1, n, at', mask, tests, steps =>
    if kind l n = 14 then [⟨tests, steps + 1, (l.getD n ins0).k⟩]
    else if kind l n = 1 then pathsF l f (n + 1) (l.getD n ins0).k 4294967295 tests (steps + 1)
    else if kind l n = 21 then pathsF l f (n + 1) at' (mask &&& (l.getD n ins0).k) tests (steps + 1)
    else if 25 ≤ kind l n then
      pathsF l f (n + 1 + (l.getD n ins0).jt) at' mask (tests ++ [⟨at', mask, kind l n, (l.getD n ins0).k, true⟩]) (steps + 1) ++
      pathsF l f (n + 1 + (l.getD n ins0).jf) at' mask (tests ++ [⟨at', mask, kind l n, (l.getD n ins0).k, false⟩]) (steps + 1)
    else pathsF l f (n + 1 + (l.getD n ins0).k) at' mask tests (steps + 1)
def pathsI (l : List Ins) : List Pth := pathsF l l.length 0 0 0 [] 0

theorem Plain.formed {l : List Ins} (h : Plain l) : Formed l := (check_iff.1 h.1).1
theorem Plain.kinds {l : List Ins} (h : Plain l) {n : Nat} (hn : n < l.length) : kind l n = 1 ∨ kind l n = 13 ∨ kind l n = 14 ∨ kind l n = 21 ∨ 25 ≤ kind l n := by
  rcases (h.2 n hn).1 with (h | h) | h | h | h <;> omega
/-- How many paths there are from an instruction on. -/
def cntF (l : List Ins) : Nat → Nat → Nat
  | 0, _ => 0
  | f + 1, n => if kind l n = 14 then 1 else if kind l n = 1 ∨ kind l n = 21 then cntF l f (n + 1) else if 25 ≤ kind l n then cntF l f (n + 1 + (l.getD n ins0).jt) + cntF l f (n + 1 + (l.getD n ins0).jf) else cntF l f (n + 1 + (l.getD n ins0).k)
theorem pathsF_length (l : List Ins) : ∀ f n a m ts s, (pathsF l f n a m ts s).length = cntF l f n
  | 0, _, _, _, _, _ => rfl
  | f + 1, n, a, m, ts, s => by
    unfold pathsF cntF
    by_cases h1 : kind l n = 14
    · rw [if_pos h1, if_pos h1]; rfl
    rw [if_neg h1, if_neg h1]
    by_cases h2 : kind l n = 1
    · rw [if_pos h2, if_pos (.inl h2), pathsF_length]
    rw [if_neg h2]
    by_cases h3 : kind l n = 21
    · rw [if_pos h3, if_pos (.inr h3), pathsF_length]
    rw [if_neg h3, if_neg (show ¬ (kind l n = 1 ∨ kind l n = 21) by omega)]
    by_cases h4 : 25 ≤ kind l n
    · rw [if_pos h4, if_pos h4, List.length_append, pathsF_length, pathsF_length]
    rw [if_neg h4, if_neg h4, pathsF_length]
theorem formed_nexts {l : List Ins} (hf : Formed l) {n : Nat} (hn : n < l.length) :
    (kind l n = 13 → n + 1 + (l.getD n ins0).k < l.length) ∧ (25 ≤ kind l n → n + 1 + (l.getD n ins0).jt < l.length ∧ n + 1 + (l.getD n ins0).jf < l.length) ∧ (kind l n ≠ 14 → kind l n ≠ 15 → kind l n ≠ 13 → ¬ 25 ≤ kind l n → n + 1 < l.length) := by
  have h := nexts_lt hf hn
  unfold nextsI at h
  refine ⟨fun hk => ?_, fun hk => ?_, fun h1 h2 h3 h4 => ?_⟩
  · rw [if_neg (by omega), if_pos hk] at h
    exact (h _ (by simp)).2
  · rw [if_neg (by omega), if_neg (by omega), if_pos hk] at h
    exact ⟨(h _ (by simp)).2, (h (n + 1 + (l.getD n ins0).jf) (by simp)).2⟩
  · rw [if_neg (by omega), if_neg h3, if_neg h4] at h
    exact (h _ (by simp)).2
/-- More time changes nothing. -/
theorem cntF_more {l : List Ins} (hp : Plain l) : ∀ f g n, n < l.length → l.length ≤ n + f → f ≤ g → cntF l g n = cntF l f n
  | 0, g, n, hn, hl, _ => by omega
  | f + 1, 0, n, hn, hl, hg => by omega
  | f + 1, g + 1, n, hn, hl, hg => by
    have hk := hp.kinds hn
    obtain ⟨q1, q2, q3⟩ := formed_nexts hp.formed hn
    unfold cntF
    split
    · rfl
    · split
      · exact cntF_more hp f g _ (q3 (by omega) (by omega) (by omega) (by omega)) (by omega) (by omega)
      · split
        · rename_i h
          obtain ⟨r1, r2⟩ := q2 h
          rw [cntF_more hp f g _ r1 (by omega) (by omega), cntF_more hp f g _ r2 (by omega) (by omega)]
        · exact cntF_more hp f g _ (q1 (by omega)) (by omega) (by omega)
end Go.Proofs.W

namespace Go.Proofs.W
open Go.Vl
set_option maxRecDepth 100000

theorem ix1 {c i : Nat} (h : c = 1) : 0 + Int.toNat ((i : Nat) : Int) * c = i := by subst h; omega
def bareA (l : List Ins) (i : Nat) : List Bool := bareN l i ++ [false]
theorem bareA_length (l : List Ins) (i : Nat) : (bareA l i).length = l.length + 1 := by simp [bareA, bareN_length]
theorem bareA_get {l : List Ins} {i n : Nat} (h : n < l.length) : (bareA l i).getD n false = (bareN l i).getD n false := by
  simp [bareA, List.getD, List.getElem?_append_left, bareN_length, h]
theorem nextP_spec (l : List Ins) (hok : okL l) (hf : Formed l) (n : Nat) (hn : n < l.length) : Tells Try.prog 57 [inss l, int n] (.tup [int (nextP l n).1, int (nextP l n).2]) := by
  have hle := hf.le
  have hki : (l.getD n ins0).ok := hok.get hn
  obtain ⟨q1, q2, q3⟩ := formed_nexts hf hn
  refine tells_of_aw Try.func57 rfl rfl fun nx => ?_
  (repeat ((conv=>whnf);first|refine ω0 ?_|refine ω1 ?_|refine ω2 ?_|refine ω3 ?_|refine ω4 rfl ?_|refine ω5 rfl ?_|refine ω6 ?_|refine ω7 ?_|refine ω8 ?_|refine ⟨rfl,?_⟩|refine ⟨trivial,?_⟩|refine ⟨⟨rfl,Nat.le_of_ble_eq_true rfl⟩,?_⟩|refine ⟨⟨by kernel_rfl,by kernel_rfl⟩,?_⟩|refine ⟨by decide,?_⟩|refine lit_true ?_|refine lit_false ?_))
  refine ⟨⟨by first | omega | (dsimp only; omega), by first | omega | (dsimp only; omega)⟩, ?_⟩
  (repeat ((conv=>whnf);first|refine ω0 ?_|refine ω1 ?_|refine ω2 ?_|refine ω3 ?_|refine ω4 rfl ?_|refine ω5 rfl ?_|refine ω6 ?_|refine ω7 ?_|refine ω8 ?_|refine ⟨rfl,?_⟩|refine ⟨trivial,?_⟩|refine ⟨⟨rfl,Nat.le_of_ble_eq_true rfl⟩,?_⟩|refine ⟨⟨by kernel_rfl,by kernel_rfl⟩,?_⟩|refine ⟨by decide,?_⟩|refine lit_true ?_|refine lit_false ?_))
  refine aop_tells rfl rfl (of_kind (l.getD n ins0).code hki.1) ⟨AVle.refl _, trivial⟩ fun nx3 => ?_
  (repeat ((conv=>whnf);first|refine ω0 ?_|refine ω1 ?_|refine ω2 ?_|refine ω3 ?_|refine ω4 rfl ?_|refine ω5 rfl ?_|refine ω6 ?_|refine ω7 ?_|refine ω8 ?_|refine ⟨rfl,?_⟩|refine ⟨trivial,?_⟩|refine ⟨⟨rfl,Nat.le_of_ble_eq_true rfl⟩,?_⟩|refine ⟨⟨by kernel_rfl,by kernel_rfl⟩,?_⟩|refine ⟨by decide,?_⟩|refine lit_true ?_|refine lit_false ?_))
  intro c a1; cases c
  · have a1 := fct_b0.1 a1
    (repeat ((conv=>whnf);first|refine ω0 ?_|refine ω1 ?_|refine ω2 ?_|refine ω3 ?_|refine ω4 rfl ?_|refine ω5 rfl ?_|refine ω6 ?_|refine ω7 ?_|refine ω8 ?_|refine ⟨rfl,?_⟩|refine ⟨trivial,?_⟩|refine ⟨⟨rfl,Nat.le_of_ble_eq_true rfl⟩,?_⟩|refine ⟨⟨by kernel_rfl,by kernel_rfl⟩,?_⟩|refine ⟨by decide,?_⟩|refine lit_true ?_|refine lit_false ?_))
    intro c a2; cases c
    · have a2 := fct_b0.1 a2
      (repeat ((conv=>whnf);first|refine ω0 ?_|refine ω1 ?_|refine ω2 ?_|refine ω3 ?_|refine ω4 rfl ?_|refine ω5 rfl ?_|refine ω6 ?_|refine ω7 ?_|refine ω8 ?_|refine ⟨rfl,?_⟩|refine ⟨trivial,?_⟩|refine ⟨⟨rfl,Nat.le_of_ble_eq_true rfl⟩,?_⟩|refine ⟨⟨by kernel_rfl,by kernel_rfl⟩,?_⟩|refine ⟨by decide,?_⟩|refine lit_true ?_|refine lit_false ?_))
      intro c a3; cases c
      · have a3 := not_of a3
        have hv : nextP l n = (((n + 1 : Nat) : Int), -1) := by unfold nextP kind; rw [if_neg (by omega), if_neg (by omega), if_neg (by omega)]
        (repeat ((conv=>whnf);first|refine ω0 ?_|refine ω1 ?_|refine ω2 ?_|refine ω3 ?_|refine ω4 rfl ?_|refine ω5 rfl ?_|refine ω6 ?_|refine ω7 ?_|refine ω8 ?_|refine ⟨rfl,?_⟩|refine ⟨trivial,?_⟩|refine ⟨⟨rfl,Nat.le_of_ble_eq_true rfl⟩,?_⟩|refine ⟨⟨by kernel_rfl,by kernel_rfl⟩,?_⟩|refine ⟨by decide,?_⟩|refine lit_true ?_|refine lit_false ?_))
        refine ret_tells rfl (AVle.tups (cs := [_, _]) ⟨le_int ?_, le_int ?_, trivial⟩) <;> rw [hv]
        exact wrap_succ (by omega)
      · have a3 := yes_of a3
        have hv : nextP l n = (((n + 1 + (l.getD n ins0).jt : Nat) : Int), ((n + 1 + (l.getD n ins0).jf : Nat) : Int)) := by unfold nextP kind; rw [if_neg (by omega), if_neg (by omega), if_pos (by omega)]
        obtain ⟨r1, r2⟩ := q2 (by unfold kind; omega)
        (repeat ((conv=>whnf);first|refine ω0 ?_|refine ω1 ?_|refine ω2 ?_|refine ω3 ?_|refine ω4 rfl ?_|refine ω5 rfl ?_|refine ω6 ?_|refine ω7 ?_|refine ω8 ?_|refine ⟨rfl,?_⟩|refine ⟨trivial,?_⟩|refine ⟨⟨rfl,Nat.le_of_ble_eq_true rfl⟩,?_⟩|refine ⟨⟨by kernel_rfl,by kernel_rfl⟩,?_⟩|refine ⟨by decide,?_⟩|refine lit_true ?_|refine lit_false ?_))
        (refine aw_draw 14 ?_ ?_ ?_ ?_; (· kernel_rfl); (· kernel_rfl); (· kernel_rfl))
        (repeat ((conv=>whnf);first|refine ω0 ?_|refine ω1 ?_|refine ω2 ?_|refine ω3 ?_|refine ω4 rfl ?_|refine ω5 rfl ?_|refine ω6 ?_|refine ω7 ?_|refine ω8 ?_|refine ⟨rfl,?_⟩|refine ⟨trivial,?_⟩|refine ⟨⟨rfl,Nat.le_of_ble_eq_true rfl⟩,?_⟩|refine ⟨⟨by kernel_rfl,by kernel_rfl⟩,?_⟩|refine ⟨by decide,?_⟩|refine lit_true ?_|refine lit_false ?_))
        refine ret_tells rfl (AVle.tups (cs := [_, _]) ⟨le_int ?_, le_int ?_, trivial⟩) <;> rw [hv]
        · exact wrap_two (n := n) (k := (l.getD n ins0).jt) (by omega)
        · exact wrap_two (n := n) (k := (l.getD n ins0).jf) (by omega)
    · have a2 := fct_b1.1 a2
      have hv : nextP l n = (((n + 1 + (l.getD n ins0).k : Nat) : Int), -1) := by unfold nextP kind; rw [if_neg (by omega), if_pos (by omega)]
      have r1 := q1 (by unfold kind; omega)
      (repeat ((conv=>whnf);first|refine ω0 ?_|refine ω1 ?_|refine ω2 ?_|refine ω3 ?_|refine ω4 rfl ?_|refine ω5 rfl ?_|refine ω6 ?_|refine ω7 ?_|refine ω8 ?_|refine ⟨rfl,?_⟩|refine ⟨trivial,?_⟩|refine ⟨⟨rfl,Nat.le_of_ble_eq_true rfl⟩,?_⟩|refine ⟨⟨by kernel_rfl,by kernel_rfl⟩,?_⟩|refine ⟨by decide,?_⟩|refine lit_true ?_|refine lit_false ?_))
      refine ret_tells rfl (AVle.tups (cs := [_, _]) ⟨le_int ?_, le_int ?_, trivial⟩) <;> rw [hv]
      exact wrap_two (n := n) (k := (l.getD n ins0).k) (by omega)
  · have a1 := fct_b1.1 a1
    have hv : nextP l n = (-1, -1) := by unfold nextP kind; rw [if_pos (by omega)]
    (repeat ((conv=>whnf);first|refine ω0 ?_|refine ω1 ?_|refine ω2 ?_|refine ω3 ?_|refine ω4 rfl ?_|refine ω5 rfl ?_|refine ω6 ?_|refine ω7 ?_|refine ω8 ?_|refine ⟨rfl,?_⟩|refine ⟨trivial,?_⟩|refine ⟨⟨rfl,Nat.le_of_ble_eq_true rfl⟩,?_⟩|refine ⟨⟨by kernel_rfl,by kernel_rfl⟩,?_⟩|refine ⟨by decide,?_⟩|refine lit_true ?_|refine lit_false ?_))
    refine ret_tells rfl (AVle.tups (cs := [_, _]) ⟨le_int ?_, le_int ?_, trivial⟩) <;> rw [hv]
theorem plain_spec (l : List Ins) (hok : okL l) (hl : l.length ≤ 1000000000) : Tells Try.prog 25 [inss l] (boolA (plainB l)) := by
  refine tells_of_aw Try.func25 rfl rfl fun nx => ?_
  (repeat ((conv=>whnf);first|refine ω0 ?_|refine ω1 ?_|refine ω2 ?_|refine ω3 ?_|refine ω4 rfl ?_|refine ω5 rfl ?_|refine ω6 ?_|refine ω7 ?_|refine ω8 ?_|refine ⟨rfl,?_⟩|refine ⟨trivial,?_⟩|refine ⟨⟨rfl,Nat.le_of_ble_eq_true rfl⟩,?_⟩|refine ⟨⟨by kernel_rfl,by kernel_rfl⟩,?_⟩|refine ⟨by decide,?_⟩|refine lit_true ?_|refine lit_false ?_))
  refine aop_tells rfl rfl (check_spec l hok hl) ⟨AVle.refl _, trivial⟩ fun nx => ?_
  (repeat ((conv=>whnf);first|refine ω0 ?_|refine ω1 ?_|refine ω2 ?_|refine ω3 ?_|refine ω4 rfl ?_|refine ω5 rfl ?_|refine ω6 ?_|refine ω7 ?_|refine ω8 ?_|refine ⟨rfl,?_⟩|refine ⟨trivial,?_⟩|refine ⟨⟨rfl,Nat.le_of_ble_eq_true rfl⟩,?_⟩|refine ⟨⟨by kernel_rfl,by kernel_rfl⟩,?_⟩|refine ⟨by decide,?_⟩|refine lit_true ?_|refine lit_false ?_))
  intro c g1; cases c
  rotate_left
  · have g1 := bne_yes g1
    (repeat ((conv=>whnf);first|refine ω0 ?_|refine ω1 ?_|refine ω2 ?_|refine ω3 ?_|refine ω4 rfl ?_|refine ω5 rfl ?_|refine ω6 ?_|refine ω7 ?_|refine ω8 ?_|refine ⟨rfl,?_⟩|refine ⟨trivial,?_⟩|refine ⟨⟨rfl,Nat.le_of_ble_eq_true rfl⟩,?_⟩|refine ⟨⟨by kernel_rfl,by kernel_rfl⟩,?_⟩|refine ⟨by decide,?_⟩|refine lit_true ?_|refine lit_false ?_))
    refine ret_tells rfl (le_bool ?_)
    rw [plainB_chk (by omega)]
  have g1 := bne_no g1
  have hc : (checkI l).2 = 0 := by omega
  have hf : Formed l := check_formed hc
  have hle := hf.le
  have hpos := hf.pos
  have hw1 : IntKind.i64.wrap ((l.length : Int) + 1) = ((l.length + 1 : Nat) : Int) := wrap_succ (by omega)
  (repeat ((conv=>whnf);first|refine ω0 ?_|refine ω1 ?_|refine ω2 ?_|refine ω3 ?_|refine ω4 rfl ?_|refine ω5 rfl ?_|refine ω6 ?_|refine ω7 ?_|refine ω8 ?_|refine ⟨rfl,?_⟩|refine ⟨trivial,?_⟩|refine ⟨⟨rfl,Nat.le_of_ble_eq_true rfl⟩,?_⟩|refine ⟨⟨by kernel_rfl,by kernel_rfl⟩,?_⟩|refine ⟨by decide,?_⟩|refine lit_true ?_|refine lit_false ?_))
  (conv => whnf)
  rw [hw1]
  refine ⟨by omega, by omega, by show ((1 : Nat) : Int) * _ ≤ _; omega, by omega, ?_⟩
  (repeat ((conv=>whnf);first|refine ω0 ?_|refine ω2 ?_|refine ω3 ?_|refine ω4 rfl ?_|refine ω5 rfl ?_|refine ω6 ?_|refine ω7 ?_|refine ω8 ?_|refine ⟨rfl,?_⟩|refine ⟨trivial,?_⟩|refine ⟨⟨rfl,Nat.le_of_ble_eq_true rfl⟩,?_⟩|refine ⟨⟨by kernel_rfl,by kernel_rfl⟩,?_⟩|refine ⟨by decide,?_⟩|refine lit_true ?_|refine lit_false ?_))
  refine AW.le (E' := mk 96 [(0, inss l), (5, .hs (0, nx) 0 (l.length + 1) (l.length + 1))] ⟨[((0, nx), .c ((List.replicate (l.length + 1) false).map boolA))], [], nx + 1, 1⟩) (by
    refine ele_tell _ _ rfl rfl (List.Sublist.refl _) .slnil ⟨rfl, OwnLe.of_eq ?_, trivial⟩ trivial ⟨AVle.refl _, AVle.refl _, trivial⟩
    rw [List.map_replicate]; rfl) ?_
  (repeat ((conv=>whnf);first|refine ω0 ?_|refine ω1 ?_|refine ω2 ?_|refine ω3 ?_|refine ω4 rfl ?_|refine ω5 rfl ?_|refine ω6 ?_|refine ω7 ?_|refine ω8 ?_|refine ⟨rfl,?_⟩|refine ⟨trivial,?_⟩|refine ⟨⟨rfl,Nat.le_of_ble_eq_true rfl⟩,?_⟩|refine ⟨⟨by kernel_rfl,by kernel_rfl⟩,?_⟩|refine ⟨by decide,?_⟩|refine lit_true ?_|refine lit_false ?_))
  (refine ⟨⟨by first | omega | (dsimp only; omega), by first | omega | (dsimp only; omega)⟩, splitO_eq (b := .bp (0, nx) (0)) (congrArg (AV.bp (0, nx)) (ix1 c4)) ?_⟩; (conv => whnf); refine ⟨⟨rfl, (by first | omega | (simp only [List.length_map, List.length_set, List.length_cons, List.length_nil, List.length_replicate, List.length_append]; omega))⟩, ?_⟩; rw [show splice ((List.replicate (l.length + 1) false).map boolA) (0) [AV.v (.bool true)] = ((List.replicate (l.length + 1) false).set (0) (true)).map boolA from splice_one (f := boolA) (x := true) (by first | omega | (simp only [List.length_map, List.length_set, List.length_cons, List.length_nil, List.length_replicate, List.length_append]; omega))])
  (repeat ((conv=>whnf);first|refine ω0 ?_|refine ω1 ?_|refine ω2 ?_|refine ω3 ?_|refine ω4 rfl ?_|refine ω5 rfl ?_|refine ω6 ?_|refine ω7 ?_|refine ω8 ?_|refine ⟨rfl,?_⟩|refine ⟨trivial,?_⟩|refine ⟨⟨rfl,Nat.le_of_ble_eq_true rfl⟩,?_⟩|refine ⟨⟨by kernel_rfl,by kernel_rfl⟩,?_⟩|refine ⟨by decide,?_⟩|refine lit_true ?_|refine lit_false ?_))
  refine aw_loop (fun s : Nat × Nat => mk 96 [(0, inss l), (5, .hs (0, nx) 0 (l.length + 1) (l.length + 1)), (28, inss l), (29, int l.length), (30, int s.1)] ⟨[((0, nx), .c ((bareA l s.1).map boolA))], [], s.2, 1⟩) (fun s => s.1 ≤ l.length ∧ ∀ j, j < s.1 → okP l j) (fun s => l.length - s.1) ?_ ?_
  · refine ⟨(0, nx + 1), ⟨by dsimp only; omega, by intro j hj; omega⟩, ele_tell _ _ rfl rfl (List.Sublist.refl _) .slnil ⟨rfl, OwnLe.of_eq ?_, trivial⟩ trivial ⟨AVle.refl _, AVle.refl _, AVle.refl _, AVle.refl _, AVle.refl _, trivial⟩⟩
    have : bareA l 0 = (List.replicate (l.length + 1) false).set 0 true := by
      unfold bareA bareN setT
      obtain ⟨m, hm⟩ : ∃ m, l.length = m + 1 := ⟨l.length - 1, by omega⟩
      rw [hm]
      simp [List.replicate_succ]
      rw [← List.replicate_succ', List.replicate_succ]
    dsimp only
    rw [this]
  · rintro ⟨i, nx'⟩ ⟨h1, h2⟩
    dsimp only at h1 h2
    have hlen := bareA_length l i
    (repeat ((conv=>whnf);first|refine ω0 ?_|refine ω1 ?_|refine ω2 ?_|refine ω3 ?_|refine ω4 rfl ?_|refine ω5 rfl ?_|refine ω6 ?_|refine ω7 ?_|refine ω8 ?_|refine ⟨rfl,?_⟩|refine ⟨trivial,?_⟩|refine ⟨⟨rfl,Nat.le_of_ble_eq_true rfl⟩,?_⟩|refine ⟨⟨by kernel_rfl,by kernel_rfl⟩,?_⟩|refine ⟨by decide,?_⟩|refine lit_true ?_|refine lit_false ?_))
    intro c g2; cases c
    · have g2 := not_of g2
      dsimp only at g2
      (repeat ((conv=>whnf);first|refine ω0 ?_|refine ω1 ?_|refine ω2 ?_|refine ω3 ?_|refine ω4 rfl ?_|refine ω5 rfl ?_|refine ω6 ?_|refine ω7 ?_|refine ω8 ?_|refine ⟨rfl,?_⟩|refine ⟨trivial,?_⟩|refine ⟨⟨rfl,Nat.le_of_ble_eq_true rfl⟩,?_⟩|refine ⟨⟨by kernel_rfl,by kernel_rfl⟩,?_⟩|refine ⟨by decide,?_⟩|refine lit_true ?_|refine lit_false ?_))
      refine ret_tells rfl (le_bool ?_)
      rw [plainB_yes hc fun n hn => h2 n (by omega)]
    · have g2 := yes_of g2
      dsimp only at g2
      have hi : i < l.length := by omega
      have hki : (l.getD i ins0).ok := hok.get hi
      have hget := bareA_get (i := i) hi
      (repeat ((conv=>whnf);first|refine ω0 ?_|refine ω1 ?_|refine ω2 ?_|refine ω3 ?_|refine ω4 rfl ?_|refine ω5 rfl ?_|refine ω6 ?_|refine ω7 ?_|refine ω8 ?_|refine ⟨rfl,?_⟩|refine ⟨trivial,?_⟩|refine ⟨⟨rfl,Nat.le_of_ble_eq_true rfl⟩,?_⟩|refine ⟨⟨by kernel_rfl,by kernel_rfl⟩,?_⟩|refine ⟨by decide,?_⟩|refine lit_true ?_|refine lit_false ?_))
      refine ⟨⟨by first | omega | (dsimp only; omega), by first | omega | (dsimp only; omega)⟩, ?_⟩
      (repeat ((conv=>whnf);first|refine ω0 ?_|refine ω1 ?_|refine ω2 ?_|refine ω3 ?_|refine ω4 rfl ?_|refine ω5 rfl ?_|refine ω6 ?_|refine ω7 ?_|refine ω8 ?_|refine ⟨rfl,?_⟩|refine ⟨trivial,?_⟩|refine ⟨⟨rfl,Nat.le_of_ble_eq_true rfl⟩,?_⟩|refine ⟨⟨by kernel_rfl,by kernel_rfl⟩,?_⟩|refine ⟨by decide,?_⟩|refine lit_true ?_|refine lit_false ?_))
      refine aop_tells rfl rfl (of_both (l.getD i ins0).code hki.1) ⟨AVle.refl _, trivial⟩ fun nx3 => ?_
      have hA : asks l i ↔ ((kof (l.getD i ins0).code).1 = 21 ∨ 25 ≤ (kof (l.getD i ins0).code).1) := Iff.rfl
      have hK : kind l i = (kof (l.getD i ins0).code).1 := rfl
      have hno : (¬ (asks l i ∨ kind l i = 1 ∨ kind l i = 13 ∨ kind l i = 14)) ∨ (kof (l.getD i ins0).code).2 = true ∨ (asks l i ∧ (bareA l i).getD i false = true) → plainB l = false := by
        intro h
        refine plainB_no hi fun ⟨r1, r2, r3⟩ => ?_
        rcases h with h | h | h
        · exact h r1
        · rw [h] at r2; cases r2
        · rw [hget] at h; exact r3 h
      have hyes : (asks l i ∨ kind l i = 1 ∨ kind l i = 13 ∨ kind l i = 14) → (kof (l.getD i ins0).code).2 = false → ¬ (asks l i ∧ (bareA l i).getD i false = true) → okP l i := fun r1 r2 r3 => ⟨r1, r2, by rw [← hget]; exact r3⟩
      have hall : okP l i → ∀ j, j < i + 1 → okP l j := fun h j hj => by
        rcases Nat.lt_or_ge j i with h' | h'
        · exact h2 j h'
        · obtain rfl : j = i := by omega
          exact h
      have hsame : ¬ ((bareA l i).getD i false = true ∧ kind l i = 13) → bareA l (i + 1) = bareA l i := fun h => by
        rw [hget] at h
        unfold bareA; rw [bareN, if_neg h]
      have hset : (bareA l i).getD i false = true → kind l i = 13 → bareA l (i + 1) = (bareA l i).set (i + 1 + (l.getD i ins0).k) true := fun h h' => by
        rw [hget] at h
        have := (formed_nexts hf hi).1 h'
        unfold bareA; rw [bareN, if_pos ⟨h, h'⟩]
        unfold setT
        rw [List.set_append_left _ _ (by rw [bareN_length]; exact this)]
      (repeat' ((repeat ((conv=>whnf);first|refine ω0 ?_|refine ω1 ?_|refine ω2 ?_|refine ω3 ?_|refine ω4 rfl ?_|refine ω5 rfl ?_|refine ω6 ?_|refine ω7 ?_|refine ω8 ?_|refine ⟨rfl,?_⟩|refine ⟨trivial,?_⟩|refine ⟨⟨rfl,Nat.le_of_ble_eq_true rfl⟩,?_⟩|refine ⟨⟨by kernel_rfl,by kernel_rfl⟩,?_⟩|refine ⟨by decide,?_⟩|refine lit_true ?_|refine lit_false ?_)); intro c h; cases c))
      all_goals (repeat ((conv=>whnf);first|refine ω0 ?_|refine ω1 ?_|refine ω2 ?_|refine ω3 ?_|refine ω4 rfl ?_|refine ω5 rfl ?_|refine ω6 ?_|refine ω7 ?_|refine ω8 ?_|refine ⟨rfl,?_⟩|refine ⟨trivial,?_⟩|refine ⟨⟨rfl,Nat.le_of_ble_eq_true rfl⟩,?_⟩|refine ⟨⟨by kernel_rfl,by kernel_rfl⟩,?_⟩|refine ⟨by decide,?_⟩|refine lit_true ?_|refine lit_false ?_))
      · rename_i e1 e2 e3 e4 e5
        refine ret_tells rfl (le_bool ?_)
        rw [hno (.inl (by rw [hA, hK]; (try simp only [fct_b0, fct_b1, fct_d0, fct_d1, fct_n0, fct_n1] at *); omega))]
      · rename_i e1 e2 e3 e4 e5
        have e6 := fct_b1.1 h
        (refine ⟨⟨by first | omega | (dsimp only; omega), by first | omega | (dsimp only; omega)⟩, splitO_eq (b := .bp (0, nx) (i)) (congrArg (AV.bp (0, nx)) (ix1 c4)) ?_⟩; (conv => whnf); refine ⟨⟨rfl, (by first | omega | (simp only [List.length_map, List.length_set, List.length_cons, List.length_nil, List.length_replicate, List.length_append]; omega))⟩, splitO_eq (b := boolA ((bareA l i).getD (i) false)) (getD_map (by first | omega | (simp only [List.length_map, List.length_set, List.length_cons, List.length_nil, List.length_replicate, List.length_append]; omega))) ?_⟩)
        (repeat ((conv=>whnf);first|refine ω0 ?_|refine ω1 ?_|refine ω2 ?_|refine ω3 ?_|refine ω4 rfl ?_|refine ω5 rfl ?_|refine ω6 ?_|refine ω7 ?_|refine ω8 ?_|refine ⟨rfl,?_⟩|refine ⟨trivial,?_⟩|refine ⟨⟨rfl,Nat.le_of_ble_eq_true rfl⟩,?_⟩|refine ⟨⟨by kernel_rfl,by kernel_rfl⟩,?_⟩|refine ⟨by decide,?_⟩|refine lit_true ?_|refine lit_false ?_))
        intro b hb
        cases b
        · (repeat ((conv=>whnf);first|refine ω0 ?_|refine ω1 ?_|refine ω2 ?_|refine ω3 ?_|refine ω4 rfl ?_|refine ω5 rfl ?_|refine ω6 ?_|refine ω7 ?_|refine ω8 ?_|refine ⟨rfl,?_⟩|refine ⟨trivial,?_⟩|refine ⟨⟨rfl,Nat.le_of_ble_eq_true rfl⟩,?_⟩|refine ⟨⟨by kernel_rfl,by kernel_rfl⟩,?_⟩|refine ⟨by decide,?_⟩|refine lit_true ?_|refine lit_false ?_))
          refine back (i + 1, _) ⟨by dsimp only; omega, fun j hj => hall ?_ j hj⟩ (by dsimp only; omega) (ele_tell _ _ rfl rfl (.cons _ (.cons_cons _ .slnil)) .slnil ⟨rfl, OwnLe.of_eq ?_, trivial⟩ trivial ⟨AVle.refl _, AVle.refl _, AVle.refl _, AVle.refl _, le_int (wrap_succ (by dsimp only; omega)), trivial⟩)
          · exact hyes (.inr (.inr (.inr (by rw [hK]; omega)))) e1.symm (by rw [hA]; omega)
          · dsimp only; rw [hsame (by rw [← hb]; simp)]
        · (repeat ((conv=>whnf);first|refine ω0 ?_|refine ω1 ?_|refine ω2 ?_|refine ω3 ?_|refine ω4 rfl ?_|refine ω5 rfl ?_|refine ω6 ?_|refine ω7 ?_|refine ω8 ?_|refine ⟨rfl,?_⟩|refine ⟨trivial,?_⟩|refine ⟨⟨rfl,Nat.le_of_ble_eq_true rfl⟩,?_⟩|refine ⟨⟨by kernel_rfl,by kernel_rfl⟩,?_⟩|refine ⟨by decide,?_⟩|refine lit_true ?_|refine lit_false ?_))
          intro d hd
          obtain rfl : d = false := hd.trans (beq_false_of_ne (by omega))
          (repeat ((conv=>whnf);first|refine ω0 ?_|refine ω1 ?_|refine ω2 ?_|refine ω3 ?_|refine ω4 rfl ?_|refine ω5 rfl ?_|refine ω6 ?_|refine ω7 ?_|refine ω8 ?_|refine ⟨rfl,?_⟩|refine ⟨trivial,?_⟩|refine ⟨⟨rfl,Nat.le_of_ble_eq_true rfl⟩,?_⟩|refine ⟨⟨by kernel_rfl,by kernel_rfl⟩,?_⟩|refine ⟨by decide,?_⟩|refine lit_true ?_|refine lit_false ?_))
          refine aop_tells rfl rfl (nextP_spec l hok hf i hi) ⟨AVle.refl _, AVle.refl _, trivial⟩ fun nx5 => ?_
          have hv : nextP l i = (-1, -1) := by unfold nextP; rw [hK, if_pos (by omega)]
          rw [hv]
          (repeat ((conv=>whnf);first|refine ω0 ?_|refine ω1 ?_|refine ω2 ?_|refine ω3 ?_|refine ω4 rfl ?_|refine ω5 rfl ?_|refine ω6 ?_|refine ω7 ?_|refine ω8 ?_|refine ⟨rfl,?_⟩|refine ⟨trivial,?_⟩|refine ⟨⟨rfl,Nat.le_of_ble_eq_true rfl⟩,?_⟩|refine ⟨⟨by kernel_rfl,by kernel_rfl⟩,?_⟩|refine ⟨by decide,?_⟩|refine lit_true ?_|refine lit_false ?_))
          refine back (i + 1, _) ⟨by dsimp only; omega, fun j hj => hall ?_ j hj⟩ (by dsimp only; omega) (ele_tell _ _ rfl rfl (.cons _ (.cons_cons _ .slnil)) .slnil ⟨rfl, OwnLe.of_eq ?_, trivial⟩ trivial ⟨AVle.refl _, AVle.refl _, AVle.refl _, AVle.refl _, le_int (wrap_succ (by dsimp only; omega)), trivial⟩)
          · exact hyes (.inr (.inr (.inr (by rw [hK]; omega)))) e1.symm (by rw [hA]; omega)
          · dsimp only; rw [hsame (by rw [hK]; omega)]
      · rename_i e1 e2 e3 e4
        have e5 := fct_b1.1 h
        (refine ⟨⟨by first | omega | (dsimp only; omega), by first | omega | (dsimp only; omega)⟩, splitO_eq (b := .bp (0, nx) (i)) (congrArg (AV.bp (0, nx)) (ix1 c4)) ?_⟩; (conv => whnf); refine ⟨⟨rfl, (by first | omega | (simp only [List.length_map, List.length_set, List.length_cons, List.length_nil, List.length_replicate, List.length_append]; omega))⟩, splitO_eq (b := boolA ((bareA l i).getD (i) false)) (getD_map (by first | omega | (simp only [List.length_map, List.length_set, List.length_cons, List.length_nil, List.length_replicate, List.length_append]; omega))) ?_⟩)
        (repeat ((conv=>whnf);first|refine ω0 ?_|refine ω1 ?_|refine ω2 ?_|refine ω3 ?_|refine ω4 rfl ?_|refine ω5 rfl ?_|refine ω6 ?_|refine ω7 ?_|refine ω8 ?_|refine ⟨rfl,?_⟩|refine ⟨trivial,?_⟩|refine ⟨⟨rfl,Nat.le_of_ble_eq_true rfl⟩,?_⟩|refine ⟨⟨by kernel_rfl,by kernel_rfl⟩,?_⟩|refine ⟨by decide,?_⟩|refine lit_true ?_|refine lit_false ?_))
        intro b hb
        cases b
        · (repeat ((conv=>whnf);first|refine ω0 ?_|refine ω1 ?_|refine ω2 ?_|refine ω3 ?_|refine ω4 rfl ?_|refine ω5 rfl ?_|refine ω6 ?_|refine ω7 ?_|refine ω8 ?_|refine ⟨rfl,?_⟩|refine ⟨trivial,?_⟩|refine ⟨⟨rfl,Nat.le_of_ble_eq_true rfl⟩,?_⟩|refine ⟨⟨by kernel_rfl,by kernel_rfl⟩,?_⟩|refine ⟨by decide,?_⟩|refine lit_true ?_|refine lit_false ?_))
          refine back (i + 1, _) ⟨by dsimp only; omega, fun j hj => hall ?_ j hj⟩ (by dsimp only; omega) (ele_tell _ _ rfl rfl (.cons _ (.cons_cons _ .slnil)) .slnil ⟨rfl, OwnLe.of_eq ?_, trivial⟩ trivial ⟨AVle.refl _, AVle.refl _, AVle.refl _, AVle.refl _, le_int (wrap_succ (by dsimp only; omega)), trivial⟩)
          · exact hyes (.inr (.inr (.inl (by rw [hK]; omega)))) e1.symm (by rw [hA]; omega)
          · dsimp only; rw [hsame (by rw [← hb]; simp)]
        · (repeat ((conv=>whnf);first|refine ω0 ?_|refine ω1 ?_|refine ω2 ?_|refine ω3 ?_|refine ω4 rfl ?_|refine ω5 rfl ?_|refine ω6 ?_|refine ω7 ?_|refine ω8 ?_|refine ⟨rfl,?_⟩|refine ⟨trivial,?_⟩|refine ⟨⟨rfl,Nat.le_of_ble_eq_true rfl⟩,?_⟩|refine ⟨⟨by kernel_rfl,by kernel_rfl⟩,?_⟩|refine ⟨by decide,?_⟩|refine lit_true ?_|refine lit_false ?_))
          intro d hd
          obtain rfl : d = false := hd.trans (beq_false_of_ne (by omega))
          (repeat ((conv=>whnf);first|refine ω0 ?_|refine ω1 ?_|refine ω2 ?_|refine ω3 ?_|refine ω4 rfl ?_|refine ω5 rfl ?_|refine ω6 ?_|refine ω7 ?_|refine ω8 ?_|refine ⟨rfl,?_⟩|refine ⟨trivial,?_⟩|refine ⟨⟨rfl,Nat.le_of_ble_eq_true rfl⟩,?_⟩|refine ⟨⟨by kernel_rfl,by kernel_rfl⟩,?_⟩|refine ⟨by decide,?_⟩|refine lit_true ?_|refine lit_false ?_))
          refine aop_tells rfl rfl (nextP_spec l hok hf i hi) ⟨AVle.refl _, AVle.refl _, trivial⟩ fun nx5 => ?_
          have hv : nextP l i = (((i + 1 + (l.getD i ins0).k : Nat) : Int), -1) := by unfold nextP; rw [hK, if_neg (by omega), if_pos (by omega)]
          have hlt := (formed_nexts hf hi).1 (by rw [hK]; omega)
          rw [hv]
          (repeat ((conv=>whnf);first|refine ω0 ?_|refine ω1 ?_|refine ω2 ?_|refine ω3 ?_|refine ω4 rfl ?_|refine ω5 rfl ?_|refine ω6 ?_|refine ω7 ?_|refine ω8 ?_|refine ⟨rfl,?_⟩|refine ⟨trivial,?_⟩|refine ⟨⟨rfl,Nat.le_of_ble_eq_true rfl⟩,?_⟩|refine ⟨⟨by kernel_rfl,by kernel_rfl⟩,?_⟩|refine ⟨by decide,?_⟩|refine lit_true ?_|refine lit_false ?_))
          (refine ⟨⟨by first | omega | (dsimp only; omega), by first | omega | (dsimp only; omega)⟩, splitO_eq (b := .bp (0, nx) (i + 1 + (l.getD i ins0).k)) (congrArg (AV.bp (0, nx)) (ix1 c4)) ?_⟩; (conv => whnf); refine ⟨⟨rfl, (by first | omega | (simp only [List.length_map, List.length_set, List.length_cons, List.length_nil, List.length_replicate, List.length_append]; omega))⟩, ?_⟩; rw [show splice ((bareA l i).map boolA) (i + 1 + (l.getD i ins0).k) [AV.v (.bool true)] = ((bareA l i).set (i + 1 + (l.getD i ins0).k) (true)).map boolA from splice_one (f := boolA) (x := true) (by first | omega | (simp only [List.length_map, List.length_set, List.length_cons, List.length_nil, List.length_replicate, List.length_append]; omega))])
          (repeat ((conv=>whnf);first|refine ω0 ?_|refine ω1 ?_|refine ω2 ?_|refine ω3 ?_|refine ω4 rfl ?_|refine ω5 rfl ?_|refine ω6 ?_|refine ω7 ?_|refine ω8 ?_|refine ⟨rfl,?_⟩|refine ⟨trivial,?_⟩|refine ⟨⟨rfl,Nat.le_of_ble_eq_true rfl⟩,?_⟩|refine ⟨⟨by kernel_rfl,by kernel_rfl⟩,?_⟩|refine ⟨by decide,?_⟩|refine lit_true ?_|refine lit_false ?_))
          refine back (i + 1, _) ⟨by dsimp only; omega, fun j hj => hall ?_ j hj⟩ (by dsimp only; omega) (ele_tell _ _ rfl rfl (.cons _ (.cons_cons _ .slnil)) .slnil ⟨rfl, OwnLe.of_eq ?_, trivial⟩ trivial ⟨AVle.refl _, AVle.refl _, AVle.refl _, AVle.refl _, le_int (wrap_succ (by dsimp only; omega)), trivial⟩)
          · exact hyes (.inr (.inr (.inl (by rw [hK]; omega)))) e1.symm (by rw [hA]; omega)
          · dsimp only; rw [hset hb.symm (by rw [hK]; omega)]
      · rename_i e1 e2 e3
        have e4 := fct_b1.1 h
        (refine ⟨⟨by first | omega | (dsimp only; omega), by first | omega | (dsimp only; omega)⟩, splitO_eq (b := .bp (0, nx) (i)) (congrArg (AV.bp (0, nx)) (ix1 c4)) ?_⟩; (conv => whnf); refine ⟨⟨rfl, (by first | omega | (simp only [List.length_map, List.length_set, List.length_cons, List.length_nil, List.length_replicate, List.length_append]; omega))⟩, splitO_eq (b := boolA ((bareA l i).getD (i) false)) (getD_map (by first | omega | (simp only [List.length_map, List.length_set, List.length_cons, List.length_nil, List.length_replicate, List.length_append]; omega))) ?_⟩)
        (repeat ((conv=>whnf);first|refine ω0 ?_|refine ω1 ?_|refine ω2 ?_|refine ω3 ?_|refine ω4 rfl ?_|refine ω5 rfl ?_|refine ω6 ?_|refine ω7 ?_|refine ω8 ?_|refine ⟨rfl,?_⟩|refine ⟨trivial,?_⟩|refine ⟨⟨rfl,Nat.le_of_ble_eq_true rfl⟩,?_⟩|refine ⟨⟨by kernel_rfl,by kernel_rfl⟩,?_⟩|refine ⟨by decide,?_⟩|refine lit_true ?_|refine lit_false ?_))
        intro b hb
        cases b
        · (repeat ((conv=>whnf);first|refine ω0 ?_|refine ω1 ?_|refine ω2 ?_|refine ω3 ?_|refine ω4 rfl ?_|refine ω5 rfl ?_|refine ω6 ?_|refine ω7 ?_|refine ω8 ?_|refine ⟨rfl,?_⟩|refine ⟨trivial,?_⟩|refine ⟨⟨rfl,Nat.le_of_ble_eq_true rfl⟩,?_⟩|refine ⟨⟨by kernel_rfl,by kernel_rfl⟩,?_⟩|refine ⟨by decide,?_⟩|refine lit_true ?_|refine lit_false ?_))
          refine back (i + 1, _) ⟨by dsimp only; omega, fun j hj => hall ?_ j hj⟩ (by dsimp only; omega) (ele_tell _ _ rfl rfl (.cons _ (.cons_cons _ .slnil)) .slnil ⟨rfl, OwnLe.of_eq ?_, trivial⟩ trivial ⟨AVle.refl _, AVle.refl _, AVle.refl _, AVle.refl _, le_int (wrap_succ (by dsimp only; omega)), trivial⟩)
          · exact hyes (.inr (.inl (by rw [hK]; omega))) e1.symm (by rw [hA]; omega)
          · dsimp only; rw [hsame (by rw [hK]; omega)]
        · (repeat ((conv=>whnf);first|refine ω0 ?_|refine ω1 ?_|refine ω2 ?_|refine ω3 ?_|refine ω4 rfl ?_|refine ω5 rfl ?_|refine ω6 ?_|refine ω7 ?_|refine ω8 ?_|refine ⟨rfl,?_⟩|refine ⟨trivial,?_⟩|refine ⟨⟨rfl,Nat.le_of_ble_eq_true rfl⟩,?_⟩|refine ⟨⟨by kernel_rfl,by kernel_rfl⟩,?_⟩|refine ⟨by decide,?_⟩|refine lit_true ?_|refine lit_false ?_))
          intro d hd
          obtain rfl : d = true := hd.trans (beq_iff_eq.2 (by omega))
          (repeat ((conv=>whnf);first|refine ω0 ?_|refine ω1 ?_|refine ω2 ?_|refine ω3 ?_|refine ω4 rfl ?_|refine ω5 rfl ?_|refine ω6 ?_|refine ω7 ?_|refine ω8 ?_|refine ⟨rfl,?_⟩|refine ⟨trivial,?_⟩|refine ⟨⟨rfl,Nat.le_of_ble_eq_true rfl⟩,?_⟩|refine ⟨⟨by kernel_rfl,by kernel_rfl⟩,?_⟩|refine ⟨by decide,?_⟩|refine lit_true ?_|refine lit_false ?_))
          refine back (i + 1, _) ⟨by dsimp only; omega, fun j hj => hall ?_ j hj⟩ (by dsimp only; omega) (ele_tell _ _ rfl rfl (.cons _ (.cons_cons _ .slnil)) .slnil ⟨rfl, OwnLe.of_eq ?_, trivial⟩ trivial ⟨AVle.refl _, AVle.refl _, AVle.refl _, AVle.refl _, le_int (wrap_succ (by dsimp only; omega)), trivial⟩)
          · exact hyes (.inr (.inl (by rw [hK]; omega))) e1.symm (by rw [hA]; omega)
          · dsimp only; rw [hsame (by rw [hK]; omega)]
      · rename_i e1 e2
        have e3 := yes_of h
        (refine ⟨⟨by first | omega | (dsimp only; omega), by first | omega | (dsimp only; omega)⟩, splitO_eq (b := .bp (0, nx) (i)) (congrArg (AV.bp (0, nx)) (ix1 c4)) ?_⟩; (conv => whnf); refine ⟨⟨rfl, (by first | omega | (simp only [List.length_map, List.length_set, List.length_cons, List.length_nil, List.length_replicate, List.length_append]; omega))⟩, splitO_eq (b := boolA ((bareA l i).getD (i) false)) (getD_map (by first | omega | (simp only [List.length_map, List.length_set, List.length_cons, List.length_nil, List.length_replicate, List.length_append]; omega))) ?_⟩)
        (repeat ((conv=>whnf);first|refine ω0 ?_|refine ω1 ?_|refine ω2 ?_|refine ω3 ?_|refine ω4 rfl ?_|refine ω5 rfl ?_|refine ω6 ?_|refine ω7 ?_|refine ω8 ?_|refine ⟨rfl,?_⟩|refine ⟨trivial,?_⟩|refine ⟨⟨rfl,Nat.le_of_ble_eq_true rfl⟩,?_⟩|refine ⟨⟨by kernel_rfl,by kernel_rfl⟩,?_⟩|refine ⟨by decide,?_⟩|refine lit_true ?_|refine lit_false ?_))
        intro b hb
        cases b
        · (repeat ((conv=>whnf);first|refine ω0 ?_|refine ω1 ?_|refine ω2 ?_|refine ω3 ?_|refine ω4 rfl ?_|refine ω5 rfl ?_|refine ω6 ?_|refine ω7 ?_|refine ω8 ?_|refine ⟨rfl,?_⟩|refine ⟨trivial,?_⟩|refine ⟨⟨rfl,Nat.le_of_ble_eq_true rfl⟩,?_⟩|refine ⟨⟨by kernel_rfl,by kernel_rfl⟩,?_⟩|refine ⟨by decide,?_⟩|refine lit_true ?_|refine lit_false ?_))
          (refine ⟨⟨by first | omega | (dsimp only; omega), by first | omega | (dsimp only; omega)⟩, splitO_eq (b := .bp (0, nx) (i)) (congrArg (AV.bp (0, nx)) (ix1 c4)) ?_⟩; (conv => whnf); refine ⟨⟨rfl, (by first | omega | (simp only [List.length_map, List.length_set, List.length_cons, List.length_nil, List.length_replicate, List.length_append]; omega))⟩, splitO_eq (b := boolA ((bareA l i).getD (i) false)) (getD_map (by first | omega | (simp only [List.length_map, List.length_set, List.length_cons, List.length_nil, List.length_replicate, List.length_append]; omega))) ?_⟩)
          (repeat ((conv=>whnf);first|refine ω0 ?_|refine ω1 ?_|refine ω2 ?_|refine ω3 ?_|refine ω4 rfl ?_|refine ω5 rfl ?_|refine ω6 ?_|refine ω7 ?_|refine ω8 ?_|refine ⟨rfl,?_⟩|refine ⟨trivial,?_⟩|refine ⟨⟨rfl,Nat.le_of_ble_eq_true rfl⟩,?_⟩|refine ⟨⟨by kernel_rfl,by kernel_rfl⟩,?_⟩|refine ⟨by decide,?_⟩|refine lit_true ?_|refine lit_false ?_))
          intro b2 hb2
          obtain rfl : b2 = false := by rw [hb2, ← hb]
          (repeat ((conv=>whnf);first|refine ω0 ?_|refine ω1 ?_|refine ω2 ?_|refine ω3 ?_|refine ω4 rfl ?_|refine ω5 rfl ?_|refine ω6 ?_|refine ω7 ?_|refine ω8 ?_|refine ⟨rfl,?_⟩|refine ⟨trivial,?_⟩|refine ⟨⟨rfl,Nat.le_of_ble_eq_true rfl⟩,?_⟩|refine ⟨⟨by kernel_rfl,by kernel_rfl⟩,?_⟩|refine ⟨by decide,?_⟩|refine lit_true ?_|refine lit_false ?_))
          refine back (i + 1, _) ⟨by dsimp only; omega, fun j hj => hall ?_ j hj⟩ (by dsimp only; omega) (ele_tell _ _ rfl rfl (.cons _ (.cons_cons _ .slnil)) .slnil ⟨rfl, OwnLe.of_eq ?_, trivial⟩ trivial ⟨AVle.refl _, AVle.refl _, AVle.refl _, AVle.refl _, le_int (wrap_succ (by dsimp only; omega)), trivial⟩)
          · exact hyes (.inl (by rw [hA]; omega)) e1.symm (by rw [← hb]; simp)
          · dsimp only; rw [hsame (by rw [← hb]; simp)]
        · (repeat ((conv=>whnf);first|refine ω0 ?_|refine ω1 ?_|refine ω2 ?_|refine ω3 ?_|refine ω4 rfl ?_|refine ω5 rfl ?_|refine ω6 ?_|refine ω7 ?_|refine ω8 ?_|refine ⟨rfl,?_⟩|refine ⟨trivial,?_⟩|refine ⟨⟨rfl,Nat.le_of_ble_eq_true rfl⟩,?_⟩|refine ⟨⟨by kernel_rfl,by kernel_rfl⟩,?_⟩|refine ⟨by decide,?_⟩|refine lit_true ?_|refine lit_false ?_))
          refine ret_tells rfl (le_bool ?_)
          rw [hno (.inr (.inr ⟨by rw [hA]; omega, hb.symm⟩))]
      · rename_i e1
        have e3 := fct_b1.1 h
        (refine ⟨⟨by first | omega | (dsimp only; omega), by first | omega | (dsimp only; omega)⟩, splitO_eq (b := .bp (0, nx) (i)) (congrArg (AV.bp (0, nx)) (ix1 c4)) ?_⟩; (conv => whnf); refine ⟨⟨rfl, (by first | omega | (simp only [List.length_map, List.length_set, List.length_cons, List.length_nil, List.length_replicate, List.length_append]; omega))⟩, splitO_eq (b := boolA ((bareA l i).getD (i) false)) (getD_map (by first | omega | (simp only [List.length_map, List.length_set, List.length_cons, List.length_nil, List.length_replicate, List.length_append]; omega))) ?_⟩)
        (repeat ((conv=>whnf);first|refine ω0 ?_|refine ω1 ?_|refine ω2 ?_|refine ω3 ?_|refine ω4 rfl ?_|refine ω5 rfl ?_|refine ω6 ?_|refine ω7 ?_|refine ω8 ?_|refine ⟨rfl,?_⟩|refine ⟨trivial,?_⟩|refine ⟨⟨rfl,Nat.le_of_ble_eq_true rfl⟩,?_⟩|refine ⟨⟨by kernel_rfl,by kernel_rfl⟩,?_⟩|refine ⟨by decide,?_⟩|refine lit_true ?_|refine lit_false ?_))
        intro b hb
        cases b
        · (repeat ((conv=>whnf);first|refine ω0 ?_|refine ω1 ?_|refine ω2 ?_|refine ω3 ?_|refine ω4 rfl ?_|refine ω5 rfl ?_|refine ω6 ?_|refine ω7 ?_|refine ω8 ?_|refine ⟨rfl,?_⟩|refine ⟨trivial,?_⟩|refine ⟨⟨rfl,Nat.le_of_ble_eq_true rfl⟩,?_⟩|refine ⟨⟨by kernel_rfl,by kernel_rfl⟩,?_⟩|refine ⟨by decide,?_⟩|refine lit_true ?_|refine lit_false ?_))
          (refine ⟨⟨by first | omega | (dsimp only; omega), by first | omega | (dsimp only; omega)⟩, splitO_eq (b := .bp (0, nx) (i)) (congrArg (AV.bp (0, nx)) (ix1 c4)) ?_⟩; (conv => whnf); refine ⟨⟨rfl, (by first | omega | (simp only [List.length_map, List.length_set, List.length_cons, List.length_nil, List.length_replicate, List.length_append]; omega))⟩, splitO_eq (b := boolA ((bareA l i).getD (i) false)) (getD_map (by first | omega | (simp only [List.length_map, List.length_set, List.length_cons, List.length_nil, List.length_replicate, List.length_append]; omega))) ?_⟩)
          (repeat ((conv=>whnf);first|refine ω0 ?_|refine ω1 ?_|refine ω2 ?_|refine ω3 ?_|refine ω4 rfl ?_|refine ω5 rfl ?_|refine ω6 ?_|refine ω7 ?_|refine ω8 ?_|refine ⟨rfl,?_⟩|refine ⟨trivial,?_⟩|refine ⟨⟨rfl,Nat.le_of_ble_eq_true rfl⟩,?_⟩|refine ⟨⟨by kernel_rfl,by kernel_rfl⟩,?_⟩|refine ⟨by decide,?_⟩|refine lit_true ?_|refine lit_false ?_))
          intro b2 hb2
          obtain rfl : b2 = false := by rw [hb2, ← hb]
          (repeat ((conv=>whnf);first|refine ω0 ?_|refine ω1 ?_|refine ω2 ?_|refine ω3 ?_|refine ω4 rfl ?_|refine ω5 rfl ?_|refine ω6 ?_|refine ω7 ?_|refine ω8 ?_|refine ⟨rfl,?_⟩|refine ⟨trivial,?_⟩|refine ⟨⟨rfl,Nat.le_of_ble_eq_true rfl⟩,?_⟩|refine ⟨⟨by kernel_rfl,by kernel_rfl⟩,?_⟩|refine ⟨by decide,?_⟩|refine lit_true ?_|refine lit_false ?_))
          refine back (i + 1, _) ⟨by dsimp only; omega, fun j hj => hall ?_ j hj⟩ (by dsimp only; omega) (ele_tell _ _ rfl rfl (.cons _ (.cons_cons _ .slnil)) .slnil ⟨rfl, OwnLe.of_eq ?_, trivial⟩ trivial ⟨AVle.refl _, AVle.refl _, AVle.refl _, AVle.refl _, le_int (wrap_succ (by dsimp only; omega)), trivial⟩)
          · exact hyes (.inl (by rw [hA]; omega)) e1.symm (by rw [← hb]; simp)
          · dsimp only; rw [hsame (by rw [← hb]; simp)]
        · (repeat ((conv=>whnf);first|refine ω0 ?_|refine ω1 ?_|refine ω2 ?_|refine ω3 ?_|refine ω4 rfl ?_|refine ω5 rfl ?_|refine ω6 ?_|refine ω7 ?_|refine ω8 ?_|refine ⟨rfl,?_⟩|refine ⟨trivial,?_⟩|refine ⟨⟨rfl,Nat.le_of_ble_eq_true rfl⟩,?_⟩|refine ⟨⟨by kernel_rfl,by kernel_rfl⟩,?_⟩|refine ⟨by decide,?_⟩|refine lit_true ?_|refine lit_false ?_))
          refine ret_tells rfl (le_bool ?_)
          rw [hno (.inr (.inr ⟨by rw [hA]; omega, hb.symm⟩))]
      all_goals
        have hx : true = (kof (l.getD i ins0).code).2 := by assumption
        refine ret_tells rfl (le_bool ?_)
        rw [hno (.inr (.inl hx.symm))]
end Go.Proofs.W

namespace Go.Proofs.W
open Go.Vl
set_option maxRecDepth 100000

def tstA (t : Tst) : AV := .ag [int t.at', u32 t.mask, int t.kind, u32 t.k, boolA t.is]
def tsts (l : List Tst) : AV := slOf 5 tstA tst0 l
def tstF (l : List Tst) (k : Nat) : AV := tstA (l.getD k tst0)
def pthA (p : Pth) : AV := .ag [tsts p.tests, int p.steps, u32 p.value]
def pthF (l : List Pth) (k : Nat) : AV := pthA (l.getD k pth0)
def pths (l : List Pth) : AV := slOf 3 pthA pth0 l
def nm0 : Option Nat → Option Vl.Id
  | none => none
  | some s => some (0, s)
theorem clone_spec (ts : List Tst) (hl : ts.length ≤ 1000000) (nx : Nat) : ECall Try.prog 58 [tsts ts] ⟨[], [], nx, 0⟩ fun r h' => ∃ oi nx' nn', (oi = none → ts = []) ∧ r = .os 5 ts.length (tstF ts) (nm0 oi) ∧ h' = ⟨[], pmOf (nm0 oi) (ts.length * 5), nx', nn'⟩ := by
  refine ECall.wk (ecall_of_aw Try.func58 rfl rfl ?_)
  (repeat ((conv=>whnf);first|refine ω0 ?_|refine ω1 ?_|refine ω2 ?_|refine ω3 ?_|refine ω4 rfl ?_|refine ω5 rfl ?_|refine ω6 ?_|refine ω7 ?_|refine ω8 ?_|refine ⟨rfl,?_⟩|refine ⟨trivial,?_⟩|refine ⟨⟨rfl,Nat.le_of_ble_eq_true rfl⟩,?_⟩|refine ⟨⟨by kernel_rfl,by kernel_rfl⟩,?_⟩|refine ⟨by decide,?_⟩|refine lit_true ?_|refine lit_false ?_))
  refine aop_nilslice (e := 60) rfl (.inl rfl) (by kernel_rfl) (.inl rfl) fun c hc => ?_
  cases c
  · (repeat ((conv=>whnf);first|refine ω0 ?_|refine ω1 ?_|refine ω2 ?_|refine ω3 ?_|refine ω4 rfl ?_|refine ω5 rfl ?_|refine ω6 ?_|refine ω7 ?_|refine ω8 ?_|refine ⟨rfl,?_⟩|refine ⟨trivial,?_⟩|refine ⟨⟨rfl,Nat.le_of_ble_eq_true rfl⟩,?_⟩|refine ⟨⟨by kernel_rfl,by kernel_rfl⟩,?_⟩|refine ⟨by decide,?_⟩|refine lit_true ?_|refine lit_false ?_))
    (conv => whnf)
    refine appK_intro (fun hm => ?_) fun hm => ?_
    · (repeat ((conv=>whnf);first|refine ω0 ?_|refine ω1 ?_|refine ω2 ?_|refine ω3 ?_|refine ω4 rfl ?_|refine ω5 rfl ?_|refine ω6 ?_|refine ω7 ?_|refine ω8 ?_|refine ⟨rfl,?_⟩|refine ⟨trivial,?_⟩|refine ⟨⟨rfl,Nat.le_of_ble_eq_true rfl⟩,?_⟩|refine ⟨⟨by kernel_rfl,by kernel_rfl⟩,?_⟩|refine ⟨by decide,?_⟩|refine lit_true ?_|refine lit_false ?_))
      obtain rfl : ts = [] := List.eq_nil_of_length_eq_zero hm
      exact ret_is rfl ⟨_, _, AVle.os_nil, HLe.refl _, none, _, _, fun _ => rfl, rfl, rfl⟩
    · refine ⟨fun k hk => rfl, by show (0 + ts.length) * 32 ≤ _; omega, by omega, ?_⟩
      (repeat ((conv=>whnf);first|refine ω0 ?_|refine ω1 ?_|refine ω2 ?_|refine ω3 ?_|refine ω4 rfl ?_|refine ω5 rfl ?_|refine ω6 ?_|refine ω7 ?_|refine ω8 ?_|refine ⟨rfl,?_⟩|refine ⟨trivial,?_⟩|refine ⟨⟨rfl,Nat.le_of_ble_eq_true rfl⟩,?_⟩|refine ⟨⟨by kernel_rfl,by kernel_rfl⟩,?_⟩|refine ⟨by decide,?_⟩|refine lit_true ?_|refine lit_false ?_))
      have e5 : 0 + ts.length = ts.length := Nat.zero_add _
      refine ret_is rfl ⟨.os 5 ts.length (tstF ts) (nm0 (some nx)), _, ?_, hle_tell (nx := nx + 1) (nn := 1) (bx := []) (pm := [((0, nx), ts.length * 5)]) _ _ rfl (List.Sublist.refl _) (List.Sublist.refl _) trivial ⟨rfl, congrArg (· * 5) e5, trivial⟩, some nx, _, _, (fun h => by cases h), rfl, rfl⟩
      exact AVle.trans (b := .os 5 (0 + ts.length) (tstF ts) (some (0, nx))) (AVle.os_fun fun k hk => rfl) (AVle.of_eq (by rw [e5]; rfl))
  · obtain rfl : ts = [] := List.eq_nil_of_length_eq_zero (hc rfl)
    (repeat ((conv=>whnf);first|refine ω0 ?_|refine ω1 ?_|refine ω2 ?_|refine ω3 ?_|refine ω4 rfl ?_|refine ω5 rfl ?_|refine ω6 ?_|refine ω7 ?_|refine ω8 ?_|refine ⟨rfl,?_⟩|refine ⟨trivial,?_⟩|refine ⟨⟨rfl,Nat.le_of_ble_eq_true rfl⟩,?_⟩|refine ⟨⟨by kernel_rfl,by kernel_rfl⟩,?_⟩|refine ⟨by decide,?_⟩|refine lit_true ?_|refine lit_false ?_))
    exact ret_is rfl ⟨_, _, AVle.os_nil, HLe.refl _, none, _, _, fun _ => rfl, rfl, rfl⟩
theorem tells_of_ecall {P : Program} {f : FuncId} {xs : List AV} {s : AV} (h : ∀ nx, ECall P f xs ⟨[], [], nx, 0⟩ fun r _ => AVle r s) : Tells P f xs s := fun nx =>
  ECall.wk ((h nx).mono fun r h' hr => ⟨r, ⟨[], [], h'.nx, h'.nn⟩, AVle.refl _, hle_drop (List.nil_sublist _) (List.nil_sublist _), hr, rfl, rfl⟩)
theorem clone_tells (ts : List Tst) (hl : ts.length ≤ 1000000) : Tells Try.prog 58 [tsts ts] (tsts ts) :=
  tells_of_ecall fun nx => (clone_spec ts hl nx).mono fun r h' ⟨oi, _, _, _, h, _⟩ => by rw [h]; exact AVle.os_sl
theorem eff_clone {ops : Array Oper} {B : List (Vl.Id × Own)} {o : Oper} {E : Env} {fo : Operand} {args : Array Operand} {tys : Array TypeId} {first caps : List AV} (nn : Nat) (ts : List Tst) (hl : ts.length ≤ 1000000) (hB : HB B E.h.bx) (hg : o.guard = none)
    (ho : o.op = .call { callee := .value fo, args := args, argTypes := tys }) (hf : E.ev fo = .fn (.func 58) first caps) (hl' : LeL (first ++ args.toList.map E.ev ++ caps) [tsts ts]) :
    Eff Try.prog ops B o E fun r h' => ∃ oi nx', (oi = none → ts = []) ∧ r = .os 5 ts.length (tstF ts) (nmN nn oi) ∧ h' = ⟨E.h.bx, pmOf (nmN nn oi) (ts.length * 5) ++ E.h.pm, nx', nn + 1⟩ :=
  eff_call hg ho hf ((ECall.frame (h := E.h) (clone_spec ts hl E.h.nx) E.h.bx E.h.pm (by simp) (by simp) rfl).args hl') fun r h' hq => by
    obtain ⟨h1', ⟨oi, nx', nn', z, rfl, rfl⟩, rfl⟩ := hq
    refine ⟨.os 5 ts.length (tstF ts) (nmN nn oi), ⟨E.h.bx, pmOf (nmN nn oi) (ts.length * 5) ++ E.h.pm, nx', nn + 1⟩, ?_, ⟨by simp, ?_, rfl⟩, ⟨oi, nx', z, rfl, rfl⟩, hB⟩
    · cases oi
      · exact AVle.refl _
      · exact AVle.os_nm rfl
    · cases oi <;> simp [pmOf, nm0, nmN]
theorem le_tsts {ts : List Tst} {t : Tst} {f' : Nat → AV} {i : Option Vl.Id} (h : f' 0 = tstA t) : AVle (.os 5 (ts.length + 1) (appF ts.length (tstF ts) f') i) (tsts (ts ++ [t])) := by
  refine AVle.os_sl.trans ?_
  unfold tsts slOf
  rw [show (ts ++ [t]).length = ts.length + 1 by simp]
  refine AVle.sl_fun (appF_one (fun k hk => ?_) ?_)
  · simp [tstF, List.getD, List.getElem?_append_left hk]
  · rw [h]; simp [List.getD]
def pB (s0 s1 s2 : Nat) (l : List Ins) (out : List Pth) (oi : Option Nat) : List (Vl.Id × Own) :=
  [((2, s2), .c [.fn (.func 56) [] [.bp (0, s0) 0, .bp (1, s1) 0, .bp (2, s2) 0]]), ((1, s1), .c [.os 3 out.length (pthF out) (nm3 oi)]), ((0, s0), .c [inss l])]
def walkQ (s0 s1 s2 : Nat) (l : List Ins) (out ps : List Pth) (r : AV) (h' : Heap) : Prop :=
  ∃ out' oi' nx' nn', h' = ⟨pB s0 s1 s2 l out' oi', pmOf (nm3 oi') (out'.length * 3), nx', nn'⟩ ∧ (oi' = none → out' = []) ∧
    ((out.length + ps.length ≤ 4096 ∧ r = boolA true ∧ out' = out ++ ps) ∨ (4096 < out.length + ps.length ∧ r = boolA false))
def tA (a m ki k : Nat) (is : Bool) : AV := .ag [int a, u32 m, int ki, u32 k, boolA is]
theorem wrap_one {n : Nat} (h : n ≤ 1000000000) : IntKind.i64.wrap ((n : Int) + 1) = ((n + 1 : Nat) : Int) := wrap_succ (by omega)
set_option maxHeartbeats 4000000 in
theorem walk_spec (l : List Ins) (hok : okL l) (hp : Plain l) (s0 s1 s2 : Nat) : ∀ (f n a m ki k : Nat) (is : Bool) (ts : List Tst) (st : Nat) (out : List Pth) (oi : Option Nat) (nx : Nat),
    n < l.length → l.length ≤ n + f → ts.length ≤ n → st ≤ n → out.length ≤ 4096 → (oi = none → out = []) → m < 4294967296 →
    ECall Try.prog 56 [int n, tA a m ki k is, tsts ts, int st, .bp (0, s0) 0, .bp (1, s1) 0, .bp (2, s2) 0] ⟨pB s0 s1 s2 l out oi, pmOf (nm3 oi) (out.length * 3), nx, 4⟩ (walkQ s0 s1 s2 l out (pathsF l f n a m ts st))
  | 0, n, _, _, _, _, _, _, _, _, _, _, hn, hl, _, _, _, _, _ => by omega
  | f + 1, n, a, m, ki, k, is, ts, st, out, oi, nx, hn, hl, hts, hst, hout, h0, hm => by
    have hf := hp.formed
    have hle := hf.le
    have hki : (l.getD n ins0).ok := hok.get hn
    have hkb := hki.2.2.2
    have hkinds := hp.kinds hn
    obtain ⟨q1, q2, q3⟩ := formed_nexts hf hn
    have hK : kind l n = (kof (l.getD n ins0).code).1 := rfl
    have hwk : IntKind.i64.wrap ((l.getD n ins0).k : Int) = ((l.getD n ins0).k : Nat) := wrap_id (by omega) (by omega)
    have fin : ∀ (PS out' : List Pth) (oi' : Option Nat) (nx' nn : Nat) (rb : List (Vl.Id × Own)) (rp : List (Vl.Id × Nat)) (r : AV), (oi' = none → out' = []) →
        ((out.length + PS.length ≤ 4096 ∧ r = boolA true ∧ out' = out ++ PS) ∨ (4096 < out.length + PS.length ∧ r = boolA false)) → wk (walkQ s0 s1 s2 l out PS) r ⟨rb ++ pB s0 s1 s2 l out' oi', rp ++ pmOf (nm3 oi') (out'.length * 3), nx', nn⟩ :=
      fun PS out' oi' nx' nn rb rp r r1 r2 => wk_drop (AVle.refl _) ⟨out', oi', nx', _, rfl, r1, r2⟩
    refine ECall.wk (ecall_of_aw Try.func56 rfl rfl ?_)
    (repeat ((conv=>whnf);first|refine ω0 ?_|refine ω1 ?_|refine ω2 ?_|refine ω3 ?_|refine ω4 rfl ?_|refine ω5 rfl ?_|refine ω6 ?_|refine ω7 ?_|refine ω8 ?_|refine ⟨rfl,?_⟩|refine ⟨trivial,?_⟩|refine ⟨⟨rfl,Nat.le_of_ble_eq_true rfl⟩,?_⟩|refine ⟨⟨by kernel_rfl,by kernel_rfl⟩,?_⟩|refine ⟨by decide,?_⟩|refine lit_true ?_|refine lit_false ?_))
    refine ⟨⟨by first | omega | (dsimp only; omega), by first | omega | (dsimp only; omega)⟩, ?_⟩
    (repeat ((conv=>whnf);first|refine ω0 ?_|refine ω1 ?_|refine ω2 ?_|refine ω3 ?_|refine ω4 rfl ?_|refine ω5 rfl ?_|refine ω6 ?_|refine ω7 ?_|refine ω8 ?_|refine ⟨rfl,?_⟩|refine ⟨trivial,?_⟩|refine ⟨⟨rfl,Nat.le_of_ble_eq_true rfl⟩,?_⟩|refine ⟨⟨by kernel_rfl,by kernel_rfl⟩,?_⟩|refine ⟨by decide,?_⟩|refine lit_true ?_|refine lit_false ?_))
    refine aop_tells rfl rfl (of_kind (l.getD n ins0).code hki.1) ⟨AVle.refl _, trivial⟩ fun nx3 => ?_
    (repeat ((conv=>whnf);first|refine ω0 ?_|refine ω1 ?_|refine ω2 ?_|refine ω3 ?_|refine ω4 rfl ?_|refine ω5 rfl ?_|refine ω6 ?_|refine ω7 ?_|refine ω8 ?_|refine ⟨rfl,?_⟩|refine ⟨trivial,?_⟩|refine ⟨⟨rfl,Nat.le_of_ble_eq_true rfl⟩,?_⟩|refine ⟨⟨by kernel_rfl,by kernel_rfl⟩,?_⟩|refine ⟨by decide,?_⟩|refine lit_true ?_|refine lit_false ?_))
    refine aop_tells rfl rfl (nextP_spec l hok hf n hn) ⟨AVle.refl _, AVle.refl _, trivial⟩ fun nx4 => ?_
    (repeat ((conv=>whnf);first|refine ω0 ?_|refine ω1 ?_|refine ω2 ?_|refine ω3 ?_|refine ω4 rfl ?_|refine ω5 rfl ?_|refine ω6 ?_|refine ω7 ?_|refine ω8 ?_|refine ⟨rfl,?_⟩|refine ⟨trivial,?_⟩|refine ⟨⟨rfl,Nat.le_of_ble_eq_true rfl⟩,?_⟩|refine ⟨⟨by kernel_rfl,by kernel_rfl⟩,?_⟩|refine ⟨by decide,?_⟩|refine lit_true ?_|refine lit_false ?_))
    intro c a1; cases c
    · have a1 := fct_b0.1 a1
      (repeat ((conv=>whnf);first|refine ω0 ?_|refine ω1 ?_|refine ω2 ?_|refine ω3 ?_|refine ω4 rfl ?_|refine ω5 rfl ?_|refine ω6 ?_|refine ω7 ?_|refine ω8 ?_|refine ⟨rfl,?_⟩|refine ⟨trivial,?_⟩|refine ⟨⟨rfl,Nat.le_of_ble_eq_true rfl⟩,?_⟩|refine ⟨⟨by kernel_rfl,by kernel_rfl⟩,?_⟩|refine ⟨by decide,?_⟩|refine lit_true ?_|refine lit_false ?_))
      intro c a2; cases c
      · have a2 := fct_b0.1 a2
        (repeat ((conv=>whnf);first|refine ω0 ?_|refine ω1 ?_|refine ω2 ?_|refine ω3 ?_|refine ω4 rfl ?_|refine ω5 rfl ?_|refine ω6 ?_|refine ω7 ?_|refine ω8 ?_|refine ⟨rfl,?_⟩|refine ⟨trivial,?_⟩|refine ⟨⟨rfl,Nat.le_of_ble_eq_true rfl⟩,?_⟩|refine ⟨⟨by kernel_rfl,by kernel_rfl⟩,?_⟩|refine ⟨by decide,?_⟩|refine lit_true ?_|refine lit_false ?_))
        intro c a3; cases c
        · have a3 := fct_b0.1 a3
          (repeat ((conv=>whnf);first|refine ω0 ?_|refine ω1 ?_|refine ω2 ?_|refine ω3 ?_|refine ω4 rfl ?_|refine ω5 rfl ?_|refine ω6 ?_|refine ω7 ?_|refine ω8 ?_|refine ⟨rfl,?_⟩|refine ⟨trivial,?_⟩|refine ⟨⟨rfl,Nat.le_of_ble_eq_true rfl⟩,?_⟩|refine ⟨⟨by kernel_rfl,by kernel_rfl⟩,?_⟩|refine ⟨by decide,?_⟩|refine lit_true ?_|refine lit_false ?_))
          intro c a4; cases c
          · have a4 := not_of a4
            have hk : kind l n = 13 := by omega
            have hv : nextP l n = (((n + 1 + (l.getD n ins0).k : Nat) : Int), -1) := by unfold nextP; rw [if_neg (by omega), if_pos hk]
            have hlt := q1 hk
            have hps : pathsF l (f + 1) n a m ts st = pathsF l f (n + 1 + (l.getD n ins0).k) a m ts (st + 1) := by rw [pathsF, if_neg (by omega), if_neg (by omega), if_neg (by omega), if_neg (by omega)]
            rw [hps]
            (repeat ((conv=>whnf);first|refine ω0 ?_|refine ω1 ?_|refine ω2 ?_|refine ω3 ?_|refine ω4 rfl ?_|refine ω5 rfl ?_|refine ω6 ?_|refine ω7 ?_|refine ω8 ?_|refine ⟨rfl,?_⟩|refine ⟨trivial,?_⟩|refine ⟨⟨rfl,Nat.le_of_ble_eq_true rfl⟩,?_⟩|refine ⟨⟨by kernel_rfl,by kernel_rfl⟩,?_⟩|refine ⟨by decide,?_⟩|refine lit_true ?_|refine lit_false ?_))
            refine aop_callF (xs := [int (n + 1 + (l.getD n ins0).k : Nat), tA a m ki k is, tsts ts, int (st + 1 : Nat), .bp (0, s0) 0, .bp (1, s1) 0, .bp (2, s2) 0]) [((5, _), .c _), ((4, _), .c _)] [] 6 rfl rfl rfl rfl ⟨le_int (by rw [hv]), AVle.refl _, AVle.refl _, le_int (wrap_one (by omega)), AVle.refl _, AVle.refl _, AVle.refl _, trivial⟩
              (walk_spec l hok hp s0 s1 s2 f (n + 1 + (l.getD n ins0).k) a m ki k is ts (st + 1) out oi nx4 hlt (by omega) (by omega) (by omega) hout h0 hm) (BxLe.refl _) (PmEq.refl _) rfl fun r h' hq => ?_
            obtain ⟨out', oi', nx', nn', rfl, r1, r2⟩ := hq
            rcases r2 with ⟨r2, rfl, r3⟩ | ⟨r2, rfl⟩
            all_goals (repeat ((conv=>whnf);first|refine ω0 ?_|refine ω1 ?_|refine ω2 ?_|refine ω3 ?_|refine ω4 rfl ?_|refine ω5 rfl ?_|refine ω6 ?_|refine ω7 ?_|refine ω8 ?_|refine ⟨rfl,?_⟩|refine ⟨trivial,?_⟩|refine ⟨⟨rfl,Nat.le_of_ble_eq_true rfl⟩,?_⟩|refine ⟨⟨by kernel_rfl,by kernel_rfl⟩,?_⟩|refine ⟨by decide,?_⟩|refine lit_true ?_|refine lit_false ?_))
            · exact ret_is rfl (fin _ _ _ _ _ [_, _] [] _ r1 (.inl ⟨r2, rfl, r3⟩))
            · exact ret_is rfl (fin _ _ _ _ _ [_, _] [] _ r1 (.inr ⟨r2, rfl⟩))
          · have a4 := yes_of a4
            have hk : 25 ≤ kind l n := by omega
            have hv : nextP l n = (((n + 1 + (l.getD n ins0).jt : Nat) : Int), ((n + 1 + (l.getD n ins0).jf : Nat) : Int)) := by unfold nextP; rw [if_neg (by omega), if_neg (by omega), if_pos hk]
            obtain ⟨hj1, hj2⟩ := q2 hk
            have hps : pathsF l (f + 1) n a m ts st = pathsF l f (n + 1 + (l.getD n ins0).jt) a m (ts ++ [⟨a, m, kind l n, (l.getD n ins0).k, true⟩]) (st + 1) ++ pathsF l f (n + 1 + (l.getD n ins0).jf) a m (ts ++ [⟨a, m, kind l n, (l.getD n ins0).k, false⟩]) (st + 1) := by
              rw [pathsF, if_neg (by omega), if_neg (by omega), if_neg (by omega), if_pos hk]
            rw [hps]
            have IH1 := walk_spec l hok hp s0 s1 s2 f (n + 1 + (l.getD n ins0).jt) a m (kind l n) (l.getD n ins0).k true (ts ++ [⟨a, m, kind l n, (l.getD n ins0).k, true⟩]) (st + 1) out oi
            have IH2 := fun out' oi' => walk_spec l hok hp s0 s1 s2 f (n + 1 + (l.getD n ins0).jf) a m (kind l n) (l.getD n ins0).k true (ts ++ [⟨a, m, kind l n, (l.getD n ins0).k, false⟩]) (st + 1) out' oi'
            generalize pathsF l f (n + 1 + (l.getD n ins0).jt) a m (ts ++ [⟨a, m, kind l n, (l.getD n ins0).k, true⟩]) (st + 1) = P1 at *
            generalize pathsF l f (n + 1 + (l.getD n ins0).jf) a m (ts ++ [⟨a, m, kind l n, (l.getD n ins0).k, false⟩]) (st + 1) = P2 at *
            (repeat ((conv=>whnf);first|refine ω0 ?_|refine ω2 ?_|refine ω3 ?_|refine ω4 rfl ?_|refine ω5 rfl ?_|refine ω6 ?_|refine ω7 ?_|refine ω8 ?_|refine ⟨rfl,?_⟩|refine ⟨trivial,?_⟩|refine ⟨⟨rfl,Nat.le_of_ble_eq_true rfl⟩,?_⟩|refine ⟨⟨by kernel_rfl,by kernel_rfl⟩,?_⟩|refine ⟨by decide,?_⟩|refine lit_true ?_|refine lit_false ?_))
            refine aw_mix 5 [((5, nx + 1), .c [u16 (l.getD n ins0).code, u8 (l.getD n ins0).jt, u8 (l.getD n ins0).jf, u32 (l.getD n ins0).k])] (fun i => match i with | 4 => true | _ => false) [0, 1, 2, 3, 4] (by kernel_rfl) (by kernel_rfl) (HB.one rfl) ?_
            (repeat ((conv=>whnf);first|refine ω0 ?_|refine ω1 ?_|refine ω2 ?_|refine ω3 ?_|refine ω4 rfl ?_|refine ω5 rfl ?_|refine ω6 ?_|refine ω7 ?_|refine ω8 ?_|refine ⟨rfl,?_⟩|refine ⟨trivial,?_⟩|refine ⟨⟨rfl,Nat.le_of_ble_eq_true rfl⟩,?_⟩|refine ⟨⟨by kernel_rfl,by kernel_rfl⟩,?_⟩|refine ⟨by decide,?_⟩|refine lit_true ?_|refine lit_false ?_))
            refine ⟨_, eff_store rfl rfl rfl rfl rfl rfl rfl (by kernel_rfl) (by kernel_rfl) (by show 2 + 1 ≤ 5; omega) (HB.one rfl), fun r h' hr => ?_⟩
            obtain rfl := hr
            (repeat ((conv=>whnf);first|refine ω0 ?_|refine ω1 ?_|refine ω2 ?_|refine ω3 ?_|refine ω4 rfl ?_|refine ω5 rfl ?_|refine ω6 ?_|refine ω7 ?_|refine ω8 ?_|refine ⟨rfl,?_⟩|refine ⟨trivial,?_⟩|refine ⟨⟨rfl,Nat.le_of_ble_eq_true rfl⟩,?_⟩|refine ⟨⟨by kernel_rfl,by kernel_rfl⟩,?_⟩|refine ⟨by decide,?_⟩|refine lit_true ?_|refine lit_false ?_))
            refine aw_mix 12 _ (fun i => match i with | 1 => true | 4 => true | 6 => true | 9 => true | _ => false) [0, 2, 3, 5, 7, 8, 1, 4, 6, 9, 10, 11] (by kernel_rfl) (by kernel_rfl) (HB.refl _) ?_
            (repeat ((conv=>whnf);first|refine ω0 ?_|refine ω1 ?_|refine ω2 ?_|refine ω3 ?_|refine ω4 rfl ?_|refine ω5 rfl ?_|refine ω6 ?_|refine ω7 ?_|refine ω8 ?_|refine ⟨rfl,?_⟩|refine ⟨trivial,?_⟩|refine ⟨⟨rfl,Nat.le_of_ble_eq_true rfl⟩,?_⟩|refine ⟨⟨by kernel_rfl,by kernel_rfl⟩,?_⟩|refine ⟨by decide,?_⟩|refine lit_true ?_|refine lit_false ?_))
            refine ⟨_, eff_clone 7 ts (by omega) (HB.refl _) rfl rfl rfl ⟨AVle.refl _, trivial⟩, fun r h' hr => ?_⟩
            obtain ⟨o1, nx6, z1, rfl, rfl⟩ := hr
            (repeat ((conv=>whnf);first|refine ω0 ?_|refine ω1 ?_|refine ω2 ?_|refine ω3 ?_|refine ω4 rfl ?_|refine ω5 rfl ?_|refine ω6 ?_|refine ω7 ?_|refine ω8 ?_|refine ⟨rfl,?_⟩|refine ⟨trivial,?_⟩|refine ⟨⟨rfl,Nat.le_of_ble_eq_true rfl⟩,?_⟩|refine ⟨⟨by kernel_rfl,by kernel_rfl⟩,?_⟩|refine ⟨by decide,?_⟩|refine lit_true ?_|refine lit_false ?_))
            refine ⟨_, eff_append1 (e := 60) (c := 5) (pm := pmOf (nm3 oi) (out.length * 3)) (HB.refl _) rfl rfl rfl (.inr ⟨_, rfl⟩) (by kernel_rfl) (by kernel_rfl) (by kernel_rfl) (.inr rfl) (by kernel_rfl) rfl (oneRow_one rfl) (by show (ts.length + 1) * 32 ≤ _; omega) (by omega), fun r h' hr => ?_⟩
            obtain ⟨rfl, rfl⟩ := hr
            (repeat ((conv=>whnf);first|refine ω0 ?_|refine ω1 ?_|refine ω2 ?_|refine ω3 ?_|refine ω4 rfl ?_|refine ω5 rfl ?_|refine ω6 ?_|refine ω7 ?_|refine ω8 ?_|refine ⟨rfl,?_⟩|refine ⟨trivial,?_⟩|refine ⟨⟨rfl,Nat.le_of_ble_eq_true rfl⟩,?_⟩|refine ⟨⟨by kernel_rfl,by kernel_rfl⟩,?_⟩|refine ⟨by decide,?_⟩|refine lit_true ?_|refine lit_false ?_))
            refine ⟨_, eff_clone 9 ts (by omega) (HB.refl _) rfl rfl rfl ⟨AVle.refl _, trivial⟩, fun r h' hr => ?_⟩
            obtain ⟨o2, nx7, z2, rfl, rfl⟩ := hr
            (repeat ((conv=>whnf);first|refine ω0 ?_|refine ω1 ?_|refine ω2 ?_|refine ω3 ?_|refine ω4 rfl ?_|refine ω5 rfl ?_|refine ω6 ?_|refine ω7 ?_|refine ω8 ?_|refine ⟨rfl,?_⟩|refine ⟨trivial,?_⟩|refine ⟨⟨rfl,Nat.le_of_ble_eq_true rfl⟩,?_⟩|refine ⟨⟨by kernel_rfl,by kernel_rfl⟩,?_⟩|refine ⟨by decide,?_⟩|refine lit_true ?_|refine lit_false ?_))
            refine ⟨_, eff_append1 (e := 60) (c := 5) (pm := ((8, nx6), (ts.length + 1) * 5) :: pmOf (nm3 oi) (out.length * 3)) (HB.refl _) rfl rfl rfl (.inr ⟨_, rfl⟩) (by kernel_rfl) (by kernel_rfl) (by kernel_rfl) (.inr rfl) (by kernel_rfl) rfl (oneRow_one rfl) (by show (ts.length + 1) * 32 ≤ _; omega) (by omega), fun r h' hr => ?_⟩
            obtain ⟨rfl, rfl⟩ := hr
            (repeat ((conv=>whnf);first|refine ω0 ?_|refine ω1 ?_|refine ω2 ?_|refine ω3 ?_|refine ω4 rfl ?_|refine ω5 rfl ?_|refine ω6 ?_|refine ω7 ?_|refine ω8 ?_|refine ⟨rfl,?_⟩|refine ⟨trivial,?_⟩|refine ⟨⟨rfl,Nat.le_of_ble_eq_true rfl⟩,?_⟩|refine ⟨⟨by kernel_rfl,by kernel_rfl⟩,?_⟩|refine ⟨by decide,?_⟩|refine lit_true ?_|refine lit_false ?_))
            refine aop_callF (xs := [int (n + 1 + (l.getD n ins0).jt : Nat), tA a m (kind l n) (l.getD n ins0).k true, tsts (ts ++ [⟨a, m, kind l n, (l.getD n ins0).k, true⟩]), int (st + 1 : Nat), .bp (0, s0) 0, .bp (1, s1) 0, .bp (2, s2) 0]) [((6, _), .c _), ((5, _), .c _), ((4, _), .c _)] [((10, _), _), ((8, _), _)] 11 rfl rfl rfl rfl
              ⟨le_int (by rw [hv]), AVle.refl _, le_tsts rfl, le_int (wrap_one (by omega)), AVle.refl _, AVle.refl _, AVle.refl _, trivial⟩ (IH1 (nx7 + 1) hj1 (by omega) (by simp; omega) (by omega) hout h0 hm) (BxLe.refl _) (PmEq.refl _) rfl fun r h' hq => ?_
            obtain ⟨out', oi', nx', nn', rfl, r1, r2⟩ := hq
            rcases r2 with ⟨r2, rfl, r3⟩ | ⟨r2, rfl⟩
            · have ho' : out'.length = out.length + P1.length := by rw [r3]; simp
              (repeat ((conv=>whnf);first|refine ω0 ?_|refine ω1 ?_|refine ω2 ?_|refine ω3 ?_|refine ω4 rfl ?_|refine ω5 rfl ?_|refine ω6 ?_|refine ω7 ?_|refine ω8 ?_|refine ⟨rfl,?_⟩|refine ⟨trivial,?_⟩|refine ⟨⟨rfl,Nat.le_of_ble_eq_true rfl⟩,?_⟩|refine ⟨⟨by kernel_rfl,by kernel_rfl⟩,?_⟩|refine ⟨by decide,?_⟩|refine lit_true ?_|refine lit_false ?_))
              refine aop_callF (h1 := ⟨pB s0 s1 s2 l out' oi', pmOf (nm3 oi') (out'.length * 3), nx', 4⟩) (xs := [int (n + 1 + (l.getD n ins0).jf : Nat), tA a m (kind l n) (l.getD n ins0).k true, tsts (ts ++ [⟨a, m, kind l n, (l.getD n ins0).k, false⟩]), int (st + 1 : Nat), .bp (0, s0) 0, .bp (1, s1) 0, .bp (2, s2) 0]) [((6, _), .c _), ((5, _), .c _), ((4, _), .c _)] [((10, _), _), ((8, _), _)] 11 rfl rfl rfl rfl
                ⟨le_int (by rw [hv]), AVle.refl _, le_tsts rfl, le_int (wrap_one (by omega)), AVle.refl _, AVle.refl _, AVle.refl _, trivial⟩ (IH2 out' oi' nx' hj2 (by omega) (by simp; omega) (by omega) (by omega) r1 hm) (BxLe.refl _) (PmEq.refl _) rfl fun r h' hq => ?_
              obtain ⟨out2, oi2, nx2, nn2, rfl, t1, t2⟩ := hq
              rcases t2 with ⟨t2, rfl, t3⟩ | ⟨t2, rfl⟩
              all_goals (repeat ((conv=>whnf);first|refine ω0 ?_|refine ω1 ?_|refine ω2 ?_|refine ω3 ?_|refine ω4 rfl ?_|refine ω5 rfl ?_|refine ω6 ?_|refine ω7 ?_|refine ω8 ?_|refine ⟨rfl,?_⟩|refine ⟨trivial,?_⟩|refine ⟨⟨rfl,Nat.le_of_ble_eq_true rfl⟩,?_⟩|refine ⟨⟨by kernel_rfl,by kernel_rfl⟩,?_⟩|refine ⟨by decide,?_⟩|refine lit_true ?_|refine lit_false ?_))
              · exact ret_is rfl (fin _ _ _ _ _ [_, _, _] [_, _] _ t1 (.inl ⟨by simp; omega, rfl, by rw [t3, r3]; simp⟩))
              · exact ret_is rfl (fin _ _ _ _ _ [_, _, _] [_, _] _ t1 (.inr ⟨by simp; omega, rfl⟩))
            · (repeat ((conv=>whnf);first|refine ω0 ?_|refine ω1 ?_|refine ω2 ?_|refine ω3 ?_|refine ω4 rfl ?_|refine ω5 rfl ?_|refine ω6 ?_|refine ω7 ?_|refine ω8 ?_|refine ⟨rfl,?_⟩|refine ⟨trivial,?_⟩|refine ⟨⟨rfl,Nat.le_of_ble_eq_true rfl⟩,?_⟩|refine ⟨⟨by kernel_rfl,by kernel_rfl⟩,?_⟩|refine ⟨by decide,?_⟩|refine lit_true ?_|refine lit_false ?_))
              exact ret_is rfl (fin _ _ _ _ _ [_, _, _] [_, _] _ r1 (.inr ⟨by simp; omega, rfl⟩))
        · have a3 := fct_b1.1 a3
          have hv : nextP l n = (((n + 1 : Nat) : Int), -1) := by unfold nextP; rw [if_neg (by omega), if_neg (by omega), if_neg (by omega)]
          have hlt : n + 1 < l.length := q3 (by omega) (by omega) (by omega) (by omega)
          have hps : pathsF l (f + 1) n a m ts st = pathsF l f (n + 1) a (m &&& (l.getD n ins0).k) ts (st + 1) := by rw [pathsF, if_neg (by omega), if_neg (by omega), if_pos (by omega)]
          have hand : bitsI .and .u32 (m : Int) ((l.getD n ins0).k : Int) = ((m &&& (l.getD n ins0).k : Nat) : Int) := u32_and hm hkb
          have hmb : m &&& (l.getD n ins0).k < 4294967296 := Nat.lt_of_le_of_lt Nat.and_le_left hm
          rw [hps]
          (repeat ((conv=>whnf);first|refine ω0 ?_|refine ω1 ?_|refine ω2 ?_|refine ω3 ?_|refine ω4 rfl ?_|refine ω5 rfl ?_|refine ω6 ?_|refine ω7 ?_|refine ω8 ?_|refine ⟨rfl,?_⟩|refine ⟨trivial,?_⟩|refine ⟨⟨rfl,Nat.le_of_ble_eq_true rfl⟩,?_⟩|refine ⟨⟨by kernel_rfl,by kernel_rfl⟩,?_⟩|refine ⟨by decide,?_⟩|refine lit_true ?_|refine lit_false ?_))
          refine aop_callF (xs := [int (n + 1 : Nat), tA a (m &&& (l.getD n ins0).k) ki k is, tsts ts, int (st + 1 : Nat), .bp (0, s0) 0, .bp (1, s1) 0, .bp (2, s2) 0]) [((5, _), .c _), ((4, _), .c _)] [] 6 rfl rfl rfl rfl ⟨le_int (by rw [hv]), AVle.of_eq (congrArg (fun x : Int => AV.ag [int a, u32 x, int ki, u32 k, boolA is]) hand), AVle.refl _, le_int (wrap_one (by omega)), AVle.refl _, AVle.refl _, AVle.refl _, trivial⟩
            (walk_spec l hok hp s0 s1 s2 f (n + 1) a (m &&& (l.getD n ins0).k) ki k is ts (st + 1) out oi nx4 hlt (by omega) (by omega) (by omega) hout h0 hmb) (BxLe.refl _) (PmEq.refl _) rfl fun r h' hq => ?_
          obtain ⟨out', oi', nx', nn', rfl, r1, r2⟩ := hq
          rcases r2 with ⟨r2, rfl, r3⟩ | ⟨r2, rfl⟩
          all_goals (repeat ((conv=>whnf);first|refine ω0 ?_|refine ω1 ?_|refine ω2 ?_|refine ω3 ?_|refine ω4 rfl ?_|refine ω5 rfl ?_|refine ω6 ?_|refine ω7 ?_|refine ω8 ?_|refine ⟨rfl,?_⟩|refine ⟨trivial,?_⟩|refine ⟨⟨rfl,Nat.le_of_ble_eq_true rfl⟩,?_⟩|refine ⟨⟨by kernel_rfl,by kernel_rfl⟩,?_⟩|refine ⟨by decide,?_⟩|refine lit_true ?_|refine lit_false ?_))
          · exact ret_is rfl (fin _ _ _ _ _ [_, _] [] _ r1 (.inl ⟨r2, rfl, r3⟩))
          · exact ret_is rfl (fin _ _ _ _ _ [_, _] [] _ r1 (.inr ⟨r2, rfl⟩))
      · have a2 := fct_b1.1 a2
        have hv : nextP l n = (((n + 1 : Nat) : Int), -1) := by unfold nextP; rw [if_neg (by omega), if_neg (by omega), if_neg (by omega)]
        have hlt : n + 1 < l.length := q3 (by omega) (by omega) (by omega) (by omega)
        have hps : pathsF l (f + 1) n a m ts st = pathsF l f (n + 1) (l.getD n ins0).k 4294967295 ts (st + 1) := by rw [pathsF, if_neg (by omega), if_pos (by omega)]
        rw [hps]
        (repeat ((conv=>whnf);first|refine ω0 ?_|refine ω1 ?_|refine ω2 ?_|refine ω3 ?_|refine ω4 rfl ?_|refine ω5 rfl ?_|refine ω6 ?_|refine ω7 ?_|refine ω8 ?_|refine ⟨rfl,?_⟩|refine ⟨trivial,?_⟩|refine ⟨⟨rfl,Nat.le_of_ble_eq_true rfl⟩,?_⟩|refine ⟨⟨by kernel_rfl,by kernel_rfl⟩,?_⟩|refine ⟨by decide,?_⟩|refine lit_true ?_|refine lit_false ?_))
        refine aop_callF (xs := [int (n + 1 : Nat), tA (l.getD n ins0).k 4294967295 0 0 false, tsts ts, int (st + 1 : Nat), .bp (0, s0) 0, .bp (1, s1) 0, .bp (2, s2) 0]) [((5, _), .c _), ((4, _), .c _)] [] 6 rfl rfl rfl rfl ⟨le_int (by rw [hv]), AVle.of_eq (congrArg (fun x : Int => AV.ag [int x, u32 4294967295, int 0, u32 0, boolA false]) hwk), AVle.refl _, le_int (wrap_one (by omega)), AVle.refl _, AVle.refl _, AVle.refl _, trivial⟩
          (walk_spec l hok hp s0 s1 s2 f (n + 1) (l.getD n ins0).k 4294967295 0 0 false ts (st + 1) out oi nx4 hlt (by omega) (by omega) (by omega) hout h0 (by decide)) (BxLe.refl _) (PmEq.refl _) rfl fun r h' hq => ?_
        obtain ⟨out', oi', nx', nn', rfl, r1, r2⟩ := hq
        rcases r2 with ⟨r2, rfl, r3⟩ | ⟨r2, rfl⟩
        all_goals (repeat ((conv=>whnf);first|refine ω0 ?_|refine ω1 ?_|refine ω2 ?_|refine ω3 ?_|refine ω4 rfl ?_|refine ω5 rfl ?_|refine ω6 ?_|refine ω7 ?_|refine ω8 ?_|refine ⟨rfl,?_⟩|refine ⟨trivial,?_⟩|refine ⟨⟨rfl,Nat.le_of_ble_eq_true rfl⟩,?_⟩|refine ⟨⟨by kernel_rfl,by kernel_rfl⟩,?_⟩|refine ⟨by decide,?_⟩|refine lit_true ?_|refine lit_false ?_))
        · exact ret_is rfl (fin _ _ _ _ _ [_, _] [] _ r1 (.inl ⟨r2, rfl, r3⟩))
        · exact ret_is rfl (fin _ _ _ _ _ [_, _] [] _ r1 (.inr ⟨r2, rfl⟩))
    · have a1 := fct_b1.1 a1
      have hps : pathsF l (f + 1) n a m ts st = [⟨ts, st + 1, (l.getD n ins0).k⟩] := by rw [pathsF, if_pos (by omega)]
      have hw : IntKind.i64.wrap ((st : Int) + 1) = ((st + 1 : Nat) : Int) := wrap_one (by omega)
      rw [hps]
      (repeat ((conv=>whnf);first|refine ω0 ?_|refine ω2 ?_|refine ω3 ?_|refine ω4 rfl ?_|refine ω5 rfl ?_|refine ω6 ?_|refine ω7 ?_|refine ω8 ?_|refine ⟨rfl,?_⟩|refine ⟨trivial,?_⟩|refine ⟨⟨rfl,Nat.le_of_ble_eq_true rfl⟩,?_⟩|refine ⟨⟨by kernel_rfl,by kernel_rfl⟩,?_⟩|refine ⟨by decide,?_⟩|refine lit_true ?_|refine lit_false ?_))
      refine aw_mix 10 _ (fun i => match i with | 2 => true | 9 => true | _ => false) [0, 1, 3, 4, 5, 6, 2, 7, 8, 9] (by kernel_rfl) (by kernel_rfl) (HB.refl _) ?_
      (repeat ((conv=>whnf);first|refine ω0 ?_|refine ω1 ?_|refine ω2 ?_|refine ω3 ?_|refine ω4 rfl ?_|refine ω5 rfl ?_|refine ω6 ?_|refine ω7 ?_|refine ω8 ?_|refine ⟨rfl,?_⟩|refine ⟨trivial,?_⟩|refine ⟨⟨rfl,Nat.le_of_ble_eq_true rfl⟩,?_⟩|refine ⟨⟨by kernel_rfl,by kernel_rfl⟩,?_⟩|refine ⟨by decide,?_⟩|refine lit_true ?_|refine lit_false ?_))
      refine ⟨_, eff_tells (HB.refl _) rfl rfl rfl (clone_tells ts (by omega)) ⟨AVle.refl _, trivial⟩, fun r h' hr => ?_⟩
      obtain ⟨rfl, nx5, rfl⟩ := hr
      (repeat ((conv=>whnf);first|refine ω0 ?_|refine ω1 ?_|refine ω2 ?_|refine ω3 ?_|refine ω4 rfl ?_|refine ω5 rfl ?_|refine ω6 ?_|refine ω7 ?_|refine ω8 ?_|refine ⟨rfl,?_⟩|refine ⟨trivial,?_⟩|refine ⟨⟨rfl,Nat.le_of_ble_eq_true rfl⟩,?_⟩|refine ⟨⟨by kernel_rfl,by kernel_rfl⟩,?_⟩|refine ⟨by decide,?_⟩|refine lit_true ?_|refine lit_false ?_))
      refine ⟨_, eff_append1 (e := 45) (c := 3) (pm := []) (HB.refl _) rfl rfl rfl (.inr ⟨_, rfl⟩) (by kernel_rfl) (by kernel_rfl) (by kernel_rfl) (.inr rfl) (by kernel_rfl) (List.append_nil _).symm (oneRow_one rfl) (by show (out.length + 1) * 40 ≤ _; omega) (by omega), fun r h' hr => ?_⟩
      obtain ⟨rfl, rfl⟩ := hr
      (repeat ((conv=>whnf);first|refine ω0 ?_|refine ω1 ?_|refine ω2 ?_|refine ω3 ?_|refine ω4 rfl ?_|refine ω5 rfl ?_|refine ω6 ?_|refine ω7 ?_|refine ω8 ?_|refine ⟨rfl,?_⟩|refine ⟨trivial,?_⟩|refine ⟨⟨rfl,Nat.le_of_ble_eq_true rfl⟩,?_⟩|refine ⟨⟨by kernel_rfl,by kernel_rfl⟩,?_⟩|refine ⟨by decide,?_⟩|refine lit_true ?_|refine lit_false ?_))
      intro c hc
      (repeat ((conv=>whnf);first|refine ω0 ?_|refine ω1 ?_|refine ω2 ?_|refine ω3 ?_|refine ω4 rfl ?_|refine ω5 rfl ?_|refine ω6 ?_|refine ω7 ?_|refine ω8 ?_|refine ⟨rfl,?_⟩|refine ⟨trivial,?_⟩|refine ⟨⟨rfl,Nat.le_of_ble_eq_true rfl⟩,?_⟩|refine ⟨⟨by kernel_rfl,by kernel_rfl⟩,?_⟩|refine ⟨by decide,?_⟩|refine lit_true ?_|refine lit_false ?_))
      have hX : pthF (out ++ [⟨ts, st + 1, (l.getD n ins0).k⟩]) out.length = .ag [tsts ts, int (IntKind.i64.wrap ((st : Int) + 1)), u32 (l.getD n ins0).k] := by
        rw [hw]; simp [pthF, List.getD]; rfl
      refine ret_is rfl ⟨boolA c, ⟨pB s0 s1 s2 l (out ++ [⟨ts, st + 1, (l.getD n ins0).k⟩]) (some nx5), [((3, nx5), (out ++ [(⟨ts, st + 1, (l.getD n ins0).k⟩ : Pth)]).length * 3)], nx5 + 1, 6⟩, AVle.refl _,
        hle_tell _ _ rfl (.cons _ (.cons _ (List.Sublist.refl _))) (List.Sublist.refl _) ⟨rfl, OwnLe.refl _, rfl, ⟨?_, trivial⟩, rfl, OwnLe.refl _, trivial⟩ ⟨rfl, by rw [List.length_append]; rfl, trivial⟩, out ++ [⟨ts, st + 1, (l.getD n ins0).k⟩], some nx5, _, _, rfl, (fun h => by cases h), ?_⟩
      · refine AVle.trans (b := .os 3 (out.length + 1) (pthF (out ++ [⟨ts, st + 1, (l.getD n ins0).k⟩])) _) (AVle.os_fun (appF_one (fun j hj => ?_) ?_)) ?_
        · simp [pthF, List.getD, List.getElem?_append_left hj]
        · exact hX.symm
        · rw [List.length_append]; exact AVle.os_nm rfl
      · cases c
        · have := not_of hc
          exact .inr ⟨by simp; omega, rfl⟩
        · have := yes_of hc
          exact .inl ⟨by simp; omega, rfl, rfl⟩
end Go.Proofs.W

namespace Go.Proofs.W
open Go.Vl
set_option maxRecDepth 100000

def allP (l : List Ins) : List Pth × Nat := if plainB l = true then (if (pathsI l).length ≤ 4096 then (pathsI l, 0) else ([], 3)) else ([], 18)
theorem all_paths_spec (l : List Ins) (hok : okL l) (hl : l.length ≤ 1000000000) : Tells Try.prog 23 [inss l] (.tup [pths (allP l).1, int (allP l).2]) := by
  refine tells_of_aw Try.func23 rfl rfl fun nx => ?_
  (repeat ((conv=>whnf);first|refine ω0 ?_|refine ω1 ?_|refine ω2 ?_|refine ω3 ?_|refine ω4 rfl ?_|refine ω5 rfl ?_|refine ω6 ?_|refine ω7 ?_|refine ω8 ?_|refine ⟨rfl,?_⟩|refine ⟨trivial,?_⟩|refine ⟨⟨rfl,Nat.le_of_ble_eq_true rfl⟩,?_⟩|refine ⟨⟨by kernel_rfl,by kernel_rfl⟩,?_⟩|refine ⟨by decide,?_⟩|refine lit_true ?_|refine lit_false ?_))
  refine aop_tells rfl rfl (plain_spec l hok hl) ⟨AVle.refl _, trivial⟩ fun nx1 => ?_
  (repeat ((conv=>whnf);first|refine ω0 ?_|refine ω1 ?_|refine ω2 ?_|refine ω3 ?_|refine ω4 rfl ?_|refine ω5 rfl ?_|refine ω6 ?_|refine ω7 ?_|refine ω8 ?_|refine ⟨rfl,?_⟩|refine ⟨trivial,?_⟩|refine ⟨⟨rfl,Nat.le_of_ble_eq_true rfl⟩,?_⟩|refine ⟨⟨by kernel_rfl,by kernel_rfl⟩,?_⟩|refine ⟨by decide,?_⟩|refine lit_true ?_|refine lit_false ?_))
  intro c hc
  (repeat ((conv=>whnf);first|refine ω0 ?_|refine ω1 ?_|refine ω2 ?_|refine ω3 ?_|refine ω4 rfl ?_|refine ω5 rfl ?_|refine ω6 ?_|refine ω7 ?_|refine ω8 ?_|refine ⟨rfl,?_⟩|refine ⟨trivial,?_⟩|refine ⟨⟨rfl,Nat.le_of_ble_eq_true rfl⟩,?_⟩|refine ⟨⟨by kernel_rfl,by kernel_rfl⟩,?_⟩|refine ⟨by decide,?_⟩|refine lit_true ?_|refine lit_false ?_))
  cases c
  · have hv : allP l = ([], 18) := by unfold allP; rw [← hc]; rfl
    rw [hv]
    (repeat ((conv=>whnf);first|refine ω0 ?_|refine ω1 ?_|refine ω2 ?_|refine ω3 ?_|refine ω4 rfl ?_|refine ω5 rfl ?_|refine ω6 ?_|refine ω7 ?_|refine ω8 ?_|refine ⟨rfl,?_⟩|refine ⟨trivial,?_⟩|refine ⟨⟨rfl,Nat.le_of_ble_eq_true rfl⟩,?_⟩|refine ⟨⟨by kernel_rfl,by kernel_rfl⟩,?_⟩|refine ⟨by decide,?_⟩|refine lit_true ?_|refine lit_false ?_))
    exact ret_tells rfl (AVle.tups (cs := [_, _]) ⟨AVle.os_sl0, AVle.refl _, trivial⟩)
  · have hp := plainB_iff.1 hc.symm
    have hle := hp.formed.le
    have hpos := hp.formed.pos
    (repeat ((conv=>whnf);first|refine ω0 ?_|refine ω1 ?_|refine ω2 ?_|refine ω3 ?_|refine ω4 rfl ?_|refine ω5 rfl ?_|refine ω6 ?_|refine ω7 ?_|refine ω8 ?_|refine ⟨rfl,?_⟩|refine ⟨trivial,?_⟩|refine ⟨⟨rfl,Nat.le_of_ble_eq_true rfl⟩,?_⟩|refine ⟨⟨by kernel_rfl,by kernel_rfl⟩,?_⟩|refine ⟨by decide,?_⟩|refine lit_true ?_|refine lit_false ?_))
    refine aop_callF (h1 := ⟨pB nx nx1 (nx1 + 1) l [] none, [], nx1 + 2, 4⟩) (xs := [int (0 : Nat), tA 0 0 0 0 false, tsts [], int (0 : Nat), .bp (0, nx) 0, .bp (1, nx1) 0, .bp (2, nx1 + 1) 0]) [] [] 3 rfl rfl rfl rfl
      ⟨AVle.refl _, AVle.refl _, AVle.os_sl0, AVle.refl _, AVle.refl _, AVle.refl _, AVle.refl _, trivial⟩ (walk_spec l hok hp nx nx1 (nx1 + 1) l.length 0 0 0 0 0 false [] 0 [] none (nx1 + 2) hpos (by omega) (by simp) (by omega) (by simp) (fun _ => rfl) (by decide))
      ⟨rfl, OwnLe.refl _, rfl, ⟨AVle.os_nil, trivial⟩, rfl, OwnLe.refl _, trivial⟩ trivial rfl fun r h' hq => ?_
    obtain ⟨out', oi', nx', nn', rfl, r1, r2⟩ := hq
    rcases r2 with ⟨r2, rfl, r3⟩ | ⟨r2, rfl⟩
    · have hv : allP l = (pathsI l, 0) := by
        unfold allP; rw [← hc, if_pos rfl, if_pos (by unfold pathsI; simpa using r2)]
      rw [hv]
      (repeat ((conv=>whnf);first|refine ω0 ?_|refine ω1 ?_|refine ω2 ?_|refine ω3 ?_|refine ω4 rfl ?_|refine ω5 rfl ?_|refine ω6 ?_|refine ω7 ?_|refine ω8 ?_|refine ⟨rfl,?_⟩|refine ⟨trivial,?_⟩|refine ⟨⟨rfl,Nat.le_of_ble_eq_true rfl⟩,?_⟩|refine ⟨⟨by kernel_rfl,by kernel_rfl⟩,?_⟩|refine ⟨by decide,?_⟩|refine lit_true ?_|refine lit_false ?_))
      refine ret_tells rfl (AVle.tups (cs := [_, _]) ⟨?_, AVle.refl _, trivial⟩)
      rw [List.nil_append] at r3
      rw [r3]
      exact AVle.os_sl
    · have hv : allP l = ([], 3) := by
        unfold allP; rw [← hc, if_pos rfl, if_neg (by simp at r2; unfold pathsI; omega)]
      rw [hv]
      (repeat ((conv=>whnf);first|refine ω0 ?_|refine ω1 ?_|refine ω2 ?_|refine ω3 ?_|refine ω4 rfl ?_|refine ω5 rfl ?_|refine ω6 ?_|refine ω7 ?_|refine ω8 ?_|refine ⟨rfl,?_⟩|refine ⟨trivial,?_⟩|refine ⟨⟨rfl,Nat.le_of_ble_eq_true rfl⟩,?_⟩|refine ⟨⟨by kernel_rfl,by kernel_rfl⟩,?_⟩|refine ⟨by decide,?_⟩|refine lit_true ?_|refine lit_false ?_))
      exact ret_tells rfl (AVle.tups (cs := [_, _]) ⟨AVle.os_sl0, AVle.refl _, trivial⟩)
end Go.Proofs.W

namespace Go.Proofs.W
open Go.Vl
set_option maxRecDepth 100000

/-- A test whose place and kind are any numbers. -/
structure TstZ where
  at' : Int
  mask : Nat
  kind : Int
  k : Nat
  is : Bool
def tz0 : TstZ := ⟨0, 0, 0, 0, false⟩
def tzA (t : TstZ) : AV := .ag [int t.at', u32 t.mask, int t.kind, u32 t.k, boolA t.is]
def tzF (l : List TstZ) (k : Nat) : AV := tzA (l.getD k tz0)
def tzs (l : List TstZ) : AV := slOf 5 tzA tz0 l
def TstZ.ok (t : TstZ) : Prop := okI t.at' ∧ t.mask < 4294967296 ∧ okI t.kind ∧ t.k < 4294967296
def isZ (t : TstZ) (n : Nat) : Bool :=
  if t.kind = 25 then decide (n &&& t.mask = t.k) else if t.kind = 26 then decide (n &&& t.mask > t.k) else if t.kind = 27 then decide (n &&& t.mask ≥ t.k) else decide (n &&& t.mask &&& t.k ≠ 0)
theorem is_spec (t : TstZ) (n : Nat) (ht : t.ok) (hn : n < 4294967296) : Tells Try.prog 62 [tzA t, u32 n] (boolA (isZ t n)) := by
  obtain ⟨h1, h2, h3, h4⟩ := ht
  have hand : bitsI .and .u32 (n : Int) (t.mask : Int) = ((n &&& t.mask : Nat) : Int) := u32_and hn h2
  have hlt : n &&& t.mask < 4294967296 := Nat.lt_of_le_of_lt Nat.and_le_left hn
  have hand2 : bitsI .and .u32 ((n &&& t.mask : Nat) : Int) (t.k : Int) = ((n &&& t.mask &&& t.k : Nat) : Int) := u32_and hlt h4
  refine tells_of_aw Try.func62 rfl rfl fun nx => ?_
  (repeat ((conv=>whnf);first|refine ω0 ?_|refine ω1 ?_|refine ω2 ?_|refine ω3 ?_|refine ω4 rfl ?_|refine ω5 rfl ?_|refine ω6 ?_|refine ω7 ?_|refine ω8 ?_|refine ⟨rfl,?_⟩|refine ⟨trivial,?_⟩|refine ⟨⟨rfl,Nat.le_of_ble_eq_true rfl⟩,?_⟩|refine ⟨⟨by kernel_rfl,by kernel_rfl⟩,?_⟩|refine ⟨by decide,?_⟩|refine lit_true ?_|refine lit_false ?_))
  intro c a1; cases c
  · have a1 := fct_b0.1 a1
    (repeat ((conv=>whnf);first|refine ω0 ?_|refine ω1 ?_|refine ω2 ?_|refine ω3 ?_|refine ω4 rfl ?_|refine ω5 rfl ?_|refine ω6 ?_|refine ω7 ?_|refine ω8 ?_|refine ⟨rfl,?_⟩|refine ⟨trivial,?_⟩|refine ⟨⟨rfl,Nat.le_of_ble_eq_true rfl⟩,?_⟩|refine ⟨⟨by kernel_rfl,by kernel_rfl⟩,?_⟩|refine ⟨by decide,?_⟩|refine lit_true ?_|refine lit_false ?_))
    intro c a2; cases c
    · have a2 := fct_b0.1 a2
      (repeat ((conv=>whnf);first|refine ω0 ?_|refine ω1 ?_|refine ω2 ?_|refine ω3 ?_|refine ω4 rfl ?_|refine ω5 rfl ?_|refine ω6 ?_|refine ω7 ?_|refine ω8 ?_|refine ⟨rfl,?_⟩|refine ⟨trivial,?_⟩|refine ⟨⟨rfl,Nat.le_of_ble_eq_true rfl⟩,?_⟩|refine ⟨⟨by kernel_rfl,by kernel_rfl⟩,?_⟩|refine ⟨by decide,?_⟩|refine lit_true ?_|refine lit_false ?_))
      intro c a3; cases c
      · have a3 := fct_b0.1 a3
        (repeat ((conv=>whnf);first|refine ω0 ?_|refine ω1 ?_|refine ω2 ?_|refine ω3 ?_|refine ω4 rfl ?_|refine ω5 rfl ?_|refine ω6 ?_|refine ω7 ?_|refine ω8 ?_|refine ⟨rfl,?_⟩|refine ⟨trivial,?_⟩|refine ⟨⟨rfl,Nat.le_of_ble_eq_true rfl⟩,?_⟩|refine ⟨⟨by kernel_rfl,by kernel_rfl⟩,?_⟩|refine ⟨by decide,?_⟩|refine lit_true ?_|refine lit_false ?_))
        intro c hc
        rw [hand, hand2] at hc
        (repeat ((conv=>whnf);first|refine ω0 ?_|refine ω1 ?_|refine ω2 ?_|refine ω3 ?_|refine ω4 rfl ?_|refine ω5 rfl ?_|refine ω6 ?_|refine ω7 ?_|refine ω8 ?_|refine ⟨rfl,?_⟩|refine ⟨trivial,?_⟩|refine ⟨⟨rfl,Nat.le_of_ble_eq_true rfl⟩,?_⟩|refine ⟨⟨by kernel_rfl,by kernel_rfl⟩,?_⟩|refine ⟨by decide,?_⟩|refine lit_true ?_|refine lit_false ?_))
        refine ret_tells rfl (le_bool (hc.trans ?_))
        unfold isZ; rw [if_neg a1, if_neg a2, if_neg a3, Bool.eq_iff_iff]
        simp
      · have a3 := fct_b1.1 a3
        (repeat ((conv=>whnf);first|refine ω0 ?_|refine ω1 ?_|refine ω2 ?_|refine ω3 ?_|refine ω4 rfl ?_|refine ω5 rfl ?_|refine ω6 ?_|refine ω7 ?_|refine ω8 ?_|refine ⟨rfl,?_⟩|refine ⟨trivial,?_⟩|refine ⟨⟨rfl,Nat.le_of_ble_eq_true rfl⟩,?_⟩|refine ⟨⟨by kernel_rfl,by kernel_rfl⟩,?_⟩|refine ⟨by decide,?_⟩|refine lit_true ?_|refine lit_false ?_))
        intro c hc
        rw [hand] at hc
        (repeat ((conv=>whnf);first|refine ω0 ?_|refine ω1 ?_|refine ω2 ?_|refine ω3 ?_|refine ω4 rfl ?_|refine ω5 rfl ?_|refine ω6 ?_|refine ω7 ?_|refine ω8 ?_|refine ⟨rfl,?_⟩|refine ⟨trivial,?_⟩|refine ⟨⟨rfl,Nat.le_of_ble_eq_true rfl⟩,?_⟩|refine ⟨⟨by kernel_rfl,by kernel_rfl⟩,?_⟩|refine ⟨by decide,?_⟩|refine lit_true ?_|refine lit_false ?_))
        refine ret_tells rfl (le_bool (hc.trans ?_))
        unfold isZ; rw [if_neg a1, if_neg a2, if_pos a3, Bool.eq_iff_iff]
        simp
    · have a2 := fct_b1.1 a2
      (repeat ((conv=>whnf);first|refine ω0 ?_|refine ω1 ?_|refine ω2 ?_|refine ω3 ?_|refine ω4 rfl ?_|refine ω5 rfl ?_|refine ω6 ?_|refine ω7 ?_|refine ω8 ?_|refine ⟨rfl,?_⟩|refine ⟨trivial,?_⟩|refine ⟨⟨rfl,Nat.le_of_ble_eq_true rfl⟩,?_⟩|refine ⟨⟨by kernel_rfl,by kernel_rfl⟩,?_⟩|refine ⟨by decide,?_⟩|refine lit_true ?_|refine lit_false ?_))
      intro c hc
      rw [hand] at hc
      (repeat ((conv=>whnf);first|refine ω0 ?_|refine ω1 ?_|refine ω2 ?_|refine ω3 ?_|refine ω4 rfl ?_|refine ω5 rfl ?_|refine ω6 ?_|refine ω7 ?_|refine ω8 ?_|refine ⟨rfl,?_⟩|refine ⟨trivial,?_⟩|refine ⟨⟨rfl,Nat.le_of_ble_eq_true rfl⟩,?_⟩|refine ⟨⟨by kernel_rfl,by kernel_rfl⟩,?_⟩|refine ⟨by decide,?_⟩|refine lit_true ?_|refine lit_false ?_))
      refine ret_tells rfl (le_bool (hc.trans ?_))
      unfold isZ; rw [if_neg a1, if_pos a2, Bool.eq_iff_iff]
      simp
  · have a1 := fct_b1.1 a1
    (repeat ((conv=>whnf);first|refine ω0 ?_|refine ω1 ?_|refine ω2 ?_|refine ω3 ?_|refine ω4 rfl ?_|refine ω5 rfl ?_|refine ω6 ?_|refine ω7 ?_|refine ω8 ?_|refine ⟨rfl,?_⟩|refine ⟨trivial,?_⟩|refine ⟨⟨rfl,Nat.le_of_ble_eq_true rfl⟩,?_⟩|refine ⟨⟨by kernel_rfl,by kernel_rfl⟩,?_⟩|refine ⟨by decide,?_⟩|refine lit_true ?_|refine lit_false ?_))
    intro c hc
    rw [hand] at hc
    (repeat ((conv=>whnf);first|refine ω0 ?_|refine ω1 ?_|refine ω2 ?_|refine ω3 ?_|refine ω4 rfl ?_|refine ω5 rfl ?_|refine ω6 ?_|refine ω7 ?_|refine ω8 ?_|refine ⟨rfl,?_⟩|refine ⟨trivial,?_⟩|refine ⟨⟨rfl,Nat.le_of_ble_eq_true rfl⟩,?_⟩|refine ⟨⟨by kernel_rfl,by kernel_rfl⟩,?_⟩|refine ⟨by decide,?_⟩|refine lit_true ?_|refine lit_false ?_))
    refine ret_tells rfl (le_bool (hc.trans ?_))
    unfold isZ; rw [if_pos a1, Bool.eq_iff_iff]
    simp; omega
def wordB (b : List Nat) (at' : Int) : Nat := accB b (placesI at'.toNat 4 false)
theorem wordB_lt {b : List Nat} (hb : okB b) (at' : Int) : wordB b at' < 4294967296 := by
  have := accB_lt hb (placesI at'.toNat 4 false)
  rw [placesI_length] at this
  exact this
def oneT (b : List Nat) (t : TstZ) : Bool := decide (0 ≤ t.at' ∧ t.at' ≤ 60 ∧ 25 ≤ t.kind ∧ t.kind ≤ 28) && isZ t (wordB b t.at') == t.is
def takenZ (ts : List TstZ) (b : List Nat) : Bool := decide (b.length = 64) && (ts.all (oneT b))
theorem all_take {α : Type} {p : α → Bool} {l : List α} {i : Nat} (d : α) (hi : i < l.length) : (l.take (i + 1)).all p = ((l.take i).all p && p (l.getD i d)) := by
  rw [take_getD d hi, List.all_append]; simp
theorem all_fail {α : Type} {p : α → Bool} {l : List α} {i : Nat} (d : α) (hi : i < l.length) (h : p (l.getD i d) = false) : l.all p = false := by
  cases hb : l.all p with
  | false => rfl
  | true =>
    have hm : l.getD i d ∈ l := by simp [List.getD, hi]
    rw [List.all_eq_true] at hb
    rw [hb _ hm] at h; cases h
theorem taken_spec (ts : List TstZ) (st v : Int) (b : List Nat) (hts : ∀ t ∈ ts, t.ok) (hl : ts.length ≤ 1000000) (hb : okB b) (hbl : b.length ≤ 1000000) : Tells Try.prog 31 [.ag [tzs ts, int st, u32 v], bytesA b] (boolA (takenZ ts b)) := by
  refine tells_of_aw Try.func31 rfl rfl fun nx => ?_
  (repeat ((conv=>whnf);first|refine ω0 ?_|refine ω1 ?_|refine ω2 ?_|refine ω3 ?_|refine ω4 rfl ?_|refine ω5 rfl ?_|refine ω6 ?_|refine ω7 ?_|refine ω8 ?_|refine ⟨rfl,?_⟩|refine ⟨trivial,?_⟩|refine ⟨⟨rfl,Nat.le_of_ble_eq_true rfl⟩,?_⟩|refine ⟨⟨by kernel_rfl,by kernel_rfl⟩,?_⟩|refine ⟨by decide,?_⟩|refine lit_true ?_|refine lit_false ?_))
  intro c g; cases c
  rotate_left
  · have g := bne_yes g
    (repeat ((conv=>whnf);first|refine ω0 ?_|refine ω1 ?_|refine ω2 ?_|refine ω3 ?_|refine ω4 rfl ?_|refine ω5 rfl ?_|refine ω6 ?_|refine ω7 ?_|refine ω8 ?_|refine ⟨rfl,?_⟩|refine ⟨trivial,?_⟩|refine ⟨⟨rfl,Nat.le_of_ble_eq_true rfl⟩,?_⟩|refine ⟨⟨by kernel_rfl,by kernel_rfl⟩,?_⟩|refine ⟨by decide,?_⟩|refine lit_true ?_|refine lit_false ?_))
    refine ret_tells rfl (le_bool ?_)
    unfold takenZ; rw [decide_eq_false (by omega)]; rfl
  have g := bne_no g
  have h64 : b.length = 64 := by omega
  have hd : takenZ ts b = ts.all (oneT b) := by unfold takenZ; rw [decide_eq_true h64]; rfl
  rw [hd]
  (repeat ((conv=>whnf);first|refine ω0 ?_|refine ω1 ?_|refine ω2 ?_|refine ω3 ?_|refine ω4 rfl ?_|refine ω5 rfl ?_|refine ω6 ?_|refine ω7 ?_|refine ω8 ?_|refine ⟨rfl,?_⟩|refine ⟨trivial,?_⟩|refine ⟨⟨rfl,Nat.le_of_ble_eq_true rfl⟩,?_⟩|refine ⟨⟨by kernel_rfl,by kernel_rfl⟩,?_⟩|refine ⟨by decide,?_⟩|refine lit_true ?_|refine lit_false ?_))
  refine aw_loop (fun s : Nat × Nat => mk 48 [(1, bytesA b), (13, tzs ts), (14, int ts.length), (15, int s.1)] ⟨[], [], s.2, 1⟩) (fun s => s.1 ≤ ts.length ∧ (ts.take s.1).all (oneT b) = true) (fun s => ts.length - s.1) ?_ ?_
  · exact ⟨(0, _), ⟨by dsimp only; omega, by simp⟩, ele_keep rfl rfl (List.nil_sublist _) (List.nil_sublist _) ⟨AVle.refl _, AVle.refl _, AVle.refl _, AVle.refl _, trivial⟩⟩
  · rintro ⟨i, nx1⟩ ⟨h1, h2⟩
    dsimp only at h1 h2
    (repeat ((conv=>whnf);first|refine ω0 ?_|refine ω1 ?_|refine ω2 ?_|refine ω3 ?_|refine ω4 rfl ?_|refine ω5 rfl ?_|refine ω6 ?_|refine ω7 ?_|refine ω8 ?_|refine ⟨rfl,?_⟩|refine ⟨trivial,?_⟩|refine ⟨⟨rfl,Nat.le_of_ble_eq_true rfl⟩,?_⟩|refine ⟨⟨by kernel_rfl,by kernel_rfl⟩,?_⟩|refine ⟨by decide,?_⟩|refine lit_true ?_|refine lit_false ?_))
    intro c g2; cases c
    · have g2 := not_of g2
      dsimp only at g2
      (repeat ((conv=>whnf);first|refine ω0 ?_|refine ω1 ?_|refine ω2 ?_|refine ω3 ?_|refine ω4 rfl ?_|refine ω5 rfl ?_|refine ω6 ?_|refine ω7 ?_|refine ω8 ?_|refine ⟨rfl,?_⟩|refine ⟨trivial,?_⟩|refine ⟨⟨rfl,Nat.le_of_ble_eq_true rfl⟩,?_⟩|refine ⟨⟨by kernel_rfl,by kernel_rfl⟩,?_⟩|refine ⟨by decide,?_⟩|refine lit_true ?_|refine lit_false ?_))
      refine ret_tells rfl (le_bool ?_)
      rw [List.take_of_length_le (by omega)] at h2
      exact h2.symm
    · have g2 := yes_of g2
      dsimp only at g2
      have hi : i < ts.length := by omega
      have ht : (ts.getD i tz0).ok := hts _ (by simp [List.getD, hi])
      have hsucc := all_take (p := oneT b) tz0 hi
      have hfail := all_fail (p := oneT b) tz0 hi
      generalize hT : ts.getD i tz0 = t at ht hsucc hfail
      have hw := wordB_lt hb t.at'
      (repeat ((conv=>whnf);first|refine ω0 ?_|refine ω1 ?_|refine ω2 ?_|refine ω3 ?_|refine ω4 rfl ?_|refine ω5 rfl ?_|refine ω6 ?_|refine ω7 ?_|refine ω8 ?_|refine ⟨rfl,?_⟩|refine ⟨trivial,?_⟩|refine ⟨⟨rfl,Nat.le_of_ble_eq_true rfl⟩,?_⟩|refine ⟨⟨by kernel_rfl,by kernel_rfl⟩,?_⟩|refine ⟨by decide,?_⟩|refine lit_true ?_|refine lit_false ?_))
      refine ⟨⟨by first | omega | (dsimp only; omega), by first | omega | (dsimp only; omega)⟩, ?_⟩
      (repeat ((conv=>whnf);first|refine ω0 ?_|refine ω1 ?_|refine ω2 ?_|refine ω3 ?_|refine ω4 rfl ?_|refine ω5 rfl ?_|refine ω6 ?_|refine ω7 ?_|refine ω8 ?_|refine ⟨rfl,?_⟩|refine ⟨trivial,?_⟩|refine ⟨⟨rfl,Nat.le_of_ble_eq_true rfl⟩,?_⟩|refine ⟨⟨by kernel_rfl,by kernel_rfl⟩,?_⟩|refine ⟨by decide,?_⟩|refine lit_true ?_|refine lit_false ?_))
      have hg := get_spec b hb (by omega) t.at' ht.1 4 (.inr (.inr (.inl rfl))) false
      refine aop_tells rfl rfl hg ⟨AVle.refl _, le_int (by rw [← hT]; rfl), AVle.refl _, AVle.refl _, trivial⟩ fun nx3 => ?_
      (repeat ((conv=>whnf);first|refine ω0 ?_|refine ω1 ?_|refine ω2 ?_|refine ω3 ?_|refine ω4 rfl ?_|refine ω5 rfl ?_|refine ω6 ?_|refine ω7 ?_|refine ω8 ?_|refine ⟨rfl,?_⟩|refine ⟨trivial,?_⟩|refine ⟨⟨rfl,Nat.le_of_ble_eq_true rfl⟩,?_⟩|refine ⟨⟨by kernel_rfl,by kernel_rfl⟩,?_⟩|refine ⟨by decide,?_⟩|refine lit_true ?_|refine lit_false ?_))
      (refine aw_draw 21 ?_ ?_ ?_ ?_; (· kernel_rfl); (· kernel_rfl); (· kernel_rfl))
      (repeat ((conv=>whnf);first|refine ω0 ?_|refine ω1 ?_|refine ω2 ?_|refine ω3 ?_|refine ω4 rfl ?_|refine ω5 rfl ?_|refine ω6 ?_|refine ω7 ?_|refine ω8 ?_|refine ⟨rfl,?_⟩|refine ⟨trivial,?_⟩|refine ⟨⟨rfl,Nat.le_of_ble_eq_true rfl⟩,?_⟩|refine ⟨⟨by kernel_rfl,by kernel_rfl⟩,?_⟩|refine ⟨by decide,?_⟩|refine lit_true ?_|refine lit_false ?_))
      intro c e1; cases c
      · have e1 := bne_no e1
        have hz : thereI b.length t.at' 4 = 0 := by omega
        have hat : 0 ≤ t.at' ∧ t.at' + 4 ≤ b.length := by unfold thereI at hz; split at hz <;> omega
        (repeat ((conv=>whnf);first|refine ω0 ?_|refine ω1 ?_|refine ω2 ?_|refine ω3 ?_|refine ω4 rfl ?_|refine ω5 rfl ?_|refine ω6 ?_|refine ω7 ?_|refine ω8 ?_|refine ⟨rfl,?_⟩|refine ⟨trivial,?_⟩|refine ⟨⟨rfl,Nat.le_of_ble_eq_true rfl⟩,?_⟩|refine ⟨⟨by kernel_rfl,by kernel_rfl⟩,?_⟩|refine ⟨by decide,?_⟩|refine lit_true ?_|refine lit_false ?_))
        intro c e2; cases c
        · have e2 := not_of e2
          (repeat ((conv=>whnf);first|refine ω0 ?_|refine ω1 ?_|refine ω2 ?_|refine ω3 ?_|refine ω4 rfl ?_|refine ω5 rfl ?_|refine ω6 ?_|refine ω7 ?_|refine ω8 ?_|refine ⟨rfl,?_⟩|refine ⟨trivial,?_⟩|refine ⟨⟨rfl,Nat.le_of_ble_eq_true rfl⟩,?_⟩|refine ⟨⟨by kernel_rfl,by kernel_rfl⟩,?_⟩|refine ⟨by decide,?_⟩|refine lit_true ?_|refine lit_false ?_))
          intro c e3; cases c
          · have e3 := not_of e3
            (repeat ((conv=>whnf);first|refine ω0 ?_|refine ω1 ?_|refine ω2 ?_|refine ω3 ?_|refine ω4 rfl ?_|refine ω5 rfl ?_|refine ω6 ?_|refine ω7 ?_|refine ω8 ?_|refine ⟨rfl,?_⟩|refine ⟨trivial,?_⟩|refine ⟨⟨rfl,Nat.le_of_ble_eq_true rfl⟩,?_⟩|refine ⟨⟨by kernel_rfl,by kernel_rfl⟩,?_⟩|refine ⟨by decide,?_⟩|refine lit_true ?_|refine lit_false ?_))
            refine ex_yields (yields_tells rfl rfl (is_spec t (wordB b t.at') ht hw) ⟨AVle.of_eq (by rw [← hT]; rfl), le_int ?_, trivial⟩ (NoId.v _)) ?_
            · rw [if_pos hz]
              show ((wordB b t.at' : Nat) : Int) % 4294967296 = _
              omega
            (repeat ((conv=>whnf);first|refine ω0 ?_|refine ω1 ?_|refine ω2 ?_|refine ω3 ?_|refine ω4 rfl ?_|refine ω5 rfl ?_|refine ω6 ?_|refine ω7 ?_|refine ω8 ?_|refine ⟨rfl,?_⟩|refine ⟨trivial,?_⟩|refine ⟨⟨rfl,Nat.le_of_ble_eq_true rfl⟩,?_⟩|refine ⟨⟨by kernel_rfl,by kernel_rfl⟩,?_⟩|refine ⟨by decide,?_⟩|refine lit_true ?_|refine lit_false ?_))
            intro c hc
            (repeat ((conv=>whnf);first|refine ω0 ?_|refine ω1 ?_|refine ω2 ?_|refine ω3 ?_|refine ω4 rfl ?_|refine ω5 rfl ?_|refine ω6 ?_|refine ω7 ?_|refine ω8 ?_|refine ⟨rfl,?_⟩|refine ⟨trivial,?_⟩|refine ⟨⟨rfl,Nat.le_of_ble_eq_true rfl⟩,?_⟩|refine ⟨⟨by kernel_rfl,by kernel_rfl⟩,?_⟩|refine ⟨by decide,?_⟩|refine lit_true ?_|refine lit_false ?_))
            intro d0 hd0
            (repeat ((conv=>whnf);first|refine ω0 ?_|refine ω1 ?_|refine ω2 ?_|refine ω3 ?_|refine ω4 rfl ?_|refine ω5 rfl ?_|refine ω6 ?_|refine ω7 ?_|refine ω8 ?_|refine ⟨rfl,?_⟩|refine ⟨trivial,?_⟩|refine ⟨⟨rfl,Nat.le_of_ble_eq_true rfl⟩,?_⟩|refine ⟨⟨by kernel_rfl,by kernel_rfl⟩,?_⟩|refine ⟨by decide,?_⟩|refine lit_true ?_|refine lit_false ?_))
            intro d hd
            have e2 : ¬ t.kind < 25 := by rw [← hT]; exact e2
            have e3 : ¬ t.kind > 28 := by rw [← hT]; exact e3
            have hone : oneT b t = (isZ t (wordB b t.at') == t.is) := by unfold oneT; rw [decide_eq_true ⟨by omega, by omega, by omega, by omega⟩]; rfl
            have hd2 : d = !(isZ t (wordB b t.at') == t.is) := by rw [hd, hc, hd0, ← hT]; rfl
            cases d
            · (repeat ((conv=>whnf);first|refine ω0 ?_|refine ω1 ?_|refine ω2 ?_|refine ω3 ?_|refine ω4 rfl ?_|refine ω5 rfl ?_|refine ω6 ?_|refine ω7 ?_|refine ω8 ?_|refine ⟨rfl,?_⟩|refine ⟨trivial,?_⟩|refine ⟨⟨rfl,Nat.le_of_ble_eq_true rfl⟩,?_⟩|refine ⟨⟨by kernel_rfl,by kernel_rfl⟩,?_⟩|refine ⟨by decide,?_⟩|refine lit_true ?_|refine lit_false ?_))
              refine back (i + 1, _) ⟨by dsimp only; omega, ?_⟩ (by dsimp only; omega) (ele_keep rfl rfl (List.nil_sublist _) (List.nil_sublist _) ⟨AVle.refl _, AVle.refl _, AVle.refl _, le_int (wrap_succ (by dsimp only; omega)), trivial⟩)
              rw [hsucc, h2, hone]
              simpa using hd2.symm
            · (repeat ((conv=>whnf);first|refine ω0 ?_|refine ω1 ?_|refine ω2 ?_|refine ω3 ?_|refine ω4 rfl ?_|refine ω5 rfl ?_|refine ω6 ?_|refine ω7 ?_|refine ω8 ?_|refine ⟨rfl,?_⟩|refine ⟨trivial,?_⟩|refine ⟨⟨rfl,Nat.le_of_ble_eq_true rfl⟩,?_⟩|refine ⟨⟨by kernel_rfl,by kernel_rfl⟩,?_⟩|refine ⟨by decide,?_⟩|refine lit_true ?_|refine lit_false ?_))
              refine ret_tells rfl (le_bool ?_)
              rw [hfail (by rw [hone]; simpa using hd2.symm)]
          · have e3 := yes_of e3
            have e3 : t.kind > 28 := by rw [← hT]; exact e3
            (repeat ((conv=>whnf);first|refine ω0 ?_|refine ω1 ?_|refine ω2 ?_|refine ω3 ?_|refine ω4 rfl ?_|refine ω5 rfl ?_|refine ω6 ?_|refine ω7 ?_|refine ω8 ?_|refine ⟨rfl,?_⟩|refine ⟨trivial,?_⟩|refine ⟨⟨rfl,Nat.le_of_ble_eq_true rfl⟩,?_⟩|refine ⟨⟨by kernel_rfl,by kernel_rfl⟩,?_⟩|refine ⟨by decide,?_⟩|refine lit_true ?_|refine lit_false ?_))
            refine ret_tells rfl (le_bool ?_)
            rw [hfail (by unfold oneT; rw [decide_eq_false (by omega)]; rfl)]
        · have e2 := yes_of e2
          have e2 : t.kind < 25 := by rw [← hT]; exact e2
          (repeat ((conv=>whnf);first|refine ω0 ?_|refine ω1 ?_|refine ω2 ?_|refine ω3 ?_|refine ω4 rfl ?_|refine ω5 rfl ?_|refine ω6 ?_|refine ω7 ?_|refine ω8 ?_|refine ⟨rfl,?_⟩|refine ⟨trivial,?_⟩|refine ⟨⟨rfl,Nat.le_of_ble_eq_true rfl⟩,?_⟩|refine ⟨⟨by kernel_rfl,by kernel_rfl⟩,?_⟩|refine ⟨by decide,?_⟩|refine lit_true ?_|refine lit_false ?_))
          refine ret_tells rfl (le_bool ?_)
          rw [hfail (by unfold oneT; rw [decide_eq_false (by omega)]; rfl)]
      · have e1 := bne_yes e1
        have hat : ¬ (0 ≤ t.at' ∧ t.at' + 4 ≤ b.length) := by
          intro h
          apply e1
          unfold thereI; rw [if_pos (by omega)]; rfl
        (repeat ((conv=>whnf);first|refine ω0 ?_|refine ω1 ?_|refine ω2 ?_|refine ω3 ?_|refine ω4 rfl ?_|refine ω5 rfl ?_|refine ω6 ?_|refine ω7 ?_|refine ω8 ?_|refine ⟨rfl,?_⟩|refine ⟨trivial,?_⟩|refine ⟨⟨rfl,Nat.le_of_ble_eq_true rfl⟩,?_⟩|refine ⟨⟨by kernel_rfl,by kernel_rfl⟩,?_⟩|refine ⟨by decide,?_⟩|refine lit_true ?_|refine lit_false ?_))
        refine ret_tells rfl (le_bool ?_)
        rw [hfail (by unfold oneT; rw [decide_eq_false (by omega)]; rfl)]

/-- From the last byte on. -/
theorem refnum_spec (b : List Nat) (hb : okB b) (hl : b.length ≤ 8) : Tells Try.prog 86 [bytesA b] (u64 (accB b (placesI 0 b.length false) : Nat)) := by
  refine tells_of_aw Try.func86 rfl rfl fun nx => ?_
  (repeat ((conv=>whnf);first|refine ω0 ?_|refine ω1 ?_|refine ω2 ?_|refine ω3 ?_|refine ω4 rfl ?_|refine ω5 rfl ?_|refine ω6 ?_|refine ω7 ?_|refine ω8 ?_|refine ⟨rfl,?_⟩|refine ⟨trivial,?_⟩|refine ⟨⟨rfl,Nat.le_of_ble_eq_true rfl⟩,?_⟩|refine ⟨⟨by kernel_rfl,by kernel_rfl⟩,?_⟩|refine ⟨by decide,?_⟩|refine lit_true ?_|refine lit_false ?_))
  have hle : ∀ i, i ≤ b.length → ∀ n : Nat, (int ((b.length : Int) - 1 - i)) = int ((b.length : Int) - 1 - i) := fun _ _ _ => rfl
  refine aw_loop (fun i : Nat => mk 21 [(0, bytesA b), (3, u64 (accB b ((placesI 0 b.length false).take i) : Nat)), (4, int ((b.length : Int) - 1 - i))] ⟨[], [], nx, 0⟩) (fun i => i ≤ b.length) (fun i => b.length - i) ?_ ?_
  · exact ⟨0, by omega, ele_mk rfl rfl ⟨AVle.refl _, AVle.refl _, le_int ((wrap_id (by omega) (by omega)).trans (by omega)), trivial⟩⟩
  · rintro i h1
    (repeat ((conv=>whnf);first|refine ω0 ?_|refine ω1 ?_|refine ω2 ?_|refine ω3 ?_|refine ω4 rfl ?_|refine ω5 rfl ?_|refine ω6 ?_|refine ω7 ?_|refine ω8 ?_|refine ⟨rfl,?_⟩|refine ⟨trivial,?_⟩|refine ⟨⟨rfl,Nat.le_of_ble_eq_true rfl⟩,?_⟩|refine ⟨⟨by kernel_rfl,by kernel_rfl⟩,?_⟩|refine ⟨by decide,?_⟩|refine lit_true ?_|refine lit_false ?_))
    intro c g; cases c
    · have g := not_of g
      (repeat ((conv=>whnf);first|refine ω0 ?_|refine ω1 ?_|refine ω2 ?_|refine ω3 ?_|refine ω4 rfl ?_|refine ω5 rfl ?_|refine ω6 ?_|refine ω7 ?_|refine ω8 ?_|refine ⟨rfl,?_⟩|refine ⟨trivial,?_⟩|refine ⟨⟨rfl,Nat.le_of_ble_eq_true rfl⟩,?_⟩|refine ⟨⟨by kernel_rfl,by kernel_rfl⟩,?_⟩|refine ⟨by decide,?_⟩|refine lit_true ?_|refine lit_false ?_))
      refine ret_tells rfl (AVle.of_eq ?_)
      rw [List.take_of_length_le (by rw [placesI_length]; omega)]
      rfl
    · have g := yes_of g
      have hi : i < b.length := by omega
      have hpl := placesI_length 0 b.length false
      have hgt : (placesI 0 b.length false).getD i 0 = b.length - 1 - i := by rw [placesI_get hi]; simp
      have hst : (placesI 0 b.length false).take (i + 1) = (placesI 0 b.length false).take i ++ [b.length - 1 - i] := by rw [← hgt]; exact take_getD 0 (by rw [hpl]; exact hi)
      have hacc : accB b ((placesI 0 b.length false).take i) < 72057594037927936 := Nat.lt_of_lt_of_le (accB_lt hb _) (Nat.le_trans (Nat.pow_le_pow_right (by decide) (by rw [List.length_take, hpl]; omega : ((placesI 0 b.length false).take i).length ≤ 7)) (by decide))
      have hbx := hb.get (b.length - 1 - i)
      have hix : Int.toNat ((b.length : Int) - 1 - i) = b.length - 1 - i := by omega
      (repeat ((conv=>whnf);first|refine ω0 ?_|refine ω1 ?_|refine ω2 ?_|refine ω3 ?_|refine ω4 rfl ?_|refine ω5 rfl ?_|refine ω6 ?_|refine ω7 ?_|refine ω8 ?_|refine ⟨rfl,?_⟩|refine ⟨trivial,?_⟩|refine ⟨⟨rfl,Nat.le_of_ble_eq_true rfl⟩,?_⟩|refine ⟨⟨by kernel_rfl,by kernel_rfl⟩,?_⟩|refine ⟨by decide,?_⟩|refine lit_true ?_|refine lit_false ?_))
      refine ⟨⟨by first | omega | (dsimp only; omega), by first | omega | (dsimp only; omega)⟩, ?_⟩
      (repeat ((conv=>whnf);first|refine ω0 ?_|refine ω1 ?_|refine ω2 ?_|refine ω3 ?_|refine ω4 rfl ?_|refine ω5 rfl ?_|refine ω6 ?_|refine ω7 ?_|refine ω8 ?_|refine ⟨rfl,?_⟩|refine ⟨trivial,?_⟩|refine ⟨⟨rfl,Nat.le_of_ble_eq_true rfl⟩,?_⟩|refine ⟨⟨by kernel_rfl,by kernel_rfl⟩,?_⟩|refine ⟨by decide,?_⟩|refine lit_true ?_|refine lit_false ?_))
      refine back (i + 1) (by omega) (by omega) (ele_mk rfl rfl ⟨AVle.refl _, ?_, le_int ((wrap_id (by omega) (by omega)).trans (by omega)), trivial⟩)
      refine AVle.of_eq (congrArg u64 (?_ : IntKind.u64.wrap (IntKind.u64.wrap (256 * (accB b ((placesI 0 b.length false).take i) : Nat)) + IntKind.u64.wrap (b.getD (Int.toNat ((b.length : Int) - 1 - i)) 0 : Nat)) = _))
      rw [hix, hst, accB_snoc]
      show ((256 * ((accB b ((placesI 0 b.length false).take i) : Nat) : Int)) % 18446744073709551616 + ((b.getD (b.length - 1 - i) 0 : Nat) : Int) % 18446744073709551616) % 18446744073709551616 = _
      omega
theorem sub_get {b : List Nat} {a n k : Nat} (hk : k < n) : ((b.drop a).take n).getD k 0 = b.getD (a + k) 0 := by
  simp [List.getD, List.getElem?_take, hk, List.getElem?_drop]
theorem wordB_sub {b : List Nat} {a : Nat} : accB ((b.drop a).take 4) (placesI 0 4 false) = wordB b a := by
  have h0 := sub_get (b := b) (a := a) (n := 4) (k := 0) (by decide)
  have h1 := sub_get (b := b) (a := a) (n := 4) (k := 1) (by decide)
  have h2 := sub_get (b := b) (a := a) (n := 4) (k := 2) (by decide)
  have h3 := sub_get (b := b) (a := a) (n := 4) (k := 3) (by decide)
  have e1 : placesI 0 4 false = [3, 2, 1, 0] := by decide
  have e2 : placesI (Int.toNat (a : Int)) 4 false = [a + 3, a + 2, a + 1, a + 0] := by
    show (List.range 4).map (fun i => a + 4 - 1 - i) = _
    rw [show List.range 4 = [0, 1, 2, 3] from rfl]
    simp
  unfold wordB accB
  rw [e1, e2]
  simp only [List.foldl_cons, List.foldl_nil, h0, h1, h2, h3]
theorem word_spec (b : List Nat) (hb : okB b) (hl : b.length ≤ 1000000) (at' : Nat) (ha : at' + 4 ≤ b.length) : Tells Try.prog 63 [bytesA b, int at'] (u32 (wordB b at' : Nat)) := by
  have hw : IntKind.i64.wrap ((at' : Int) + 4) = ((at' + 4 : Nat) : Int) := wrap_id (by omega) (by omega)
  have hlen : ((b.drop at').take 4).length = 4 := by simp; omega
  have hsub : okB ((b.drop at').take 4) := fun x hx => hb x (List.mem_of_mem_drop (List.mem_of_mem_take hx))
  have hwl := wordB_lt hb at'
  refine tells_of_aw Try.func63 rfl rfl fun nx => ?_
  (repeat ((conv=>whnf);first|refine ω0 ?_|refine ω1 ?_|refine ω2 ?_|refine ω3 ?_|refine ω4 rfl ?_|refine ω5 rfl ?_|refine ω6 ?_|refine ω7 ?_|refine ω8 ?_|refine ⟨rfl,?_⟩|refine ⟨trivial,?_⟩|refine ⟨⟨rfl,Nat.le_of_ble_eq_true rfl⟩,?_⟩|refine ⟨⟨by kernel_rfl,by kernel_rfl⟩,?_⟩|refine ⟨by decide,?_⟩|refine lit_true ?_|refine lit_false ?_))
  (conv => whnf)
  refine ⟨⟨by omega, by rw [hw]; omega, by rw [hw]; omega⟩, ?_⟩
  (repeat ((conv=>whnf);first|refine ω0 ?_|refine ω1 ?_|refine ω2 ?_|refine ω3 ?_|refine ω4 rfl ?_|refine ω5 rfl ?_|refine ω6 ?_|refine ω7 ?_|refine ω8 ?_|refine ⟨rfl,?_⟩|refine ⟨trivial,?_⟩|refine ⟨⟨rfl,Nat.le_of_ble_eq_true rfl⟩,?_⟩|refine ⟨⟨by kernel_rfl,by kernel_rfl⟩,?_⟩|refine ⟨by decide,?_⟩|refine lit_true ?_|refine lit_false ?_))
  refine aop_tells rfl rfl (refnum_spec ((b.drop at').take 4) hsub (by omega)) ⟨?_, trivial⟩ fun nx1 => ?_
  · refine AVle.trans (b := .sl 1 4 (fun k => u8 (b.getD (at' + k) 0 : Nat))) (AVle.of_eq ?_) ?_
    · show AV.sl 1 ((IntKind.i64.wrap ((at' : Int) + 4)).toNat - at') _ = _
      rw [hw, show Int.toNat ((at' + 4 : Nat) : Int) - at' = 4 by omega]
      rfl
    · unfold bytesA slOf
      rw [hlen]
      exact AVle.sl_fun fun k hk => by rw [sub_get hk]
  rw [hlen, wordB_sub]
  (repeat ((conv=>whnf);first|refine ω0 ?_|refine ω1 ?_|refine ω2 ?_|refine ω3 ?_|refine ω4 rfl ?_|refine ω5 rfl ?_|refine ω6 ?_|refine ω7 ?_|refine ω8 ?_|refine ⟨rfl,?_⟩|refine ⟨trivial,?_⟩|refine ⟨⟨rfl,Nat.le_of_ble_eq_true rfl⟩,?_⟩|refine ⟨⟨by kernel_rfl,by kernel_rfl⟩,?_⟩|refine ⟨by decide,?_⟩|refine lit_true ?_|refine lit_false ?_))
  refine ret_tells rfl (le_int ?_)
  show ((wordB b at' : Nat) : Int) % 4294967296 = _
  omega
end Go.Proofs.W
