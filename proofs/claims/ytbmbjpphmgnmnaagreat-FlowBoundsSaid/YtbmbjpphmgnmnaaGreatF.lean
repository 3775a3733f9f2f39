import Derived.Test.YtbmbjpphmgnmnaaGreatE
import Derived.Test.YtbmbjpphmgnmnaaGreatC
set_option linter.unusedVariables false
set_option linter.unusedSimpArgs false
namespace Go.Proofs.W
open Go.Vl
set_option maxRecDepth 100000

def u64 (n : Int) : AV := .v (.int .u64 n)
def bytesA (l : List Nat) : AV := slOf 1 (fun n : Nat => u8 n) 0 l
def okB (b : List Nat) : Prop := ∀ x ∈ b, x < 256
def intsZ (l : List Int) : AV := slOf 1 int 0 l
/-- The first place where p holds; -1: none. -/
def idxOf (n : Nat) (p : Nat → Bool) : Int := match (List.range n).find? p with | some i => (i : Nat) | none => -1
theorem idxOf_some {n i : Nat} {p : Nat → Bool} (hi : i < n) (h : p i = true) (hb : ∀ j, j < i → p j = false) : idxOf n p = (i : Nat) := by
  unfold idxOf; rw [find_range_some hi h hb]
theorem idxOf_none {n : Nat} {p : Nat → Bool} (hb : ∀ j, j < n → p j = false) : idxOf n p = -1 := by
  unfold idxOf; rw [find_range_none hb]
theorem idxOf_cases (n : Nat) (p : Nat → Bool) : (∃ i, i < n ∧ p i = true ∧ (∀ j, j < i → p j = false) ∧ idxOf n p = (i : Nat)) ∨ ((∀ j, j < n → p j = false) ∧ idxOf n p = -1) := by
  cases h : (List.range n).find? p with
  | some i =>
    have h1 := List.find?_some h
    have hi : i < n := List.mem_range.1 (List.mem_of_find?_eq_some h)
    refine .inl ⟨i, hi, h1, fun j hj => ?_, by unfold idxOf; rw [h]⟩
    have := List.find?_range_eq_some.1 h
    have h4 := this.2.2 j hj
    simpa using h4
  | none =>
    refine .inr ⟨fun j hj => ?_, by unfold idxOf; rw [h]⟩
    have := List.find?_eq_none.1 h j (List.mem_range.2 hj)
    simpa using this

theorem index_spec (l : List Int) (x : Int) (hl : l.length ≤ 1000000000) : Tells Tryz.prog 108 [intsZ l, int x] (int (idxOf l.length fun i => decide (x = l.getD i 0))) := by
  refine tells_of_aw Tryz.func108 rfl rfl fun nx => ?_
  (repeat((conv=>whnf);first|apply ω0|apply ω1|apply ω2|refine τ3 rfl ?_|refine τ4 rfl ?_|refine ⟨rfl,?_⟩|apply τa|refine τb rfl ?_|refine ⟨⟨by kernel_rfl,by kernel_rfl⟩,?_⟩|refine ⟨by decide,?_⟩|apply τt|apply τf))
  refine aw_loop (fun i : Nat => mk 19 [(0, intsZ l), (1, int x), (7, int l.length), (8, int i)] ⟨[], [], nx, 0⟩) (fun i => i ≤ l.length ∧ ∀ j, j < i → x ≠ l.getD j 0) (fun i => l.length - i) ?_ ?_
  · exact ⟨0, ⟨by omega, by intro j hj; omega⟩, ele_mk rfl rfl ⟨AVle.refl _, AVle.refl _, AVle.refl _, AVle.refl _, trivial⟩⟩
  · rintro i ⟨h1, h2⟩
    (repeat((conv=>whnf);first|apply ω0|apply ω1|apply ω2|refine τ3 rfl ?_|refine τ4 rfl ?_|refine ⟨rfl,?_⟩|apply τa|refine τb rfl ?_|refine ⟨⟨by kernel_rfl,by kernel_rfl⟩,?_⟩|refine ⟨by decide,?_⟩|apply τt|apply τf))
    intro c g; cases c
    · have g := not_of g
      (repeat((conv=>whnf);first|apply ω0|apply ω1|apply ω2|refine τ3 rfl ?_|refine τ4 rfl ?_|refine ⟨rfl,?_⟩|apply τa|refine τb rfl ?_|refine ⟨⟨by kernel_rfl,by kernel_rfl⟩,?_⟩|refine ⟨by decide,?_⟩|apply τt|apply τf))
      refine ret_tells rfl (le_int ?_)
      rw [idxOf_none fun j hj => decide_eq_false (h2 j (by omega))]
    · have g := yes_of g
      (repeat((conv=>whnf);first|apply ω0|apply ω1|apply ω2|refine τ3 rfl ?_|refine τ4 rfl ?_|refine ⟨rfl,?_⟩|apply τa|refine τb rfl ?_|refine ⟨⟨by kernel_rfl,by kernel_rfl⟩,?_⟩|refine ⟨by decide,?_⟩|apply τt|apply τf))
      refine ⟨⟨by first | omega | (dsimp only; omega), by first | omega | (dsimp only; omega)⟩, ?_⟩
      (repeat((conv=>whnf);first|apply ω0|apply ω1|apply ω2|refine τ3 rfl ?_|refine τ4 rfl ?_|refine ⟨rfl,?_⟩|apply τa|refine τb rfl ?_|refine ⟨⟨by kernel_rfl,by kernel_rfl⟩,?_⟩|refine ⟨by decide,?_⟩|apply τt|apply τf))
      intro c g2; cases c
      · have g2 := fct_b0.1 g2
        (repeat((conv=>whnf);first|apply ω0|apply ω1|apply ω2|refine τ3 rfl ?_|refine τ4 rfl ?_|refine ⟨rfl,?_⟩|apply τa|refine τb rfl ?_|refine ⟨⟨by kernel_rfl,by kernel_rfl⟩,?_⟩|refine ⟨by decide,?_⟩|apply τt|apply τf))
        refine back (i + 1) ⟨by omega, fun j hj => ?_⟩ (by omega) (ele_mk rfl rfl ⟨AVle.refl _, AVle.refl _, AVle.refl _, le_int (wrap_succ (by omega)), trivial⟩)
        rcases Nat.lt_or_ge j i with h | h
        · exact h2 j h
        · obtain rfl : j = i := by omega
          exact g2
      · have g2 := fct_b1.1 g2
        (repeat((conv=>whnf);first|apply ω0|apply ω1|apply ω2|refine τ3 rfl ?_|refine τ4 rfl ?_|refine ⟨rfl,?_⟩|apply τa|refine τb rfl ?_|refine ⟨⟨by kernel_rfl,by kernel_rfl⟩,?_⟩|refine ⟨by decide,?_⟩|apply τt|apply τf))
        refine ret_tells rfl (le_int ?_)
        rw [idxOf_some (i := i) (by omega) (decide_eq_true g2) fun j hj => decide_eq_false (h2 j hj)]
theorem contains_spec (l : List Int) (x : Int) (hl : l.length ≤ 1000000000) : Tells Tryz.prog 104 [intsZ l, int x] (boolA (l.contains x)) := by
  refine tells_of_aw Tryz.func104 rfl rfl fun nx => ?_
  (repeat((conv=>whnf);first|apply ω0|apply ω1|apply ω2|refine τ3 rfl ?_|refine τ4 rfl ?_|refine ⟨rfl,?_⟩|apply τa|refine τb rfl ?_|refine ⟨⟨by kernel_rfl,by kernel_rfl⟩,?_⟩|refine ⟨by decide,?_⟩|apply τt|apply τf))
  refine aop_tells rfl rfl (index_spec l x hl) ⟨AVle.refl _, AVle.refl _, trivial⟩ fun nx => ?_
  (repeat((conv=>whnf);first|apply ω0|apply ω1|apply ω2|refine τ3 rfl ?_|refine τ4 rfl ?_|refine ⟨rfl,?_⟩|apply τa|refine τb rfl ?_|refine ⟨⟨by kernel_rfl,by kernel_rfl⟩,?_⟩|refine ⟨by decide,?_⟩|apply τt|apply τf))
  intro c hc
  (repeat((conv=>whnf);first|apply ω0|apply ω1|apply ω2|refine τ3 rfl ?_|refine τ4 rfl ?_|refine ⟨rfl,?_⟩|apply τa|refine τb rfl ?_|refine ⟨⟨by kernel_rfl,by kernel_rfl⟩,?_⟩|refine ⟨by decide,?_⟩|apply τt|apply τf))
  refine ret_tells rfl (le_bool (hc.trans ?_))
  rcases idxOf_cases l.length (fun i => decide (x = l.getD i 0)) with ⟨i, h1, h2, h3, h4⟩ | ⟨h1, h2⟩
  · rw [h4]
    have h2 := of_decide_eq_true h2
    have : x ∈ l := by rw [h2]; simp [List.getD, h1]
    simp [this]
  · rw [h2]
    have : ¬ x ∈ l := fun hm => by
      obtain ⟨i, hi, he⟩ := List.getElem_of_mem hm
      have := of_decide_eq_false (h1 i hi)
      exact this (by simp [List.getD, hi, he])
    simp [this]

def okW (w : Nat) : Prop := w = 1 ∨ w = 2 ∨ w = 4 ∨ w = 8
def okI (n : Int) : Prop := -9223372036854775808 ≤ n ∧ n ≤ 9223372036854775807
def thereI (n : Nat) (at' : Int) (w : Nat) : Nat := if 0 ≤ at' ∧ at' + w ≤ n then 0 else 2
theorem there_spec (b : List Nat) (at' : Int) (w : Nat) (hw : okW w) (hl : b.length ≤ 1000000000) (ha : okI at') : Tells Tryz.prog 91 [bytesA b, int at', int w] (int (thereI b.length at' w)) := by
  refine tells_of_aw Tryz.func91 rfl rfl fun nx => ?_
  (repeat((conv=>whnf);first|apply ω0|apply ω1|apply ω2|refine τ3 rfl ?_|refine τ4 rfl ?_|refine ⟨rfl,?_⟩|apply τa|refine τb rfl ?_|refine ⟨⟨by kernel_rfl,by kernel_rfl⟩,?_⟩|refine ⟨by decide,?_⟩|apply τt|apply τf))
  refine aop_tells rfl rfl (contains_spec [1, 2, 4, 8] w (by decide)) ⟨?_, AVle.refl _, trivial⟩ fun nx => ?_
  · refine AVle.os_sl.trans (AVle.sl_fun fun k hk => ?_)
    match k, hk with
    | 0, _ => rfl
    | 1, _ => rfl
    | 2, _ => rfl
    | 3, _ => rfl
  intro c hc
  obtain rfl : c = true := by rw [hc]; rcases hw with rfl | rfl | rfl | rfl <;> rfl
  (repeat((conv=>whnf);first|apply ω0|apply ω1|apply ω2|refine τ3 rfl ?_|refine τ4 rfl ?_|refine ⟨rfl,?_⟩|apply τa|refine τb rfl ?_|refine ⟨⟨by kernel_rfl,by kernel_rfl⟩,?_⟩|refine ⟨by decide,?_⟩|apply τt|apply τf))
  intro c g; cases c
  · have g := not_of g
    (repeat((conv=>whnf);first|apply ω0|apply ω1|apply ω2|refine τ3 rfl ?_|refine τ4 rfl ?_|refine ⟨rfl,?_⟩|apply τa|refine τb rfl ?_|refine ⟨⟨by kernel_rfl,by kernel_rfl⟩,?_⟩|refine ⟨by decide,?_⟩|apply τt|apply τf))
    intro c g2; cases c
    · have g2 := not_of g2
      rw [wrap_id (by rcases hw with rfl | rfl | rfl | rfl <;> omega) (by omega)] at g2
      (repeat((conv=>whnf);first|apply ω0|apply ω1|apply ω2|refine τ3 rfl ?_|refine τ4 rfl ?_|refine ⟨rfl,?_⟩|apply τa|refine τb rfl ?_|refine ⟨⟨by kernel_rfl,by kernel_rfl⟩,?_⟩|refine ⟨by decide,?_⟩|apply τt|apply τf))
      refine ret_tells rfl (le_int ?_)
      unfold thereI; rw [if_pos (by omega)]; rfl
    · have g2 := yes_of g2
      rw [wrap_id (by rcases hw with rfl | rfl | rfl | rfl <;> omega) (by omega)] at g2
      (repeat((conv=>whnf);first|apply ω0|apply ω1|apply ω2|refine τ3 rfl ?_|refine τ4 rfl ?_|refine ⟨rfl,?_⟩|apply τa|refine τb rfl ?_|refine ⟨⟨by kernel_rfl,by kernel_rfl⟩,?_⟩|refine ⟨by decide,?_⟩|apply τt|apply τf))
      refine ret_tells rfl (le_int ?_)
      unfold thereI; rw [if_neg (by omega)]; rfl
  · have g := yes_of g
    (repeat((conv=>whnf);first|apply ω0|apply ω1|apply ω2|refine τ3 rfl ?_|refine τ4 rfl ?_|refine ⟨rfl,?_⟩|apply τa|refine τb rfl ?_|refine ⟨⟨by kernel_rfl,by kernel_rfl⟩,?_⟩|refine ⟨by decide,?_⟩|apply τt|apply τf))
    refine ret_tells rfl (le_int ?_)
    unfold thereI; rw [if_neg (by omega)]; rfl

def placesI (at' w : Nat) (big : Bool) : List Nat := (List.range w).map fun i => if big then at' + i else at' + w - 1 - i
theorem placesI_length (at' w : Nat) (big : Bool) : (placesI at' w big).length = w := by simp [placesI]
theorem placesI_get {at' w i : Nat} {big : Bool} (h : i < w) : (placesI at' w big).getD i 0 = if big then at' + i else at' + w - 1 - i := by
  simp [placesI, List.getD, List.getElem?_map, List.getElem?_range h]
theorem places_spec (at' : Int) (w : Int) (big : Bool) : Tells Tryz.prog 92 [int at', int w, boolA big] (.fn (.func 105) [] [.rp [int w], .rp [int at'], .rp [boolA big]]) := by
  refine tells_of_aw Tryz.func92 rfl rfl fun nx => ?_
  (repeat ((conv=>whnf);first|refine ω0 ?_|refine ω1 ?_|refine ω2 ?_|refine ω3 ?_|refine ω4 rfl ?_|refine ω5 rfl ?_|refine ω6 ?_|refine ω7 ?_|refine ⟨rfl,?_⟩|refine ⟨trivial,?_⟩|refine ⟨⟨rfl,Nat.le_of_ble_eq_true rfl⟩,?_⟩|refine ⟨⟨by kernel_rfl,by kernel_rfl⟩,?_⟩|refine ⟨by decide,?_⟩|refine lit_true ?_|refine lit_false ?_))
  refine AW.le (ele_freeze (L := [(6, .fn (.func 105) [] [.rp [int w], .rp [int at'], .rp [boolA big]])]) (bx := []) (pm := []) (nn := 3) [((2, nx + 2), .c [boolA big]), ((1, nx + 1), .c [int w]), ((0, nx), .c [int at'])] rfl rfl (List.Sublist.refl _) .slnil ⟨Frz.fn trivial ⟨Frz.bp (.tail _ (.head _)) rfl, Frz.bp (.tail _ (.tail _ (.head _))) rfl, Frz.bp (.head _) rfl, trivial⟩, trivial⟩) ?_
  (repeat((conv=>whnf);first|apply ω0|apply ω1|apply ω2|refine τ3 rfl ?_|refine τ4 rfl ?_|refine ⟨rfl,?_⟩|apply τa|refine τb rfl ?_|refine ⟨⟨by kernel_rfl,by kernel_rfl⟩,?_⟩|refine ⟨by decide,?_⟩|apply τt|apply τf))
  exact ret_tells rfl (AVle.refl _)
theorem places_iter (at' w : Nat) (big : Bool) (hw : w ≤ 8) (ha : at' ≤ 1000000000) : IterSpec Tryz.prog 105 [] [.rp [int w], .rp [int at'], .rp [boolA big]] (fun k : Nat => [int k]) (placesI at' w big) := by
  intro i σ Cb Cp I J hc s0 nx nn h0
  refine ecall_of_aw Tryz.func105 rfl rfl ?_
  (repeat((conv=>whnf);first|apply ω0|apply ω1|apply ω2|refine τ3 rfl ?_|refine τ4 rfl ?_|refine ⟨rfl,?_⟩|apply τa|refine τb rfl ?_|refine ⟨⟨by kernel_rfl,by kernel_rfl⟩,?_⟩|refine ⟨by decide,?_⟩|apply τt|apply τf))
  refine aw_loop (fun x : Nat × σ × Nat => mk 26 [(0, .yl i), (1, .rp [int w]), (2, .rp [int at']), (3, .rp [boolA big]), (7, int w), (8, int x.1)] ⟨Cb x.2.1, Cp x.2.1, x.2.2, nn⟩) (fun x => x.1 ≤ w ∧ I ((placesI at' w big).take x.1) x.2.1) (fun x => w - x.1) ?_ ?_
  · exact ⟨(0, s0, nx), ⟨by dsimp only; omega, by simpa using h0⟩, ele_mk rfl rfl ⟨AVle.refl _, AVle.refl _, AVle.refl _, AVle.refl _, AVle.refl _, AVle.refl _, trivial⟩⟩
  · rintro ⟨j, s, nx'⟩ ⟨h1, h2⟩
    dsimp only at h1 h2
    (repeat((conv=>whnf);first|apply ω0|apply ω1|apply ω2|refine τ3 rfl ?_|refine τ4 rfl ?_|refine ⟨rfl,?_⟩|apply τa|refine τb rfl ?_|refine ⟨⟨by kernel_rfl,by kernel_rfl⟩,?_⟩|refine ⟨by decide,?_⟩|apply τt|apply τf))
    intro c g; cases c
    · have g := not_of g
      dsimp only at g
      (repeat((conv=>whnf);first|apply ω0|apply ω1|apply ω2|refine τ3 rfl ?_|refine τ4 rfl ?_|refine ⟨rfl,?_⟩|apply τa|refine τb rfl ?_|refine ⟨⟨by kernel_rfl,by kernel_rfl⟩,?_⟩|refine ⟨by decide,?_⟩|apply τt|apply τf))
      refine ret_is rfl ⟨s, .inl ?_, rfl, rfl⟩
      rw [List.take_of_length_le (by rw [placesI_length]; omega)] at h2
      exact h2
    · have g := yes_of g
      dsimp only at g
      have hj : j < w := by omega
      have hsp : placesI at' w big = (placesI at' w big).take j ++ (placesI at' w big).getD j 0 :: (placesI at' w big).drop (j + 1) := by
        have hlt : j < (placesI at' w big).length := by rw [placesI_length]; exact hj
        simp [List.getD, hlt]
      have hst : (placesI at' w big).take (j + 1) = (placesI at' w big).take j ++ [(placesI at' w big).getD j 0] := take_getD 0 (by rw [placesI_length]; exact hj)
      have hgt := placesI_get (at' := at') (w := w) (i := j) (big := big) hj
      generalize placesI at' w big = xs at *
      (repeat((conv=>whnf);first|apply ω0|apply ω1|apply ω2|refine τ3 rfl ?_|refine τ4 rfl ?_|refine ⟨rfl,?_⟩|apply τa|refine τb rfl ?_|refine ⟨⟨by kernel_rfl,by kernel_rfl⟩,?_⟩|refine ⟨by decide,?_⟩|apply τt|apply τf))
      cases big
      all_goals (repeat((conv=>whnf);first|apply ω0|apply ω1|apply ω2|refine τ3 rfl ?_|refine τ4 rfl ?_|refine ⟨rfl,?_⟩|apply τa|refine τb rfl ?_|refine ⟨⟨by kernel_rfl,by kernel_rfl⟩,?_⟩|refine ⟨by decide,?_⟩|apply τt|apply τf))
      · simp only [Bool.false_eq_true, if_false] at hgt
        refine aop_hand (pre := xs.take j) (post := xs.drop (j + 1)) (x := xs.getD j 0) (s := s) [] [] rfl rfl rfl hc hsp h2 ⟨le_int ?_, trivial⟩ (fun s' nx5 hI => ?_) (fun s' nx5 hJ => ?_)
        · rw [hgt]
          dsimp only
          rw [wrap_id (n := (at' : Int) + w) (by omega) (by omega), wrap_id (n := (at' : Int) + w - 1) (by omega) (by omega), wrap_id (by omega) (by omega)]
          omega
        · (repeat((conv=>whnf);first|apply ω0|apply ω1|apply ω2|refine τ3 rfl ?_|refine τ4 rfl ?_|refine ⟨rfl,?_⟩|apply τa|refine τb rfl ?_|refine ⟨⟨by kernel_rfl,by kernel_rfl⟩,?_⟩|refine ⟨by decide,?_⟩|apply τt|apply τf))
          exact back (j + 1, s', nx5) ⟨by dsimp only; omega, by dsimp only; rw [hst]; exact hI⟩ (by dsimp only; omega) (ele_mk rfl rfl ⟨AVle.refl _, AVle.refl _, AVle.refl _, AVle.refl _, AVle.refl _, le_int (wrap_succ (by dsimp only; omega)), trivial⟩)
        · (repeat((conv=>whnf);first|apply ω0|apply ω1|apply ω2|refine τ3 rfl ?_|refine τ4 rfl ?_|refine ⟨rfl,?_⟩|apply τa|refine τb rfl ?_|refine ⟨⟨by kernel_rfl,by kernel_rfl⟩,?_⟩|refine ⟨by decide,?_⟩|apply τt|apply τf))
          exact ret_is rfl ⟨s', .inr ⟨_, _, _, hsp, hJ⟩, rfl, rfl⟩
      · simp only [if_true] at hgt
        refine aop_hand (pre := xs.take j) (post := xs.drop (j + 1)) (x := xs.getD j 0) (s := s) [] [] rfl rfl rfl hc hsp h2 ⟨le_int ?_, trivial⟩ (fun s' nx5 hI => ?_) (fun s' nx5 hJ => ?_)
        · rw [hgt]
          dsimp only
          rw [wrap_id (by omega) (by omega)]
          omega
        · (repeat((conv=>whnf);first|apply ω0|apply ω1|apply ω2|refine τ3 rfl ?_|refine τ4 rfl ?_|refine ⟨rfl,?_⟩|apply τa|refine τb rfl ?_|refine ⟨⟨by kernel_rfl,by kernel_rfl⟩,?_⟩|refine ⟨by decide,?_⟩|apply τt|apply τf))
          exact back (j + 1, s', nx5) ⟨by dsimp only; omega, by dsimp only; rw [hst]; exact hI⟩ (by dsimp only; omega) (ele_mk rfl rfl ⟨AVle.refl _, AVle.refl _, AVle.refl _, AVle.refl _, AVle.refl _, le_int (wrap_succ (by dsimp only; omega)), trivial⟩)
        · (repeat((conv=>whnf);first|apply ω0|apply ω1|apply ω2|refine τ3 rfl ?_|refine τ4 rfl ?_|refine ⟨rfl,?_⟩|apply τa|refine τb rfl ?_|refine ⟨⟨by kernel_rfl,by kernel_rfl⟩,?_⟩|refine ⟨by decide,?_⟩|apply τt|apply τf))
          exact ret_is rfl ⟨s', .inr ⟨_, _, _, hsp, hJ⟩, rfl, rfl⟩

/-- Bytes put together, in this order. -/
def accB (b : List Nat) (ks : List Nat) : Nat := ks.foldl (fun n k => n * 256 + b.getD k 0) 0
theorem accB_snoc (b ks : List Nat) (k : Nat) : accB b (ks ++ [k]) = accB b ks * 256 + b.getD k 0 := by simp [accB]
theorem okB.get {b : List Nat} (h : okB b) (k : Nat) : b.getD k 0 < 256 := by
  rcases Nat.lt_or_ge k b.length with hk | hk
  · have e : b.getD k 0 = b[k] := by simp [List.getD, hk]
    rw [e]; exact h _ (List.getElem_mem hk)
  · simp [List.getD, List.getElem?_eq_none hk]
theorem accB_go {b : List Nat} (h : okB b) : ∀ (ks : List Nat) (n : Nat), ks.foldl (fun n k => n * 256 + b.getD k 0) n + 1 ≤ (n + 1) * 256 ^ ks.length
  | [], n => by simp
  | k :: ks, n => by
    have h1 := accB_go h ks (n * 256 + b.getD k 0)
    have h2 := h.get k
    rw [List.foldl_cons, List.length_cons, Nat.pow_succ]
    refine Nat.le_trans h1 ?_
    rw [Nat.mul_comm (256 ^ ks.length) 256, ← Nat.mul_assoc]
    exact Nat.mul_le_mul_right _ (by omega)
theorem accB_lt {b : List Nat} (h : okB b) (ks : List Nat) : accB b ks < 256 ^ ks.length := by
  have := accB_go h ks 0
  simp only [Nat.zero_add, Nat.one_mul] at this
  exact this
theorem shl_or {n x : Nat} (hn : n < 72057594037927936) (hx : x < 256) : bitsI .or .u64 (IntKind.u64.wrap ((n : Int) * 2 ^ 8)) (IntKind.u64.wrap (x : Int)) = ((n * 256 + x : Nat) : Int) := by
  have h1 : IntKind.u64.wrap ((n : Int) * 2 ^ 8) = ((n * 256 : Nat) : Int) := by
    have : ((n : Int) * 2 ^ 8) = ((n * 256 : Nat) : Int) := by push_cast; rfl
    rw [this]
    show ((n * 256 : Nat) : Int) % 18446744073709551616 = _
    omega
  have h2 : IntKind.u64.wrap (x : Int) = (x : Int) := by show (x : Int) % 18446744073709551616 = _; omega
  rw [h1, h2]
  have h3 : n * 256 ||| x = n * 256 + x := by
    have := Nat.two_pow_add_eq_or_of_lt (i := 8) (b := x) (by omega) n
    rw [Nat.mul_comm] at this
    exact this.symm
  have := bits_or (k := .u64) (a := n * 256) (b := x) (by show _ < 2 ^ 64; omega) (by show _ < 2 ^ 64; omega) (by rw [h3]; show ((n * 256 + x : Nat) : Int) % 18446744073709551616 = _; omega)
  rw [h3] at this
  exact this
theorem get_spec (b : List Nat) (hb : okB b) (hl : b.length ≤ 1000000000) (at' : Int) (ha : okI at') (w : Nat) (hw : okW w) (big : Bool) :
    Tells Tryz.prog 65 [bytesA b, int at', int w, boolA big] (.tup [u64 (if thereI b.length at' w = 0 then accB b (placesI at'.toNat w big) else 0 : Nat), int (thereI b.length at' w)]) := by
  have hw8 : w ≤ 8 := by rcases hw with rfl | rfl | rfl | rfl <;> omega
  refine tells_of_aw Tryz.func65 rfl rfl fun nx => ?_
  (repeat((conv=>whnf);first|apply ω0|apply ω1|apply ω2|refine τ3 rfl ?_|refine τ4 rfl ?_|refine ⟨rfl,?_⟩|apply τa|refine τb rfl ?_|refine ⟨⟨by kernel_rfl,by kernel_rfl⟩,?_⟩|refine ⟨by decide,?_⟩|apply τt|apply τf))
  refine aop_tells rfl rfl (there_spec b at' w hw hl ha) ⟨AVle.refl _, AVle.refl _, AVle.refl _, trivial⟩ fun nx1 => ?_
  (repeat((conv=>whnf);first|apply ω0|apply ω1|apply ω2|refine τ3 rfl ?_|refine τ4 rfl ?_|refine ⟨rfl,?_⟩|apply τa|refine τb rfl ?_|refine ⟨⟨by kernel_rfl,by kernel_rfl⟩,?_⟩|refine ⟨by decide,?_⟩|apply τt|apply τf))
  intro c g1; cases c
  · have g1 := bne_no g1
    have hz : thereI b.length at' w = 0 := by omega
    obtain ⟨n, rfl⟩ : ∃ n : Nat, at' = n := ⟨at'.toNat, by unfold thereI at hz; split at hz <;> omega⟩
    have hn : n + w ≤ b.length := by unfold thereI at hz; split at hz <;> omega
    (repeat((conv=>whnf);first|apply ω0|apply ω1|apply ω2|refine τ3 rfl ?_|refine τ4 rfl ?_|refine ⟨rfl,?_⟩|apply τa|refine τb rfl ?_|refine ⟨⟨by kernel_rfl,by kernel_rfl⟩,?_⟩|refine ⟨by decide,?_⟩|apply τt|apply τf))
    refine aop_tells rfl rfl (places_spec n w big) ⟨AVle.refl _, AVle.refl _, AVle.refl _, trivial⟩ fun nx2 => ?_
    (repeat((conv=>whnf);first|apply ω0|apply ω1|apply ω2|refine τ3 rfl ?_|refine τ4 rfl ?_|refine ⟨rfl,?_⟩|apply τa|refine τb rfl ?_|refine ⟨⟨by kernel_rfl,by kernel_rfl⟩,?_⟩|refine ⟨by decide,?_⟩|apply τt|apply τf))
    refine AW.le (ele_mk (L := [(4, .bp (0, nx) 0), (11, .bp (1, nx1) 0), (23, .fn (.func 105) [] [.rp [int w], .rp [int n], .rp [boolA big]])]) rfl rfl ⟨AVle.refl _, AVle.refl _, AVle.refl _, trivial⟩) ?_
    refine aw_for (σ := Nat) (α := Nat) (e := fun k : Nat => [int k]) (xs := placesI n w big) (first' := []) (caps' := [.rp [int w], .rp [int n], .rp [boolA big]]) (fun x : Nat => [((1, nx1), .c [u64 x]), ((0, nx), .c [bytesA b])]) (fun _ => [])
      (fun pre x => x = accB b pre) (fun _ _ _ => False) 0 rfl rfl (places_iter n w big hw8 (by omega)) trivial (LeL.refl _) rfl rfl rfl (fun _ => rfl) ?_ ?_
    · intro pre x post s nx3 nn3 hx hs
      subst hs
      have hlen : pre.length < w := by rw [← placesI_length n w big, hx]; simp
      have hxb : x < b.length := by
        have : x ∈ placesI n w big := by rw [hx]; simp
        obtain ⟨i, hi, rfl⟩ := List.mem_map.1 this
        have := List.mem_range.1 hi
        split <;> omega
      have hacc : accB b pre < 72057594037927936 := Nat.lt_of_lt_of_le (accB_lt hb pre) (Nat.le_trans (Nat.pow_le_pow_right (by decide) (by omega : pre.length ≤ 7)) (by decide))
      (repeat((conv=>whnf);first|apply ω0|apply ω1|apply ω2|refine τ3 rfl ?_|refine τ4 rfl ?_|refine ⟨rfl,?_⟩|apply τa|refine τb rfl ?_|refine ⟨⟨by kernel_rfl,by kernel_rfl⟩,?_⟩|refine ⟨by decide,?_⟩|apply τt|apply τf))
      (refine aw_draw 8 ?_ ?_ ?_ ?_; (· kernel_rfl); (· kernel_rfl); (· kernel_rfl))
      (repeat((conv=>whnf);first|apply ω0|apply ω1|apply ω2|refine τ3 rfl ?_|refine τ4 rfl ?_|refine ⟨rfl,?_⟩|apply τa|refine τb rfl ?_|refine ⟨⟨by kernel_rfl,by kernel_rfl⟩,?_⟩|refine ⟨by decide,?_⟩|apply τt|apply τf))
      refine ⟨⟨by first | omega | (dsimp only; omega), by first | omega | (dsimp only; omega)⟩, ?_⟩
      (repeat((conv=>whnf);first|apply ω0|apply ω1|apply ω2|refine τ3 rfl ?_|refine τ4 rfl ?_|refine ⟨rfl,?_⟩|apply τa|refine τb rfl ?_|refine ⟨⟨by kernel_rfl,by kernel_rfl⟩,?_⟩|refine ⟨by decide,?_⟩|apply τt|apply τf))
      have hv : bitsI .or .u64 (IntKind.u64.wrap ((accB b pre : Nat) * 2 ^ 8)) (IntKind.u64.wrap (b.getD x 0 : Nat)) = ((accB b (pre ++ [x]) : Nat) : Int) := by rw [accB_snoc]; exact shl_or hacc (hb.get x)
      exact ⟨accB b (pre ++ [x]), .inl ⟨rfl, rfl⟩, congrArg (fun v : Int => _ :: _ :: ((1, nx1), Own.c [u64 v]) :: _) hv, rfl⟩
    · intro s' nx3 nn3 hs
      subst hs
      (repeat((conv=>whnf);first|apply ω0|apply ω1|apply ω2|refine τ3 rfl ?_|refine τ4 rfl ?_|refine ⟨rfl,?_⟩|apply τa|refine τb rfl ?_|refine ⟨⟨by kernel_rfl,by kernel_rfl⟩,?_⟩|refine ⟨by decide,?_⟩|apply τt|apply τf))
      have hv : (if thereI b.length (n : Int) w = 0 then accB b (placesI (Int.toNat (n : Int)) w big) else 0) = accB b (placesI n w big) := if_pos hz
      refine ret_tells (r := AV.tup [u64 (accB b (placesI n w big) : Nat), int (0 : Nat)]) rfl (AVle.of_eq ?_)
      rw [hv, hz]
  · have g1 := bne_yes g1
    (repeat((conv=>whnf);first|apply ω0|apply ω1|apply ω2|refine τ3 rfl ?_|refine τ4 rfl ?_|refine ⟨rfl,?_⟩|apply τa|refine τb rfl ?_|refine ⟨⟨by kernel_rfl,by kernel_rfl⟩,?_⟩|refine ⟨by decide,?_⟩|apply τt|apply τf))
    refine ret_tells rfl (AVle.of_eq ?_)
    rw [if_neg (by omega)]
    rfl
end Go.Proofs.W

namespace Go.Proofs.W

def stopC (l : List Ins) (c : Nat) (n : Nat) : Bool := decide (isStore (kind l n)) && decide ((l.getD n ins0).k = c)
theorem fold_bit (now c : Nat) : ∀ (ts : List Nat) (a : List Nat) (n : Nat), (∀ t ∈ ts, t < a.length) → ((ts.foldl (goI now) a).getD n 0).testBit c = ((a.getD n 0).testBit c && (!decide (n ∈ ts) || now.testBit c))
  | [], a, n, _ => by simp
  | t :: ts, a, n, h => by
    rw [List.foldl_cons, fold_bit now c ts (goI now a t) n (fun x hx => by rw [goI_length]; exact h x (by simp [hx])), goI_get]
    have ht := h t (by simp)
    by_cases h1 : t = n
    · subst h1
      rw [if_pos ⟨rfl, ht⟩, Nat.testBit_and]
      by_cases h2 : t ∈ ts <;> cases (a.getD t 0).testBit c <;> cases now.testBit c <;> simp [h2]
    · rw [if_neg (fun h => h1 h.1)]
      have h3 : decide (n ∈ t :: ts) = decide (n ∈ ts) := decide_eq_decide.2 (by rw [List.mem_cons]; exact ⟨fun h => h.resolve_left fun h2 => h1 h2.symm, .inr⟩)
      rw [h3]
theorem foldT_bit : ∀ (ts : List Nat) (o : List Bool) (k : Nat), (∀ t ∈ ts, t < o.length) → (ts.foldl setT o).getD k false = (o.getD k false || decide (k ∈ ts)) := fun ts o k h => by
  rw [Bool.eq_iff_iff, foldT_get ts o k h]; simp
theorem init_bit {n k c : Nat} (hn : n ≤ 4096) (hk : k < n) (hc : c < 16) : ((initS n).getD k 0).testBit c = !(scan0 n).getD k false := by
  rw [initS_get hn]
  by_cases h : k = 0
  · subst h
    rw [(scan0_get hk 0).2 rfl]; simp
  · have h1 : (scan0 n).getD k false = false := by
      cases h2 : (scan0 n).getD k false
      · rfl
      · exact absurd ((scan0_get (by omega) k).1 h2) h
    rw [h1, if_pos ⟨by omega, hk⟩]
    show (2 ^ 16 - 1).testBit c = _
    rw [Nat.testBit_two_pow_sub_one]; simp [hc]
theorem now_bit {l : List Ins} (n c a : Nat) : (nowI (l.getD n ins0) a).testBit c = (a.testBit c || stopC l c n) := by
  unfold nowI stopC
  have hk : (kof (l.getD n ins0).code).1 = kind l n := rfl
  rw [hk]
  by_cases h : isStore (kind l n)
  · rw [if_pos h, Nat.testBit_or, Nat.testBit_two_pow]; simp [h]
  · rw [if_neg h]; simp [h]
/-- What is stored on every way, bit by bit: the cells without which nothing leads there. -/
theorem at_scan {l : List Ins} (hf : Formed l) {c : Nat} (hc : c < 16) : ∀ k, k ≤ l.length → ∀ n, n < l.length → ((atI l k).getD n 0).testBit c = !(scanN l (stopC l c) k).getD n false := by
  intro k
  induction k with
  | zero => intro _ n hn; exact init_bit hf.le hn hc
  | succ k ih =>
    intro hk n hn
    have hnx := nexts_lt hf (n := k) (by omega)
    rw [atI_succ, scanN_succ, stepS, scanStep, fold_bit _ _ _ _ _ (fun t ht => by rw [atI_length hf.le]; have := hnx t ht; have := hf.le; omega), now_bit, ih (by omega) n hn, ih (by omega) k (by omega)]
    split
    · rename_i h
      rw [foldT_bit _ _ _ (fun t ht => by rw [scanN_length]; exact (hnx t ht).2)]
      simp only [Bool.and_eq_true, Bool.not_eq_true'] at h
      rw [h.1, h.2]
      cases (scanN l (stopC l c) k).getD n false <;> cases decide (n ∈ nextsI l k) <;> rfl
    · rename_i h
      cases h1 : (scanN l (stopC l c) k).getD k false <;> cases h2 : stopC l c k
      · simp
      · simp
      · rw [h1, h2] at h; exact absurd rfl h
      · simp
theorem stored_bit {l : List Ins} (hf : Formed l) {c n : Nat} (hc : c < 16) (hn : n < l.length) : ((storedI l).getD n 0).testBit c = true ↔ ¬ Rch l (stopC l c) n := by
  have h1 : (storedI l).getD n 0 = (atI l l.length).getD n 0 := by
    unfold storedI; simp only [List.getD, List.getElem?_take]; rw [if_pos hn]
  rw [h1, at_scan hf hc l.length (Nat.le_refl _) n hn, Bool.not_eq_true', ← reachC_iff hf]
  show reachC l _ |>.getD n false |> fun x => x = false ↔ _
  simp [reachC]
def Right (l : List Ins) : Prop := Formed l ∧ ∀ n, n < l.length → kind l n = 3 ∨ kind l n = 6 → ¬ Rch l (stopC l (l.getD n ins0).k) n
theorem check_iff {l : List Ins} : (checkI l).2 = 0 ↔ Right l := by
  have key : ∀ (hf : Formed l) n, n < l.length → kind l n = 3 ∨ kind l n = 6 → ((storedI l).getD n 0 / 2 ^ (l.getD n ins0).k % 2 = 0 ↔ Rch l (stopC l (l.getD n ins0).k) n) := by
    intro hf n hn hk
    have hk16 : (l.getD n ins0).k < 16 := by
      have := (wrong_parts (hf.ok n hn)).2.2.1
      have hkd : (kof (l.getD n ins0).code).1 = kind l n := rfl
      omega
    have h1 := stored_bit hf hk16 hn
    rw [Nat.testBit_eq_decide_div_mod_eq, decide_eq_true_eq] at h1
    constructor
    · intro h
      refine Classical.byContradiction fun h2 => ?_
      have := h1.2 h2
      omega
    · intro h
      have h3 : ¬ ((storedI l).getD n 0 / 2 ^ (l.getD n ins0).k % 2 = 1) := fun h2 => h1.1 h2 h
      omega
  constructor
  · intro h
    unfold checkI at h
    split at h
    · exact absurd h (by assumption)
    · rename_i h0
      have hf : Formed l := formed_of (by omega)
      split at h
      · cases h
      · rename_i hn
        rw [List.find?_range_eq_none] at hn
        refine ⟨hf, fun n hnl hk hr => ?_⟩
        have := hn n hnl
        simp only [Bool.not_eq_true', decide_eq_false_iff_not] at this
        exact this ⟨hk, (key hf n hnl hk).2 hr⟩
  · rintro ⟨hf, h⟩
    unfold checkI
    rw [if_neg (fun h0 => formed_fail h0 hf)]
    rw [List.find?_range_eq_none.2 (fun i hi => by
      simp only [Bool.not_eq_true', decide_eq_false_iff_not]
      rintro ⟨h1, h2⟩
      exact h i hi h1 ((key hf i hi h1).1 h2))]
end Go.Proofs.W

namespace Go.Proofs.W
open Go.Vl

/-- What a run has: where it is, A, X, its cells, its steps, what it loaded. -/
structure Rn where
  at' : Nat
  a : Nat
  x : Nat
  cells : List Nat
  steps : Nat
  loads : List Nat
def rn0 : Rn := ⟨0, 0, 0, List.replicate 16 0, 0, []⟩
def wordL (b : List Nat) (k : Nat) : Nat := accB b (placesI k 4 false)
theorem wordL_lt {b : List Nat} (hb : okB b) (k : Nat) : wordL b k < 4294967296 := by
  have := accB_lt hb (placesI k 4 false)
  rw [placesI_length] at this
  exact this
def altV (i : Ins) (s : Rn) : Nat := if (kof i.code).2 then s.x else i.k
def reckV (k a n : Nat) : Option Nat :=
  match k with
  | 16 => some ((a + n) % 4294967296)
  | 17 => some ((a + 4294967296 - n) % 4294967296)
  | 18 => some (a * n % 4294967296)
  | 19 => if n = 0 then none else some (a / n)
  | 20 => some (a ||| n)
  | 21 => some (a &&& n)
  | 22 => some (a * 2 ^ (n % 32) % 4294967296)
  | 23 => some (a / 2 ^ (n % 32))
  | _ => some (a ^^^ n)
def branchV (k a n : Nat) : Bool :=
  match k with
  | 25 => decide (a = n)
  | 26 => decide (a > n)
  | 27 => decide (a ≥ n)
  | _ => decide (a &&& n ≠ 0)
/-- What an instruction does (it is already counted); a value: the run is over. -/
def doV (b : List Nat) (i : Ins) (s : Rn) : Option Nat × Rn :=
  match (kof i.code).1 with
  | 1 => (none, { s with a := wordL b i.k, loads := s.loads ++ [i.k] })
  | 2 => (none, { s with a := i.k })
  | 3 => (none, { s with a := s.cells.getD i.k 0 })
  | 4 => (none, { s with a := 64 })
  | 5 => (none, { s with x := i.k })
  | 6 => (none, { s with x := s.cells.getD i.k 0 })
  | 7 => (none, { s with x := 64 })
  | 8 => (none, { s with cells := s.cells.set i.k s.a })
  | 9 => (none, { s with cells := s.cells.set i.k s.x })
  | 10 => (none, { s with x := s.a })
  | 11 => (none, { s with a := s.x })
  | 12 => (none, { s with a := (4294967296 - s.a) % 4294967296 })
  | 13 => (none, { s with at' := s.at' + i.k })
  | 14 => (some i.k, s)
  | 15 => (some s.a, s)
  | k => if k < 25 then (match reckV k s.a (altV i s) with | some v => (none, { s with a := v }) | none => (some 0, s))
    else (none, { s with at' := s.at' + if branchV k s.a (altV i s) then i.jt else i.jf })
/-- One step. -/
def stepV (b : List Nat) (l : List Ins) (s : Rn) : Option Nat × Rn := doV b (l.getD s.at' ins0) { s with at' := s.at' + 1, steps := s.steps + 1 }
/-- A run. -/
def runV (b : List Nat) (l : List Ins) : Nat → Rn → Nat × Rn
  | 0, s => (0, s)
  | f + 1, s => match stepV b l s with
    | (some v, s') => (v, s')
    | (none, s') => runV b l f s'
structure Rn.ok (s : Rn) : Prop where
  a : s.a < 4294967296
  x : s.x < 4294967296
  n : s.cells.length = 16
  c : ∀ v ∈ s.cells, v < 4294967296
theorem rn0_ok : rn0.ok := ⟨by decide, by decide, by decide, by simp [rn0]⟩
theorem Rn.ok.get {s : Rn} (h : s.ok) (k : Nat) : s.cells.getD k 0 < 4294967296 := by
  rcases Nat.lt_or_ge k s.cells.length with hk | hk
  · have e : s.cells.getD k 0 = s.cells[k] := by simp [List.getD, hk]
    rw [e]; exact h.c _ (List.getElem_mem hk)
  · simp [List.getD, List.getElem?_eq_none hk]
theorem altV_lt {i : Ins} {s : Rn} (hi : i.ok) (hs : s.ok) : altV i s < 4294967296 := by
  unfold altV
  split
  · exact hs.x
  · exact hi.2.2.2
theorem reckV_lt {k a n v : Nat} (ha : a < 4294967296) (hn : n < 4294967296) (h : reckV k a n = some v) : v < 4294967296 := by
  unfold reckV at h
  split at h <;> first | (cases h; done) | skip
  all_goals first
    | (split at h <;> first | (cases h; done) | skip; cases h; exact Nat.lt_of_le_of_lt (Nat.div_le_self _ _) ha)
    | (cases h; exact Nat.mod_lt _ (by decide))
    | (cases h; exact Nat.lt_of_le_of_lt Nat.and_le_left ha)
    | (cases h; exact Nat.lt_of_le_of_lt (Nat.div_le_self _ _) ha)
    | (cases h; exact Nat.or_lt_two_pow (n := 32) ha hn)
    | (cases h; exact Nat.xor_lt_two_pow (n := 32) ha hn)
theorem doV_ok {b : List Nat} (hb : okB b) {i : Ins} (hi : i.ok) {s : Rn} (hs : s.ok) : (doV b i s).2.ok := by
  unfold doV
  split
  all_goals first
    | exact ⟨wordL_lt hb _, hs.x, hs.n, hs.c⟩
    | exact ⟨hi.2.2.2, hs.x, hs.n, hs.c⟩
    | exact ⟨hs.get _, hs.x, hs.n, hs.c⟩
    | exact ⟨(by show 64 < 4294967296; decide), hs.x, hs.n, hs.c⟩
    | exact ⟨hs.a, hi.2.2.2, hs.n, hs.c⟩
    | exact ⟨hs.a, hs.get _, hs.n, hs.c⟩
    | exact ⟨hs.a, (by show 64 < 4294967296; decide), hs.n, hs.c⟩
    | exact ⟨hs.a, hs.x, by simp [hs.n], fun v hv => (List.mem_or_eq_of_mem_set hv).elim (hs.c v) (fun e => e ▸ hs.a)⟩
    | exact ⟨hs.a, hs.x, by simp [hs.n], fun v hv => (List.mem_or_eq_of_mem_set hv).elim (hs.c v) (fun e => e ▸ hs.x)⟩
    | exact ⟨hs.a, hs.a, hs.n, hs.c⟩
    | exact ⟨hs.x, hs.x, hs.n, hs.c⟩
    | exact ⟨Nat.mod_lt _ (by decide), hs.x, hs.n, hs.c⟩
    | exact ⟨hs.a, hs.x, hs.n, hs.c⟩
    | exact hs
    | skip
  split
  · split
    · rename_i v h
      exact ⟨reckV_lt hs.a (altV_lt hi hs) h, hs.x, hs.n, hs.c⟩
    · exact hs
  · exact ⟨hs.a, hs.x, hs.n, hs.c⟩
theorem doV_at {b : List Nat} {i : Ins} {s s' : Rn} (h : doV b i s = (none, s')) : s'.steps = s.steps ∧ ((s'.at' = s.at' ∧ (kof i.code).1 ≠ 13 ∧ (kof i.code).1 ≠ 14 ∧ (kof i.code).1 ≠ 15 ∧ (kof i.code).1 < 25) ∨
    ((kof i.code).1 = 13 ∧ s'.at' = s.at' + i.k) ∨ (25 ≤ (kof i.code).1 ∧ (s'.at' = s.at' + i.jt ∨ s'.at' = s.at' + i.jf))) := by
  unfold doV at h
  split at h
  all_goals first
    | (cases h; done)
    | (cases h; refine ⟨rfl, .inl ⟨rfl, ?_⟩⟩; omega)
    | (cases h; refine ⟨rfl, .inr (.inl ⟨?_, rfl⟩)⟩; assumption)
    | skip
  split at h
  · split at h
    · cases h
      exact ⟨rfl, .inl ⟨rfl, by assumption, by assumption, by assumption, by assumption⟩⟩
    · cases h
  · cases h
    refine ⟨rfl, .inr (.inr ⟨by omega, ?_⟩)⟩
    dsimp only
    split
    · exact .inl rfl
    · exact .inr rfl
/-- An instruction goes on where it may. -/
theorem stepV_next {b : List Nat} {l : List Ins} {s s' : Rn} (h : stepV b l s = (none, s')) : s'.at' ∈ nextsI l s.at' ∧ s'.steps = s.steps + 1 := by
  have hk0 : kind l s.at' = (kof (l.getD s.at' ins0).code).1 := rfl
  obtain ⟨h1, h2⟩ := doV_at h
  refine ⟨?_, h1⟩
  dsimp only at h2
  unfold nextsI
  rw [hk0]
  rcases h2 with ⟨h3, h4, h5, h6, h7⟩ | ⟨h3, h4⟩ | ⟨h3, h4⟩
  · rw [if_neg (by omega), if_neg (by omega), if_neg (by omega), h3]; simp
  · rw [if_neg (by omega), if_pos h3, h4]; simp
  · rw [if_neg (by omega), if_neg (by omega), if_pos h3]
    rcases h4 with h4 | h4 <;> rw [h4] <;> simp
theorem stepV_over {b : List Nat} {l : List Ins} {s s' : Rn} {v : Nat} (h : stepV b l s = (some v, s')) : s' = { s with at' := s.at' + 1, steps := s.steps + 1 } := by
  unfold stepV doV at h
  split at h
  all_goals first
    | (cases h; rfl)
    | (cases h; done)
    | skip
  split at h
  · split at h
    · cases h
    · cases h; rfl
  · cases h
end Go.Proofs.W

namespace Go.Proofs.W
open Go.Vl
set_option maxRecDepth 100000

def u32A (n : Nat) : AV := u32 n
def natF (l : List Nat) (k : Nat) : AV := int (l.getD k 0 : Nat)
def runC (b : List Nat) (s : Rn) (oi : Option Nat) : List AV := [bytesA b, int s.at', u32 s.a, u32 s.x] ++ s.cells.map u32A ++ [u32 0, int s.steps, .os 1 s.loads.length (natF s.loads) (nmN 1 oi)]
def opA (i : Ins) (f : AV) : AV := .ag [u16 i.code, u8 i.jt, u8 i.jf, u32 i.k, f, int (kof i.code).1, boolA (kof i.code).2]
def vmH (b : List Nat) (s0 : Nat) (s : Rn) (oi : Option Nat) (nx nn : Nat) : Heap := ⟨[((0, s0), .c (runC b s oi))], pmOf (nmN 1 oi) (s.loads.length * 1), nx, nn⟩
def overA (v : Nat) : AV := .ifc 86 (.ag [u32 v])
def doQ (b : List Nat) (s0 : Nat) (o : Option Nat × Rn) : Res → Heap → Prop
  | .ret _, h' => ∃ oi' nx' nn', o.1 = none ∧ (oi' = none → o.2.loads = []) ∧ h' = vmH b s0 o.2 oi' nx' nn'
  | .pan x, h' => ∃ v oi' nx' nn', o.1 = some v ∧ x = overA v ∧ (oi' = none → o.2.loads = []) ∧ h' = vmH b s0 o.2 oi' nx' nn'
def wkR (Q : Res → Heap → Prop) : Res → Heap → Prop
  | .ret r, h => ∃ r' h', AVle r r' ∧ HLe h h' ∧ Q (.ret r') h'
  | .pan x, h => ∃ x' h', AVle x x' ∧ HLe h h' ∧ Q (.pan x') h'
theorem ecallR_wk {P : Program} {f : FuncId} {xs : List AV} {h : Heap} {Q : Res → Heap → Prop} (hc : ECallR P f xs h (wkR Q)) : ECallR P f xs h Q := by
  refine ⟨hc.1, fun X w g vs h1 h2 h3 h4 => ?_⟩
  refine (fnWay P f).mono (hc.2 X w g vs h1 h2 h3 h4) fun e w' ⟨r, h', g', a1, a2, a3, a4, a5, a7, a8⟩ => ?_
  cases r with
  | pan x =>
    obtain ⟨x', h'', q1, q2, q3⟩ := a2
    obtain ⟨u, rfl, a1⟩ := a1
    exact ⟨.pan x', h'', g', ⟨u, rfl, q1 _ _ _ _ (a1.stays (Stays.less (q2.ex X g')))⟩, q3, a3, q2.ok _ _ _ a4, fun b o hx i hi => a5 b o hx i (q2.ids i hi), a7, fun b o hx hb => a8 b o (q2.ex none2 g' b o hx) hb⟩
  | ret r =>
    obtain ⟨r', h'', q1, q2, q3⟩ := a2
    obtain ⟨u, rfl, a1⟩ := a1
    exact ⟨.ret r', h'', g', ⟨u, rfl, q1 _ _ _ _ (a1.stays (Stays.less (q2.ex X g')))⟩, q3, a3, q2.ok _ _ _ a4, fun b o hx i hi => a5 b o hx i (q2.ids i hi), a7, fun b o hx hb => a8 b o (q2.ex none2 g' b o hx) hb⟩
theorem doRet {b : List Nat} {s0 : Nat} {o : Option Nat × Rn} {r : AV} {h : Heap} (s' : Rn) (oi' : Option Nat) (nx' nn' : Nat) (hd : o = (none, s')) (ho : oi' = none → s'.loads = []) (hl : HLe h (vmH b s0 s' oi' nx' nn')) : wkR (doQ b s0 o) (.ret r) h := by
  subst hd
  exact ⟨r, _, AVle.refl _, hl, oi', nx', nn', rfl, ho, rfl⟩
theorem doPan {b : List Nat} {s0 : Nat} {o : Option Nat × Rn} {h : Heap} {x : AV} (v : Nat) (s' : Rn) (oi' : Option Nat) (nx' nn' : Nat) (hd : o = (some v, s')) (hx : AVle x (overA v)) (ho : oi' = none → s'.loads = []) (hl : HLe h (vmH b s0 s' oi' nx' nn')) : wkR (doQ b s0 o) (.pan x) h := by
  subst hd
  exact ⟨_, _, hx, hl, v, oi', nx', nn', rfl, rfl, ho, rfl⟩
theorem cells16 {l : List Nat} (h : l.length = 16) : ∃ c0 c1 c2 c3 c4 c5 c6 c7 c8 c9 c10 c11 c12 c13 c14 c15, l = [c0, c1, c2, c3, c4, c5, c6, c7, c8, c9, c10, c11, c12, c13, c14, c15] := by
  match l, h with
  | [c0, c1, c2, c3, c4, c5, c6, c7, c8, c9, c10, c11, c12, c13, c14, c15], _ => exact ⟨c0, c1, c2, c3, c4, c5, c6, c7, c8, c9, c10, c11, c12, c13, c14, c15, rfl⟩
theorem runC_get {b : List Nat} {at' a x steps k : Nat} {loads : List Nat} {oi : Option Nat} {c0 c1 c2 c3 c4 c5 c6 c7 c8 c9 c10 c11 c12 c13 c14 c15 : Nat} (hk : k < 16) :
    (runC b ⟨at', a, x, [c0, c1, c2, c3, c4, c5, c6, c7, c8, c9, c10, c11, c12, c13, c14, c15], steps, loads⟩ oi).getD (4 + k) .any = u32 ([c0, c1, c2, c3, c4, c5, c6, c7, c8, c9, c10, c11, c12, c13, c14, c15].getD k 0 : Nat) := by
  match k, hk with
  | 0, _ => rfl
  | 1, _ => rfl
  | 2, _ => rfl
  | 3, _ => rfl
  | 4, _ => rfl
  | 5, _ => rfl
  | 6, _ => rfl
  | 7, _ => rfl
  | 8, _ => rfl
  | 9, _ => rfl
  | 10, _ => rfl
  | 11, _ => rfl
  | 12, _ => rfl
  | 13, _ => rfl
  | 14, _ => rfl
  | 15, _ => rfl
  | n + 16, h => omega
theorem runC_set {b : List Nat} {at' a x steps k v : Nat} {loads : List Nat} {oi : Option Nat} {c0 c1 c2 c3 c4 c5 c6 c7 c8 c9 c10 c11 c12 c13 c14 c15 : Nat} (hk : k < 16) :
    splice (runC b ⟨at', a, x, [c0, c1, c2, c3, c4, c5, c6, c7, c8, c9, c10, c11, c12, c13, c14, c15], steps, loads⟩ oi) (4 + k) [u32 v] = runC b ⟨at', a, x, ([c0, c1, c2, c3, c4, c5, c6, c7, c8, c9, c10, c11, c12, c13, c14, c15]).set k v, steps, loads⟩ oi := by
  match k, hk with
  | 0, _ => rfl
  | 1, _ => rfl
  | 2, _ => rfl
  | 3, _ => rfl
  | 4, _ => rfl
  | 5, _ => rfl
  | 6, _ => rfl
  | 7, _ => rfl
  | 8, _ => rfl
  | 9, _ => rfl
  | 10, _ => rfl
  | 11, _ => rfl
  | 12, _ => rfl
  | 13, _ => rfl
  | 14, _ => rfl
  | 15, _ => rfl
  | n + 16, h => omega
theorem vimm_spec (b : List Nat) (i : Ins) (hk : (kof i.code).1 = 2) (s0 : Nat) (s : Rn) (oi : Option Nat) (h0 : oi = none → s.loads = []) (hs : s.ok) (nx : Nat) :
    ECallR Tryz.prog 42 [.bp (0, s0) 0, opA i .any] (vmH b s0 s oi nx 2) (doQ b s0 (doV b i s)) := by
  obtain ⟨at', a, x, cells, steps, loads⟩ := s
  obtain ⟨c0, c1, c2, c3, c4, c5, c6, c7, c8, c9, c10, c11, c12, c13, c14, c15, rfl⟩ := cells16 hs.n
  refine ecallR_wk (ecallR_of_aw Tryz.func42 rfl rfl ?_)
  (repeat((conv=>whnf);first|apply ω0|apply ω1|apply ω2|refine τ3 rfl ?_|refine τ4 rfl ?_|refine ⟨rfl,?_⟩|apply τa|refine τb rfl ?_|refine ⟨⟨by kernel_rfl,by kernel_rfl⟩,?_⟩|refine ⟨by decide,?_⟩|apply τt|apply τf))
  exact ret_is rfl (doRet ⟨at', i.k, x, _, steps, loads⟩ oi _ 2 (by unfold doV; rw [hk]; rfl) h0 (hle_tell _ _ rfl (.cons _ (List.Sublist.refl _)) (List.Sublist.refl _) ⟨rfl, OwnLe.refl _, trivial⟩ (PmEq.refl _)))
theorem vlenA_spec (b : List Nat) (i : Ins) (hk : (kof i.code).1 = 4) (s0 : Nat) (s : Rn) (oi : Option Nat) (h0 : oi = none → s.loads = []) (hs : s.ok) (nx : Nat) :
    ECallR Tryz.prog 44 [.bp (0, s0) 0, opA i .any] (vmH b s0 s oi nx 2) (doQ b s0 (doV b i s)) := by
  obtain ⟨at', a, x, cells, steps, loads⟩ := s
  obtain ⟨c0, c1, c2, c3, c4, c5, c6, c7, c8, c9, c10, c11, c12, c13, c14, c15, rfl⟩ := cells16 hs.n
  refine ecallR_wk (ecallR_of_aw Tryz.func44 rfl rfl ?_)
  (repeat((conv=>whnf);first|apply ω0|apply ω1|apply ω2|refine τ3 rfl ?_|refine τ4 rfl ?_|refine ⟨rfl,?_⟩|apply τa|refine τb rfl ?_|refine ⟨⟨by kernel_rfl,by kernel_rfl⟩,?_⟩|refine ⟨by decide,?_⟩|apply τt|apply τf))
  exact ret_is rfl (doRet ⟨at', 64, x, _, steps, loads⟩ oi _ 2 (by unfold doV; rw [hk]; rfl) h0 (hle_tell _ _ rfl (.cons _ (List.Sublist.refl _)) (List.Sublist.refl _) ⟨rfl, OwnLe.refl _, trivial⟩ (PmEq.refl _)))
theorem vimmX_spec (b : List Nat) (i : Ins) (hk : (kof i.code).1 = 5) (s0 : Nat) (s : Rn) (oi : Option Nat) (h0 : oi = none → s.loads = []) (hs : s.ok) (nx : Nat) :
    ECallR Tryz.prog 45 [.bp (0, s0) 0, opA i .any] (vmH b s0 s oi nx 2) (doQ b s0 (doV b i s)) := by
  obtain ⟨at', a, x, cells, steps, loads⟩ := s
  obtain ⟨c0, c1, c2, c3, c4, c5, c6, c7, c8, c9, c10, c11, c12, c13, c14, c15, rfl⟩ := cells16 hs.n
  refine ecallR_wk (ecallR_of_aw Tryz.func45 rfl rfl ?_)
  (repeat((conv=>whnf);first|apply ω0|apply ω1|apply ω2|refine τ3 rfl ?_|refine τ4 rfl ?_|refine ⟨rfl,?_⟩|apply τa|refine τb rfl ?_|refine ⟨⟨by kernel_rfl,by kernel_rfl⟩,?_⟩|refine ⟨by decide,?_⟩|apply τt|apply τf))
  exact ret_is rfl (doRet ⟨at', a, i.k, _, steps, loads⟩ oi _ 2 (by unfold doV; rw [hk]; rfl) h0 (hle_tell _ _ rfl (.cons _ (List.Sublist.refl _)) (List.Sublist.refl _) ⟨rfl, OwnLe.refl _, trivial⟩ (PmEq.refl _)))
theorem vlenX_spec (b : List Nat) (i : Ins) (hk : (kof i.code).1 = 7) (s0 : Nat) (s : Rn) (oi : Option Nat) (h0 : oi = none → s.loads = []) (hs : s.ok) (nx : Nat) :
    ECallR Tryz.prog 47 [.bp (0, s0) 0, opA i .any] (vmH b s0 s oi nx 2) (doQ b s0 (doV b i s)) := by
  obtain ⟨at', a, x, cells, steps, loads⟩ := s
  obtain ⟨c0, c1, c2, c3, c4, c5, c6, c7, c8, c9, c10, c11, c12, c13, c14, c15, rfl⟩ := cells16 hs.n
  refine ecallR_wk (ecallR_of_aw Tryz.func47 rfl rfl ?_)
  (repeat((conv=>whnf);first|apply ω0|apply ω1|apply ω2|refine τ3 rfl ?_|refine τ4 rfl ?_|refine ⟨rfl,?_⟩|apply τa|refine τb rfl ?_|refine ⟨⟨by kernel_rfl,by kernel_rfl⟩,?_⟩|refine ⟨by decide,?_⟩|apply τt|apply τf))
  exact ret_is rfl (doRet ⟨at', a, 64, _, steps, loads⟩ oi _ 2 (by unfold doV; rw [hk]; rfl) h0 (hle_tell _ _ rfl (.cons _ (List.Sublist.refl _)) (List.Sublist.refl _) ⟨rfl, OwnLe.refl _, trivial⟩ (PmEq.refl _)))
theorem vtoX_spec (b : List Nat) (i : Ins) (hk : (kof i.code).1 = 10) (s0 : Nat) (s : Rn) (oi : Option Nat) (h0 : oi = none → s.loads = []) (hs : s.ok) (nx : Nat) :
    ECallR Tryz.prog 50 [.bp (0, s0) 0, opA i .any] (vmH b s0 s oi nx 2) (doQ b s0 (doV b i s)) := by
  obtain ⟨at', a, x, cells, steps, loads⟩ := s
  obtain ⟨c0, c1, c2, c3, c4, c5, c6, c7, c8, c9, c10, c11, c12, c13, c14, c15, rfl⟩ := cells16 hs.n
  refine ecallR_wk (ecallR_of_aw Tryz.func50 rfl rfl ?_)
  (repeat((conv=>whnf);first|apply ω0|apply ω1|apply ω2|refine τ3 rfl ?_|refine τ4 rfl ?_|refine ⟨rfl,?_⟩|apply τa|refine τb rfl ?_|refine ⟨⟨by kernel_rfl,by kernel_rfl⟩,?_⟩|refine ⟨by decide,?_⟩|apply τt|apply τf))
  exact ret_is rfl (doRet ⟨at', a, a, _, steps, loads⟩ oi _ 2 (by unfold doV; rw [hk]; rfl) h0 (hle_tell _ _ rfl (.cons _ (List.Sublist.refl _)) (List.Sublist.refl _) ⟨rfl, OwnLe.refl _, trivial⟩ (PmEq.refl _)))
theorem vtoA_spec (b : List Nat) (i : Ins) (hk : (kof i.code).1 = 11) (s0 : Nat) (s : Rn) (oi : Option Nat) (h0 : oi = none → s.loads = []) (hs : s.ok) (nx : Nat) :
    ECallR Tryz.prog 51 [.bp (0, s0) 0, opA i .any] (vmH b s0 s oi nx 2) (doQ b s0 (doV b i s)) := by
  obtain ⟨at', a, x, cells, steps, loads⟩ := s
  obtain ⟨c0, c1, c2, c3, c4, c5, c6, c7, c8, c9, c10, c11, c12, c13, c14, c15, rfl⟩ := cells16 hs.n
  refine ecallR_wk (ecallR_of_aw Tryz.func51 rfl rfl ?_)
  (repeat((conv=>whnf);first|apply ω0|apply ω1|apply ω2|refine τ3 rfl ?_|refine τ4 rfl ?_|refine ⟨rfl,?_⟩|apply τa|refine τb rfl ?_|refine ⟨⟨by kernel_rfl,by kernel_rfl⟩,?_⟩|refine ⟨by decide,?_⟩|apply τt|apply τf))
  exact ret_is rfl (doRet ⟨at', x, x, _, steps, loads⟩ oi _ 2 (by unfold doV; rw [hk]; rfl) h0 (hle_tell _ _ rfl (.cons _ (List.Sublist.refl _)) (List.Sublist.refl _) ⟨rfl, OwnLe.refl _, trivial⟩ (PmEq.refl _)))
theorem vcellA_spec (b : List Nat) (i : Ins) (hk : (kof i.code).1 = 3) (h16 : i.k < 16) (s0 : Nat) (s : Rn) (oi : Option Nat) (h0 : oi = none → s.loads = []) (hs : s.ok) (nx : Nat) :
    ECallR Tryz.prog 43 [.bp (0, s0) 0, opA i .any] (vmH b s0 s oi nx 2) (doQ b s0 (doV b i s)) := by
  obtain ⟨at', a, x, cells, steps, loads⟩ := s
  obtain ⟨c0, c1, c2, c3, c4, c5, c6, c7, c8, c9, c10, c11, c12, c13, c14, c15, rfl⟩ := cells16 hs.n
  refine ecallR_wk (ecallR_of_aw Tryz.func43 rfl rfl ?_)
  (repeat((conv=>whnf);first|apply ω0|apply ω1|apply ω2|refine τ3 rfl ?_|refine τ4 rfl ?_|refine ⟨rfl,?_⟩|apply τa|refine τb rfl ?_|refine ⟨⟨by kernel_rfl,by kernel_rfl⟩,?_⟩|refine ⟨by decide,?_⟩|apply τt|apply τf))
  (refine aw_draw 9 ?_ ?_ ?_ ?_; (· kernel_rfl); (· kernel_rfl); (· kernel_rfl))
  (repeat((conv=>whnf);first|apply ω0|apply ω1|apply ω2|refine τ3 rfl ?_|refine τ4 rfl ?_|refine ⟨rfl,?_⟩|apply τa|refine τb rfl ?_|refine ⟨⟨by kernel_rfl,by kernel_rfl⟩,?_⟩|refine ⟨by decide,?_⟩|apply τt|apply τf))
  refine ⟨⟨by omega, by omega⟩, splitO_eq (b := .bp (0, s0) (4 + i.k)) (congrArg (AV.bp (0, s0)) (by rw [show Tryz.prog.cellsOf 26 = 1 by kernel_rfl, Nat.mul_one]; rfl)) ?_⟩
  (conv => whnf)
  refine ⟨⟨rfl, by show 4 + i.k < 23; omega⟩, splitO_eq (runC_get h16) ?_⟩
  (repeat((conv=>whnf);first|apply ω0|apply ω1|apply ω2|refine τ3 rfl ?_|refine τ4 rfl ?_|refine ⟨rfl,?_⟩|apply τa|refine τb rfl ?_|refine ⟨⟨by kernel_rfl,by kernel_rfl⟩,?_⟩|refine ⟨by decide,?_⟩|apply τt|apply τf))
  exact ret_is rfl (doRet ⟨at', ([c0, c1, c2, c3, c4, c5, c6, c7, c8, c9, c10, c11, c12, c13, c14, c15]).getD i.k 0, x, _, steps, loads⟩ oi _ 2 (by unfold doV; rw [hk]; rfl) h0 (hle_tell _ _ rfl (.cons _ (List.Sublist.refl _)) (List.Sublist.refl _) ⟨rfl, OwnLe.refl _, trivial⟩ (PmEq.refl _)))
theorem vcellX_spec (b : List Nat) (i : Ins) (hk : (kof i.code).1 = 6) (h16 : i.k < 16) (s0 : Nat) (s : Rn) (oi : Option Nat) (h0 : oi = none → s.loads = []) (hs : s.ok) (nx : Nat) :
    ECallR Tryz.prog 46 [.bp (0, s0) 0, opA i .any] (vmH b s0 s oi nx 2) (doQ b s0 (doV b i s)) := by
  obtain ⟨at', a, x, cells, steps, loads⟩ := s
  obtain ⟨c0, c1, c2, c3, c4, c5, c6, c7, c8, c9, c10, c11, c12, c13, c14, c15, rfl⟩ := cells16 hs.n
  refine ecallR_wk (ecallR_of_aw Tryz.func46 rfl rfl ?_)
  (repeat((conv=>whnf);first|apply ω0|apply ω1|apply ω2|refine τ3 rfl ?_|refine τ4 rfl ?_|refine ⟨rfl,?_⟩|apply τa|refine τb rfl ?_|refine ⟨⟨by kernel_rfl,by kernel_rfl⟩,?_⟩|refine ⟨by decide,?_⟩|apply τt|apply τf))
  (refine aw_draw 9 ?_ ?_ ?_ ?_; (· kernel_rfl); (· kernel_rfl); (· kernel_rfl))
  (repeat((conv=>whnf);first|apply ω0|apply ω1|apply ω2|refine τ3 rfl ?_|refine τ4 rfl ?_|refine ⟨rfl,?_⟩|apply τa|refine τb rfl ?_|refine ⟨⟨by kernel_rfl,by kernel_rfl⟩,?_⟩|refine ⟨by decide,?_⟩|apply τt|apply τf))
  refine ⟨⟨by omega, by omega⟩, splitO_eq (b := .bp (0, s0) (4 + i.k)) (congrArg (AV.bp (0, s0)) (by rw [show Tryz.prog.cellsOf 26 = 1 by kernel_rfl, Nat.mul_one]; rfl)) ?_⟩
  (conv => whnf)
  refine ⟨⟨rfl, by show 4 + i.k < 23; omega⟩, splitO_eq (runC_get h16) ?_⟩
  (repeat((conv=>whnf);first|apply ω0|apply ω1|apply ω2|refine τ3 rfl ?_|refine τ4 rfl ?_|refine ⟨rfl,?_⟩|apply τa|refine τb rfl ?_|refine ⟨⟨by kernel_rfl,by kernel_rfl⟩,?_⟩|refine ⟨by decide,?_⟩|apply τt|apply τf))
  exact ret_is rfl (doRet ⟨at', a, ([c0, c1, c2, c3, c4, c5, c6, c7, c8, c9, c10, c11, c12, c13, c14, c15]).getD i.k 0, _, steps, loads⟩ oi _ 2 (by unfold doV; rw [hk]; rfl) h0 (hle_tell _ _ rfl (.cons _ (List.Sublist.refl _)) (List.Sublist.refl _) ⟨rfl, OwnLe.refl _, trivial⟩ (PmEq.refl _)))
theorem vstoreA_spec (b : List Nat) (i : Ins) (hk : (kof i.code).1 = 8) (h16 : i.k < 16) (s0 : Nat) (s : Rn) (oi : Option Nat) (h0 : oi = none → s.loads = []) (hs : s.ok) (nx : Nat) :
    ECallR Tryz.prog 48 [.bp (0, s0) 0, opA i .any] (vmH b s0 s oi nx 2) (doQ b s0 (doV b i s)) := by
  obtain ⟨at', a, x, cells, steps, loads⟩ := s
  obtain ⟨c0, c1, c2, c3, c4, c5, c6, c7, c8, c9, c10, c11, c12, c13, c14, c15, rfl⟩ := cells16 hs.n
  refine ecallR_wk (ecallR_of_aw Tryz.func48 rfl rfl ?_)
  (repeat((conv=>whnf);first|apply ω0|apply ω1|apply ω2|refine τ3 rfl ?_|refine τ4 rfl ?_|refine ⟨rfl,?_⟩|apply τa|refine τb rfl ?_|refine ⟨⟨by kernel_rfl,by kernel_rfl⟩,?_⟩|refine ⟨by decide,?_⟩|apply τt|apply τf))
  (refine aw_draw 10 ?_ ?_ ?_ ?_; (· kernel_rfl); (· kernel_rfl); (· kernel_rfl))
  (repeat((conv=>whnf);first|apply ω0|apply ω1|apply ω2|refine τ3 rfl ?_|refine τ4 rfl ?_|refine ⟨rfl,?_⟩|apply τa|refine τb rfl ?_|refine ⟨⟨by kernel_rfl,by kernel_rfl⟩,?_⟩|refine ⟨by decide,?_⟩|apply τt|apply τf))
  refine ⟨⟨by omega, by omega⟩, splitO_eq (b := .bp (0, s0) (4 + i.k)) (congrArg (AV.bp (0, s0)) (by rw [show Tryz.prog.cellsOf 26 = 1 by kernel_rfl, Nat.mul_one]; rfl)) ?_⟩
  (conv => whnf)
  refine ⟨⟨rfl, by show 4 + i.k + 1 ≤ 23; omega⟩, ?_⟩
  (repeat((conv=>whnf);first|apply ω0|apply ω1|apply ω2|refine τ3 rfl ?_|refine τ4 rfl ?_|refine ⟨rfl,?_⟩|apply τa|refine τb rfl ?_|refine ⟨⟨by kernel_rfl,by kernel_rfl⟩,?_⟩|refine ⟨by decide,?_⟩|apply τt|apply τf))
  exact ret_is rfl (doRet ⟨at', a, x, ([c0, c1, c2, c3, c4, c5, c6, c7, c8, c9, c10, c11, c12, c13, c14, c15]).set i.k a, steps, loads⟩ oi _ 2 (by unfold doV; rw [hk]; rfl) h0 (hle_tell _ _ rfl (.cons _ (List.Sublist.refl _)) (List.Sublist.refl _) ⟨rfl, OwnLe.of_eq (congrArg Own.c (runC_set h16)), trivial⟩ (PmEq.refl _)))
theorem vstoreX_spec (b : List Nat) (i : Ins) (hk : (kof i.code).1 = 9) (h16 : i.k < 16) (s0 : Nat) (s : Rn) (oi : Option Nat) (h0 : oi = none → s.loads = []) (hs : s.ok) (nx : Nat) :
    ECallR Tryz.prog 49 [.bp (0, s0) 0, opA i .any] (vmH b s0 s oi nx 2) (doQ b s0 (doV b i s)) := by
  obtain ⟨at', a, x, cells, steps, loads⟩ := s
  obtain ⟨c0, c1, c2, c3, c4, c5, c6, c7, c8, c9, c10, c11, c12, c13, c14, c15, rfl⟩ := cells16 hs.n
  refine ecallR_wk (ecallR_of_aw Tryz.func49 rfl rfl ?_)
  (repeat((conv=>whnf);first|apply ω0|apply ω1|apply ω2|refine τ3 rfl ?_|refine τ4 rfl ?_|refine ⟨rfl,?_⟩|apply τa|refine τb rfl ?_|refine ⟨⟨by kernel_rfl,by kernel_rfl⟩,?_⟩|refine ⟨by decide,?_⟩|apply τt|apply τf))
  (refine aw_draw 10 ?_ ?_ ?_ ?_; (· kernel_rfl); (· kernel_rfl); (· kernel_rfl))
  (repeat((conv=>whnf);first|apply ω0|apply ω1|apply ω2|refine τ3 rfl ?_|refine τ4 rfl ?_|refine ⟨rfl,?_⟩|apply τa|refine τb rfl ?_|refine ⟨⟨by kernel_rfl,by kernel_rfl⟩,?_⟩|refine ⟨by decide,?_⟩|apply τt|apply τf))
  refine ⟨⟨by omega, by omega⟩, splitO_eq (b := .bp (0, s0) (4 + i.k)) (congrArg (AV.bp (0, s0)) (by rw [show Tryz.prog.cellsOf 26 = 1 by kernel_rfl, Nat.mul_one]; rfl)) ?_⟩
  (conv => whnf)
  refine ⟨⟨rfl, by show 4 + i.k + 1 ≤ 23; omega⟩, ?_⟩
  (repeat((conv=>whnf);first|apply ω0|apply ω1|apply ω2|refine τ3 rfl ?_|refine τ4 rfl ?_|refine ⟨rfl,?_⟩|apply τa|refine τb rfl ?_|refine ⟨⟨by kernel_rfl,by kernel_rfl⟩,?_⟩|refine ⟨by decide,?_⟩|apply τt|apply τf))
  exact ret_is rfl (doRet ⟨at', a, x, ([c0, c1, c2, c3, c4, c5, c6, c7, c8, c9, c10, c11, c12, c13, c14, c15]).set i.k x, steps, loads⟩ oi _ 2 (by unfold doV; rw [hk]; rfl) h0 (hle_tell _ _ rfl (.cons _ (List.Sublist.refl _)) (List.Sublist.refl _) ⟨rfl, OwnLe.of_eq (congrArg Own.c (runC_set h16)), trivial⟩ (PmEq.refl _)))
theorem vneg_spec (b : List Nat) (i : Ins) (hk : (kof i.code).1 = 12) (s0 : Nat) (s : Rn) (oi : Option Nat) (h0 : oi = none → s.loads = []) (hs : s.ok) (nx : Nat) :
    ECallR Tryz.prog 52 [.bp (0, s0) 0, opA i .any] (vmH b s0 s oi nx 2) (doQ b s0 (doV b i s)) := by
  obtain ⟨at', a, x, cells, steps, loads⟩ := s
  obtain ⟨c0, c1, c2, c3, c4, c5, c6, c7, c8, c9, c10, c11, c12, c13, c14, c15, rfl⟩ := cells16 hs.n
  refine ecallR_wk (ecallR_of_aw Tryz.func52 rfl rfl ?_)
  (repeat((conv=>whnf);first|apply ω0|apply ω1|apply ω2|refine τ3 rfl ?_|refine τ4 rfl ?_|refine ⟨rfl,?_⟩|apply τa|refine τb rfl ?_|refine ⟨⟨by kernel_rfl,by kernel_rfl⟩,?_⟩|refine ⟨by decide,?_⟩|apply τt|apply τf))
  have hv : IntKind.u32.wrap (0 - (a : Int)) = (((4294967296 - a) % 4294967296 : Nat) : Int) := by
    have := hs.a
    dsimp only at this
    show (0 - (a : Int)) % 4294967296 = _
    omega
  exact ret_is rfl (doRet ⟨at', (4294967296 - a) % 4294967296, x, _, steps, loads⟩ oi _ 2 (by unfold doV; rw [hk]; rfl) h0 (hle_tell _ _ rfl (.cons _ (List.Sublist.refl _)) (List.Sublist.refl _) ⟨rfl, ⟨AVle.refl _, AVle.refl _, le_int hv, LeL.refl _⟩, trivial⟩ (PmEq.refl _)))
theorem vjump_spec (b : List Nat) (i : Ins) (hk : (kof i.code).1 = 13) (s0 : Nat) (s : Rn) (oi : Option Nat) (h0 : oi = none → s.loads = []) (hs : s.ok) (hj : s.at' + i.k ≤ 1000000) (nx : Nat) :
    ECallR Tryz.prog 53 [.bp (0, s0) 0, opA i .any] (vmH b s0 s oi nx 2) (doQ b s0 (doV b i s)) := by
  obtain ⟨at', a, x, cells, steps, loads⟩ := s
  obtain ⟨c0, c1, c2, c3, c4, c5, c6, c7, c8, c9, c10, c11, c12, c13, c14, c15, rfl⟩ := cells16 hs.n
  refine ecallR_wk (ecallR_of_aw Tryz.func53 rfl rfl ?_)
  (repeat((conv=>whnf);first|apply ω0|apply ω1|apply ω2|refine τ3 rfl ?_|refine τ4 rfl ?_|refine ⟨rfl,?_⟩|apply τa|refine τb rfl ?_|refine ⟨⟨by kernel_rfl,by kernel_rfl⟩,?_⟩|refine ⟨by decide,?_⟩|apply τt|apply τf))
  (refine aw_draw 9 ?_ ?_ ?_ ?_; (· kernel_rfl); (· kernel_rfl); (· kernel_rfl))
  (repeat((conv=>whnf);first|apply ω0|apply ω1|apply ω2|refine τ3 rfl ?_|refine τ4 rfl ?_|refine ⟨rfl,?_⟩|apply τa|refine τb rfl ?_|refine ⟨⟨by kernel_rfl,by kernel_rfl⟩,?_⟩|refine ⟨by decide,?_⟩|apply τt|apply τf))
  have hv : IntKind.i64.wrap ((at' : Int) + IntKind.i64.wrap (i.k : Int)) = ((at' + i.k : Nat) : Int) := by
    dsimp only at hj
    rw [show IntKind.i64.wrap (i.k : Int) = i.k from wrap_id (by omega) (by omega), wrap_id (by omega) (by omega)]; omega
  exact ret_is rfl (doRet ⟨at' + i.k, a, x, _, steps, loads⟩ oi _ 2 (by unfold doV; rw [hk]; rfl) h0 (hle_tell _ _ rfl (.cons _ (List.Sublist.refl _)) (List.Sublist.refl _) ⟨rfl, ⟨AVle.refl _, le_int hv, AVle.refl _, LeL.refl _⟩, trivial⟩ (PmEq.refl _)))
theorem vretK_spec (b : List Nat) (i : Ins) (hk : (kof i.code).1 = 14) (s0 : Nat) (s : Rn) (oi : Option Nat) (h0 : oi = none → s.loads = []) (hs : s.ok) (nx : Nat) :
    ECallR Tryz.prog 54 [.bp (0, s0) 0, opA i .any] (vmH b s0 s oi nx 2) (doQ b s0 (doV b i s)) := by
  obtain ⟨at', a, x, cells, steps, loads⟩ := s
  obtain ⟨c0, c1, c2, c3, c4, c5, c6, c7, c8, c9, c10, c11, c12, c13, c14, c15, rfl⟩ := cells16 hs.n
  refine ecallR_wk (ecallR_of_aw Tryz.func54 rfl rfl ?_)
  (repeat((conv=>whnf);first|apply ω0|apply ω1|apply ω2|refine τ3 rfl ?_|refine τ4 rfl ?_|refine ⟨rfl,?_⟩|apply τa|refine τb rfl ?_|refine ⟨⟨by kernel_rfl,by kernel_rfl⟩,?_⟩|refine ⟨by decide,?_⟩|apply τt|apply τf))
  exact doPan i.k ⟨at', a, x, _, steps, loads⟩ oi _ 2 (by unfold doV; rw [hk]; rfl) (AVle.refl _) h0 (hle_tell _ _ rfl (.cons _ (List.Sublist.refl _)) (List.Sublist.refl _) ⟨rfl, OwnLe.refl _, trivial⟩ (PmEq.refl _))
theorem vretA_spec (b : List Nat) (i : Ins) (hk : (kof i.code).1 = 15) (s0 : Nat) (s : Rn) (oi : Option Nat) (h0 : oi = none → s.loads = []) (hs : s.ok) (nx : Nat) :
    ECallR Tryz.prog 55 [.bp (0, s0) 0, opA i .any] (vmH b s0 s oi nx 2) (doQ b s0 (doV b i s)) := by
  obtain ⟨at', a, x, cells, steps, loads⟩ := s
  obtain ⟨c0, c1, c2, c3, c4, c5, c6, c7, c8, c9, c10, c11, c12, c13, c14, c15, rfl⟩ := cells16 hs.n
  refine ecallR_wk (ecallR_of_aw Tryz.func55 rfl rfl ?_)
  (repeat((conv=>whnf);first|apply ω0|apply ω1|apply ω2|refine τ3 rfl ?_|refine τ4 rfl ?_|refine ⟨rfl,?_⟩|apply τa|refine τb rfl ?_|refine ⟨⟨by kernel_rfl,by kernel_rfl⟩,?_⟩|refine ⟨by decide,?_⟩|apply τt|apply τf))
  exact doPan a ⟨at', a, x, _, steps, loads⟩ oi _ 2 (by unfold doV; rw [hk]; rfl) (AVle.refl _) h0 (hle_tell _ _ rfl (.cons _ (List.Sublist.refl _)) (List.Sublist.refl _) ⟨rfl, OwnLe.refl _, trivial⟩ (PmEq.refl _))
theorem snoc_row {l : List Nat} {x : Int} {v s c : Nat} {f' : Nat → AV} (hx : x = (v : Nat)) (hf : f' 0 = int x) : AVle (.os 1 (l.length + 1) (appF l.length (natF l) f') (some (c, s))) (.os 1 (l ++ [v]).length (natF (l ++ [v])) (some (1, s))) := by
  refine AVle.trans (b := .os 1 (l.length + 1) (natF (l ++ [v])) (some (c, s))) (AVle.os_fun (appF_one (fun k hk => ?_) ?_)) ?_
  · simp [natF, List.getD, List.getElem?_append_left hk, hk]
  · rw [hf, hx]; simp [natF, List.getD]
  · rw [List.length_append]; exact AVle.os_nm rfl
theorem le_load {b : List Nat} {at' a x steps a' : Nat} {loads loads' : List Nat} {oi oi' : Option Nat} {c0 c1 c2 c3 c4 c5 c6 c7 c8 c9 c10 c11 c12 c13 c14 c15 : Nat} {V X : AV} (hV : AVle V (u32 a')) (hX : AVle X (.os 1 loads'.length (natF loads') (nmN 1 oi'))) :
    OwnLe (.c (splice (splice (runC b ⟨at', a, x, [c0, c1, c2, c3, c4, c5, c6, c7, c8, c9, c10, c11, c12, c13, c14, c15], steps, loads⟩ oi) 2 [V]) 22 [X])) (.c (runC b ⟨at', a', x, [c0, c1, c2, c3, c4, c5, c6, c7, c8, c9, c10, c11, c12, c13, c14, c15], steps, loads'⟩ oi')) := by
  show LeL [bytesA b, int at', V, u32 x, u32A c0, u32A c1, u32A c2, u32A c3, u32A c4, u32A c5, u32A c6, u32A c7, u32A c8, u32A c9, u32A c10, u32A c11, u32A c12, u32A c13, u32A c14, u32A c15, u32 0, int steps, X] [bytesA b, int at', u32 a', u32 x, u32A c0, u32A c1, u32A c2, u32A c3, u32A c4, u32A c5, u32A c6, u32A c7, u32A c8, u32A c9, u32A c10, u32A c11, u32A c12, u32A c13, u32A c14, u32A c15, u32 0, int steps, .os 1 loads'.length (natF loads') (nmN 1 oi')]
  exact ⟨AVle.refl _, AVle.refl _, hV, AVle.refl _, AVle.refl _, AVle.refl _, AVle.refl _, AVle.refl _, AVle.refl _, AVle.refl _, AVle.refl _, AVle.refl _, AVle.refl _, AVle.refl _, AVle.refl _, AVle.refl _, AVle.refl _, AVle.refl _, AVle.refl _, AVle.refl _, AVle.refl _, AVle.refl _, hX, trivial⟩
theorem vload_spec (b : List Nat) (hb : okB b) (hbl : b.length = 64) (i : Ins) (hk : (kof i.code).1 = 1) (h60 : i.k ≤ 60) (s0 : Nat) (s : Rn) (oi : Option Nat) (h0 : oi = none → s.loads = []) (hs : s.ok) (hl : s.loads.length ≤ 1000000) (nx : Nat) :
    ECallR Tryz.prog 41 [.bp (0, s0) 0, opA i .any] (vmH b s0 s oi nx 2) (doQ b s0 (doV b i s)) := by
  obtain ⟨at', a, x, cells, steps, loads⟩ := s
  obtain ⟨c0, c1, c2, c3, c4, c5, c6, c7, c8, c9, c10, c11, c12, c13, c14, c15, rfl⟩ := cells16 hs.n
  have hwk : IntKind.i64.wrap (i.k : Int) = (i.k : Nat) := wrap_id (by omega) (by omega)
  have hz : thereI b.length (i.k : Int) 4 = 0 := by unfold thereI; rw [if_pos ⟨by omega, by omega⟩]
  have hg := get_spec b hb (by omega) (i.k : Int) ⟨by omega, by omega⟩ 4 (.inr (.inr (.inl rfl))) false
  rw [if_pos hz, hz] at hg
  have hg : Tells Tryz.prog 65 [bytesA b, int i.k, int 4, boolA false] (.tup [u64 (wordL b i.k : Nat), int 0]) := hg
  have hw := wordL_lt hb i.k
  have hl2 : loads.length ≤ 1000000 := hl
  have hwv : IntKind.u32.wrap (wordL b i.k : Nat) = (wordL b i.k : Nat) := by show ((wordL b i.k : Nat) : Int) % 4294967296 = _; omega
  refine ecallR_wk (ecallR_of_aw Tryz.func41 rfl rfl ?_)
  (repeat((conv=>whnf);first|apply ω0|apply ω1|apply ω2|refine τ3 rfl ?_|refine τ4 rfl ?_|refine ⟨rfl,?_⟩|apply τa|refine τb rfl ?_|refine ⟨⟨by kernel_rfl,by kernel_rfl⟩,?_⟩|refine ⟨by decide,?_⟩|apply τt|apply τf))
  (refine aw_draw 14 ?_ ?_ ?_ ?_; (· kernel_rfl); (· kernel_rfl); (· kernel_rfl))
  (repeat((conv=>whnf);first|apply ω0|apply ω1|apply ω2|refine τ3 rfl ?_|refine τ4 rfl ?_|refine ⟨rfl,?_⟩|apply τa|refine τb rfl ?_|refine ⟨⟨by kernel_rfl,by kernel_rfl⟩,?_⟩|refine ⟨by decide,?_⟩|apply τt|apply τf))
  refine ex_yields (yields_tells rfl rfl hg ⟨AVle.refl _, le_int hwk, AVle.refl _, AVle.refl _, trivial⟩ (NoId.tup fun c hc => ?_)) ?_
  · simp at hc; rcases hc with rfl | rfl <;> exact NoId.v _
  (repeat((conv=>whnf);first|apply ω0|apply ω1|apply ω2|refine τ3 rfl ?_|refine τ4 rfl ?_|refine ⟨rfl,?_⟩|apply τa|refine τb rfl ?_|refine ⟨⟨by kernel_rfl,by kernel_rfl⟩,?_⟩|refine ⟨by decide,?_⟩|apply τt|apply τf))
  refine aw_mix 12 _ (fun i => match i with | 11 => true | _ => false) [0, 1, 2, 3, 4, 5, 6, 7, 8, 9, 10, 11] (by kernel_rfl) (by kernel_rfl) (HB.refl _) ?_
  (repeat((conv=>whnf);first|apply ω0|apply ω1|apply ω2|refine τ3 rfl ?_|refine τ4 rfl ?_|refine ⟨rfl,?_⟩|apply τa|refine τb rfl ?_|refine ⟨⟨by kernel_rfl,by kernel_rfl⟩,?_⟩|refine ⟨by decide,?_⟩|apply τt|apply τf))
  refine ⟨_, eff_append1 (e := 3) (c := 1) (pm := []) (HB.refl _) rfl rfl rfl (.inr ⟨_, rfl⟩) (by kernel_rfl) (by kernel_rfl) (by kernel_rfl) (.inr rfl) (by kernel_rfl) (List.append_nil _).symm (oneRow_one rfl) (by show (loads.length + 1) * 8 ≤ _; omega) (by show loads.length + 1 ≤ _; omega), fun r h' hr => ?_⟩
  obtain ⟨rfl, rfl⟩ := hr
  (repeat((conv=>whnf);first|apply ω0|apply ω1|apply ω2|refine τ3 rfl ?_|refine τ4 rfl ?_|refine ⟨rfl,?_⟩|apply τa|refine τb rfl ?_|refine ⟨⟨by kernel_rfl,by kernel_rfl⟩,?_⟩|refine ⟨by decide,?_⟩|apply τt|apply τf))
  exact ret_is rfl (doRet ⟨at', wordL b i.k, x, _, steps, loads ++ [i.k]⟩ (some _) _ 2 (by unfold doV; rw [hk]; rfl) (fun h => by cases h) (hle_tell _ _ rfl (.cons _ (List.Sublist.refl _)) (List.Sublist.refl _) ⟨rfl, le_load (le_int hwv) (snoc_row hwk rfl), trivial⟩ ⟨rfl, by simp, trivial⟩))
end Go.Proofs.W

namespace Go.Proofs.W
open Go.Vl
set_option maxRecDepth 100000

theorem other_spec (b : List Nat) (i : Ins) (s : Rn) (oi : Option Nat) : Tells Tryz.prog 56 [.rp (runC b s oi), opA i .any] (u32 (altV i s : Nat)) := by
  refine tells_of_aw Tryz.func56 rfl rfl fun nx => ?_
  (repeat((conv=>whnf);first|apply ω0|apply ω1|apply ω2|refine τ3 rfl ?_|refine τ4 rfl ?_|refine ⟨rfl,?_⟩|apply τa|refine τb rfl ?_|refine ⟨⟨by kernel_rfl,by kernel_rfl⟩,?_⟩|refine ⟨by decide,?_⟩|apply τt|apply τf))
  intro c hc
  (repeat((conv=>whnf);first|apply ω0|apply ω1|apply ω2|refine τ3 rfl ?_|refine τ4 rfl ?_|refine ⟨rfl,?_⟩|apply τa|refine τb rfl ?_|refine ⟨⟨by kernel_rfl,by kernel_rfl⟩,?_⟩|refine ⟨by decide,?_⟩|apply τt|apply τf))
  cases c
  · (repeat((conv=>whnf);first|apply ω0|apply ω1|apply ω2|refine τ3 rfl ?_|refine τ4 rfl ?_|refine ⟨rfl,?_⟩|apply τa|refine τb rfl ?_|refine ⟨⟨by kernel_rfl,by kernel_rfl⟩,?_⟩|refine ⟨by decide,?_⟩|apply τt|apply τf))
    refine ret_tells rfl (le_int ?_)
    unfold altV; rw [← hc]; rfl
  · (repeat((conv=>whnf);first|apply ω0|apply ω1|apply ω2|refine τ3 rfl ?_|refine τ4 rfl ?_|refine ⟨rfl,?_⟩|apply τa|refine τb rfl ?_|refine ⟨⟨by kernel_rfl,by kernel_rfl⟩,?_⟩|refine ⟨by decide,?_⟩|apply τt|apply τf))
    refine ret_tells rfl (le_int ?_)
    unfold altV; rw [← hc]; rfl
theorem w32 {n : Nat} : IntKind.u32.wrap (n : Int) = ((n % 4294967296 : Nat) : Int) := by show (n : Int) % 4294967296 = _; omega
theorem w32_id {n : Nat} (h : n < 4294967296) : IntKind.u32.wrap (n : Int) = (n : Int) := by rw [w32, Nat.mod_eq_of_lt h]
theorem bits_xor {a b : Nat} (ha : a < 4294967296) (hb : b < 4294967296) : bitsI .xor .u32 a b = ((a ^^^ b : Nat) : Int) := by
  have hx : a ^^^ b < 2 ^ 32 := Nat.xor_lt_two_pow (n := 32) ha hb
  unfold bitsI
  simp only [BitVec.toNat_xor]
  rw [ofInt_nat (by exact ha), ofInt_nat (by exact hb)]
  exact w32_id hx
theorem nu32_or' {a b : Nat} (ha : a < 4294967296) (hb : b < 4294967296) : bitsI .or .u32 a b = ((a ||| b : Nat) : Int) := by
  have hx : a ||| b < 2 ^ 32 := Nat.or_lt_two_pow (n := 32) ha hb
  exact bits_or (k := .u32) ha hb (w32_id hx)
theorem add32 (a n : Nat) : IntKind.u32.wrap ((a : Int) + n) = (((a + n) % 4294967296 : Nat) : Int) := by
  rw [← w32]; rfl
theorem sub32 {a n : Nat} (hn : n < 4294967296) : IntKind.u32.wrap ((a : Int) - n) = (((a + 4294967296 - n) % 4294967296 : Nat) : Int) := by
  show ((a : Int) - n) % 4294967296 = _; omega
theorem mul32 (a n : Nat) : IntKind.u32.wrap ((a : Int) * n) = ((a * n % 4294967296 : Nat) : Int) := by
  rw [← w32]; rfl
theorem quo32 {a n : Nat} (ha : a < 4294967296) : IntKind.u32.wrap ((a : Int).tdiv n) = ((a / n : Nat) : Int) := by
  have : (a : Int).tdiv n = ((a / n : Nat) : Int) := rfl
  rw [this, w32_id (Nat.lt_of_le_of_lt (Nat.div_le_self _ _) ha)]
theorem rem32 (n : Nat) : Int.toNat ((n : Int).tmod 32) = n % 32 := rfl
theorem shl32 (a n : Nat) : IntKind.u32.wrap ((a : Int) * 2 ^ (min (Int.toNat ((n : Int).tmod 32)) IntKind.u32.bits)) = ((a * 2 ^ (n % 32) % 4294967296 : Nat) : Int) := by
  have hm : min (Int.toNat ((n : Int).tmod 32)) IntKind.u32.bits = n % 32 := by
    rw [rem32]; show min (n % 32) 32 = _; omega
  rw [hm, ← w32]
  push_cast
  rfl
theorem shr32 (a n : Nat) : (a : Int).fdiv (2 ^ (min (Int.toNat ((n : Int).tmod 32)) IntKind.u32.bits)) = ((a / 2 ^ (n % 32) : Nat) : Int) := by
  have hm : min (Int.toNat ((n : Int).tmod 32)) IntKind.u32.bits = n % 32 := by
    rw [rem32]; show min (n % 32) 32 = _; omega
  rw [hm, Int.fdiv_eq_ediv_of_nonneg _ (by exact_mod_cast Nat.zero_le _)]
  simp
theorem reckon_spec (b : List Nat) (i : Ins) (hi : i.ok) (h16 : 16 ≤ (kof i.code).1) (h25 : (kof i.code).1 < 25) (s0 : Nat) (s : Rn) (oi : Option Nat) (h0 : oi = none → s.loads = []) (hs : s.ok) (nx : Nat) :
    ECallR Tryz.prog 27 [.bp (0, s0) 0, opA i .any] (vmH b s0 s oi nx 2) (doQ b s0 (doV b i s)) := by
  have hn := altV_lt hi hs
  have ha := hs.a
  have hoth := other_spec b i s oi
  have hd : doV b i s = (match reckV (kof i.code).1 s.a (altV i s) with | some v => (none, { s with a := v }) | none => (some 0, s)) := by
    unfold doV
    split <;> first | (exfalso; omega) | skip
    rw [if_pos h25]
    try rfl
  generalize altV i s = n at *
  obtain ⟨at', a, x, cells, steps, loads⟩ := s
  obtain ⟨c0, c1, c2, c3, c4, c5, c6, c7, c8, c9, c10, c11, c12, c13, c14, c15, rfl⟩ := cells16 hs.n
  dsimp only at ha
  rw [hd]
  have hk := h16
  generalize hK : (kof i.code).1 = K at *
  refine ecallR_wk (ecallR_of_aw Tryz.func27 rfl rfl ?_)
  (repeat((conv=>whnf);first|apply ω0|apply ω1|apply ω2|refine τ3 rfl ?_|refine τ4 rfl ?_|refine ⟨rfl,?_⟩|apply τa|refine τb rfl ?_|refine ⟨⟨by kernel_rfl,by kernel_rfl⟩,?_⟩|refine ⟨by decide,?_⟩|apply τt|apply τf))
  refine AOp.of_yields (yields_look rfl rfl hoth ⟨Frz.bp (.tail _ (.head _)) rfl, Frz.refl _, trivial⟩ (Flat.v _)) ?_
  (repeat((conv=>whnf);first|apply ω0|apply ω1|apply ω2|refine τ3 rfl ?_|refine τ4 rfl ?_|refine ⟨rfl,?_⟩|apply τa|refine τb rfl ?_|refine ⟨⟨by kernel_rfl,by kernel_rfl⟩,?_⟩|refine ⟨by decide,?_⟩|apply τt|apply τf))
  intro c t16; cases c
  · have t16 := fct_b0.1 t16
    (repeat((conv=>whnf);first|apply ω0|apply ω1|apply ω2|refine τ3 rfl ?_|refine τ4 rfl ?_|refine ⟨rfl,?_⟩|apply τa|refine τb rfl ?_|refine ⟨⟨by kernel_rfl,by kernel_rfl⟩,?_⟩|refine ⟨by decide,?_⟩|apply τt|apply τf))
    intro c t17; cases c
    · have t17 := fct_b0.1 t17
      (repeat((conv=>whnf);first|apply ω0|apply ω1|apply ω2|refine τ3 rfl ?_|refine τ4 rfl ?_|refine ⟨rfl,?_⟩|apply τa|refine τb rfl ?_|refine ⟨⟨by kernel_rfl,by kernel_rfl⟩,?_⟩|refine ⟨by decide,?_⟩|apply τt|apply τf))
      intro c t18; cases c
      · have t18 := fct_b0.1 t18
        (repeat((conv=>whnf);first|apply ω0|apply ω1|apply ω2|refine τ3 rfl ?_|refine τ4 rfl ?_|refine ⟨rfl,?_⟩|apply τa|refine τb rfl ?_|refine ⟨⟨by kernel_rfl,by kernel_rfl⟩,?_⟩|refine ⟨by decide,?_⟩|apply τt|apply τf))
        intro c t19; cases c
        · have t19 := fct_b0.1 t19
          (repeat((conv=>whnf);first|apply ω0|apply ω1|apply ω2|refine τ3 rfl ?_|refine τ4 rfl ?_|refine ⟨rfl,?_⟩|apply τa|refine τb rfl ?_|refine ⟨⟨by kernel_rfl,by kernel_rfl⟩,?_⟩|refine ⟨by decide,?_⟩|apply τt|apply τf))
          intro c t20; cases c
          · have t20 := fct_b0.1 t20
            (repeat((conv=>whnf);first|apply ω0|apply ω1|apply ω2|refine τ3 rfl ?_|refine τ4 rfl ?_|refine ⟨rfl,?_⟩|apply τa|refine τb rfl ?_|refine ⟨⟨by kernel_rfl,by kernel_rfl⟩,?_⟩|refine ⟨by decide,?_⟩|apply τt|apply τf))
            intro c t21; cases c
            · have t21 := fct_b0.1 t21
              (repeat((conv=>whnf);first|apply ω0|apply ω1|apply ω2|refine τ3 rfl ?_|refine τ4 rfl ?_|refine ⟨rfl,?_⟩|apply τa|refine τb rfl ?_|refine ⟨⟨by kernel_rfl,by kernel_rfl⟩,?_⟩|refine ⟨by decide,?_⟩|apply τt|apply τf))
              intro c t22; cases c
              · have t22 := fct_b0.1 t22
                (repeat((conv=>whnf);first|apply ω0|apply ω1|apply ω2|refine τ3 rfl ?_|refine τ4 rfl ?_|refine ⟨rfl,?_⟩|apply τa|refine τb rfl ?_|refine ⟨⟨by kernel_rfl,by kernel_rfl⟩,?_⟩|refine ⟨by decide,?_⟩|apply τt|apply τf))
                intro c t23; cases c
                · have t23 := fct_b0.1 t23
                  (repeat((conv=>whnf);first|apply ω0|apply ω1|apply ω2|refine τ3 rfl ?_|refine τ4 rfl ?_|refine ⟨rfl,?_⟩|apply τa|refine τb rfl ?_|refine ⟨⟨by kernel_rfl,by kernel_rfl⟩,?_⟩|refine ⟨by decide,?_⟩|apply τt|apply τf))
                  obtain rfl : K = 24 := by omega
                  (repeat((conv=>whnf);first|apply ω0|apply ω1|apply ω2|refine τ3 rfl ?_|refine τ4 rfl ?_|refine ⟨rfl,?_⟩|apply τa|refine τb rfl ?_|refine ⟨⟨by kernel_rfl,by kernel_rfl⟩,?_⟩|refine ⟨by decide,?_⟩|apply τt|apply τf))
                  exact ret_is rfl (doRet ⟨at', a ^^^ n, x, _, steps, loads⟩ oi _ 2 rfl h0 (hle_tell _ _ rfl (.cons _ (List.Sublist.refl _)) (List.Sublist.refl _) ⟨rfl, ⟨AVle.refl _, AVle.refl _, le_int (bits_xor ha hn), LeL.refl _⟩, trivial⟩ (PmEq.refl _)))
                · have t23 := fct_b1.1 t23
                  obtain rfl : K = 23 := by omega
                  (repeat((conv=>whnf);first|apply ω0|apply ω1|apply ω2|refine τ3 rfl ?_|refine τ4 rfl ?_|refine ⟨rfl,?_⟩|apply τa|refine τb rfl ?_|refine ⟨⟨by kernel_rfl,by kernel_rfl⟩,?_⟩|refine ⟨by decide,?_⟩|apply τt|apply τf))
                  refine ⟨Int.natCast_nonneg _, ?_⟩
                  (repeat((conv=>whnf);first|apply ω0|apply ω1|apply ω2|refine τ3 rfl ?_|refine τ4 rfl ?_|refine ⟨rfl,?_⟩|apply τa|refine τb rfl ?_|refine ⟨⟨by kernel_rfl,by kernel_rfl⟩,?_⟩|refine ⟨by decide,?_⟩|apply τt|apply τf))
                  exact ret_is rfl (doRet ⟨at', a / 2 ^ (n % 32), x, _, steps, loads⟩ oi _ 2 rfl h0 (hle_tell _ _ rfl (.cons _ (List.Sublist.refl _)) (List.Sublist.refl _) ⟨rfl, ⟨AVle.refl _, AVle.refl _, le_int (shr32 a n), LeL.refl _⟩, trivial⟩ (PmEq.refl _)))
              · have t22 := fct_b1.1 t22
                obtain rfl : K = 22 := by omega
                (repeat((conv=>whnf);first|apply ω0|apply ω1|apply ω2|refine τ3 rfl ?_|refine τ4 rfl ?_|refine ⟨rfl,?_⟩|apply τa|refine τb rfl ?_|refine ⟨⟨by kernel_rfl,by kernel_rfl⟩,?_⟩|refine ⟨by decide,?_⟩|apply τt|apply τf))
                refine ⟨Int.natCast_nonneg _, ?_⟩
                (repeat((conv=>whnf);first|apply ω0|apply ω1|apply ω2|refine τ3 rfl ?_|refine τ4 rfl ?_|refine ⟨rfl,?_⟩|apply τa|refine τb rfl ?_|refine ⟨⟨by kernel_rfl,by kernel_rfl⟩,?_⟩|refine ⟨by decide,?_⟩|apply τt|apply τf))
                exact ret_is rfl (doRet ⟨at', a * 2 ^ (n % 32) % 4294967296, x, _, steps, loads⟩ oi _ 2 rfl h0 (hle_tell _ _ rfl (.cons _ (List.Sublist.refl _)) (List.Sublist.refl _) ⟨rfl, ⟨AVle.refl _, AVle.refl _, le_int (shl32 a n), LeL.refl _⟩, trivial⟩ (PmEq.refl _)))
            · have t21 := fct_b1.1 t21
              obtain rfl : K = 21 := by omega
              (repeat((conv=>whnf);first|apply ω0|apply ω1|apply ω2|refine τ3 rfl ?_|refine τ4 rfl ?_|refine ⟨rfl,?_⟩|apply τa|refine τb rfl ?_|refine ⟨⟨by kernel_rfl,by kernel_rfl⟩,?_⟩|refine ⟨by decide,?_⟩|apply τt|apply τf))
              exact ret_is rfl (doRet ⟨at', a &&& n, x, _, steps, loads⟩ oi _ 2 rfl h0 (hle_tell _ _ rfl (.cons _ (List.Sublist.refl _)) (List.Sublist.refl _) ⟨rfl, ⟨AVle.refl _, AVle.refl _, le_int (nu32_and ha hn), LeL.refl _⟩, trivial⟩ (PmEq.refl _)))
          · have t20 := fct_b1.1 t20
            obtain rfl : K = 20 := by omega
            (repeat((conv=>whnf);first|apply ω0|apply ω1|apply ω2|refine τ3 rfl ?_|refine τ4 rfl ?_|refine ⟨rfl,?_⟩|apply τa|refine τb rfl ?_|refine ⟨⟨by kernel_rfl,by kernel_rfl⟩,?_⟩|refine ⟨by decide,?_⟩|apply τt|apply τf))
            exact ret_is rfl (doRet ⟨at', a ||| n, x, _, steps, loads⟩ oi _ 2 rfl h0 (hle_tell _ _ rfl (.cons _ (List.Sublist.refl _)) (List.Sublist.refl _) ⟨rfl, ⟨AVle.refl _, AVle.refl _, le_int (nu32_or' ha hn), LeL.refl _⟩, trivial⟩ (PmEq.refl _)))
        · have t19 := fct_b1.1 t19
          obtain rfl : K = 19 := by omega
          (repeat((conv=>whnf);first|apply ω0|apply ω1|apply ω2|refine τ3 rfl ?_|refine τ4 rfl ?_|refine ⟨rfl,?_⟩|apply τa|refine τb rfl ?_|refine ⟨⟨by kernel_rfl,by kernel_rfl⟩,?_⟩|refine ⟨by decide,?_⟩|apply τt|apply τf))
          intro c z; cases c
          · have z := fct_b0.1 z
            (repeat((conv=>whnf);first|apply ω0|apply ω1|apply ω2|refine τ3 rfl ?_|refine τ4 rfl ?_|refine ⟨rfl,?_⟩|apply τa|refine τb rfl ?_|refine ⟨⟨by kernel_rfl,by kernel_rfl⟩,?_⟩|refine ⟨by decide,?_⟩|apply τt|apply τf))
            refine ⟨z, ?_⟩
            (repeat((conv=>whnf);first|apply ω0|apply ω1|apply ω2|refine τ3 rfl ?_|refine τ4 rfl ?_|refine ⟨rfl,?_⟩|apply τa|refine τb rfl ?_|refine ⟨⟨by kernel_rfl,by kernel_rfl⟩,?_⟩|refine ⟨by decide,?_⟩|apply τt|apply τf))
            have hr : reckV 19 a n = some (a / n) := by unfold reckV; exact if_neg (by omega)
            rw [hr]
            exact ret_is rfl (doRet ⟨at', a / n, x, _, steps, loads⟩ oi _ 2 rfl h0 (hle_tell _ _ rfl (.cons _ (List.Sublist.refl _)) (List.Sublist.refl _) ⟨rfl, ⟨AVle.refl _, AVle.refl _, le_int (quo32 ha), LeL.refl _⟩, trivial⟩ (PmEq.refl _)))
          · have z := fct_b1.1 z
            obtain rfl : n = 0 := by omega
            (repeat((conv=>whnf);first|apply ω0|apply ω1|apply ω2|refine τ3 rfl ?_|refine τ4 rfl ?_|refine ⟨rfl,?_⟩|apply τa|refine τb rfl ?_|refine ⟨⟨by kernel_rfl,by kernel_rfl⟩,?_⟩|refine ⟨by decide,?_⟩|apply τt|apply τf))
            exact doPan 0 ⟨at', a, x, _, steps, loads⟩ oi _ 2 rfl (AVle.refl _) h0 (hle_tell _ _ rfl (.cons _ (List.Sublist.refl _)) (List.Sublist.refl _) ⟨rfl, OwnLe.refl _, trivial⟩ (PmEq.refl _))
      · have t18 := fct_b1.1 t18
        obtain rfl : K = 18 := by omega
        (repeat((conv=>whnf);first|apply ω0|apply ω1|apply ω2|refine τ3 rfl ?_|refine τ4 rfl ?_|refine ⟨rfl,?_⟩|apply τa|refine τb rfl ?_|refine ⟨⟨by kernel_rfl,by kernel_rfl⟩,?_⟩|refine ⟨by decide,?_⟩|apply τt|apply τf))
        exact ret_is rfl (doRet ⟨at', a * n % 4294967296, x, _, steps, loads⟩ oi _ 2 rfl h0 (hle_tell _ _ rfl (.cons _ (List.Sublist.refl _)) (List.Sublist.refl _) ⟨rfl, ⟨AVle.refl _, AVle.refl _, le_int (mul32 a n), LeL.refl _⟩, trivial⟩ (PmEq.refl _)))
    · have t17 := fct_b1.1 t17
      obtain rfl : K = 17 := by omega
      (repeat((conv=>whnf);first|apply ω0|apply ω1|apply ω2|refine τ3 rfl ?_|refine τ4 rfl ?_|refine ⟨rfl,?_⟩|apply τa|refine τb rfl ?_|refine ⟨⟨by kernel_rfl,by kernel_rfl⟩,?_⟩|refine ⟨by decide,?_⟩|apply τt|apply τf))
      exact ret_is rfl (doRet ⟨at', (a + 4294967296 - n) % 4294967296, x, _, steps, loads⟩ oi _ 2 rfl h0 (hle_tell _ _ rfl (.cons _ (List.Sublist.refl _)) (List.Sublist.refl _) ⟨rfl, ⟨AVle.refl _, AVle.refl _, le_int (sub32 hn), LeL.refl _⟩, trivial⟩ (PmEq.refl _)))
  · have t16 := fct_b1.1 t16
    obtain rfl : K = 16 := by omega
    (repeat((conv=>whnf);first|apply ω0|apply ω1|apply ω2|refine τ3 rfl ?_|refine τ4 rfl ?_|refine ⟨rfl,?_⟩|apply τa|refine τb rfl ?_|refine ⟨⟨by kernel_rfl,by kernel_rfl⟩,?_⟩|refine ⟨by decide,?_⟩|apply τt|apply τf))
    exact ret_is rfl (doRet ⟨at', (a + n) % 4294967296, x, _, steps, loads⟩ oi _ 2 rfl h0 (hle_tell _ _ rfl (.cons _ (List.Sublist.refl _)) (List.Sublist.refl _) ⟨rfl, ⟨AVle.refl _, AVle.refl _, le_int (add32 a n), LeL.refl _⟩, trivial⟩ (PmEq.refl _)))
theorem vbranch_spec (b : List Nat) (i : Ins) (hi : i.ok) (h25 : 25 ≤ (kof i.code).1) (s0 : Nat) (s : Rn) (oi : Option Nat) (h0 : oi = none → s.loads = []) (hs : s.ok) (hj : s.at' ≤ 1000000) (nx : Nat) :
    ECallR Tryz.prog 26 [.bp (0, s0) 0, opA i .any] (vmH b s0 s oi nx 2) (doQ b s0 (doV b i s)) := by
  have hn := altV_lt hi hs
  have ha := hs.a
  have hoth := other_spec b i s oi
  have hle := kof_le i.code
  have hd : doV b i s = (none, { s with at' := s.at' + if branchV (kof i.code).1 s.a (altV i s) then i.jt else i.jf }) := by
    unfold doV
    split <;> first | (exfalso; omega) | skip
    rw [if_neg (by omega)]
  generalize altV i s = n at *
  obtain ⟨at', a, x, cells, steps, loads⟩ := s
  obtain ⟨c0, c1, c2, c3, c4, c5, c6, c7, c8, c9, c10, c11, c12, c13, c14, c15, rfl⟩ := cells16 hs.n
  dsimp only at ha hj
  rw [hd]
  have hv : ∀ j : Nat, j < 256 → IntKind.i64.wrap ((at' : Int) + IntKind.i64.wrap (j : Int)) = ((at' + j : Nat) : Int) := fun j hj2 => by
    rw [show IntKind.i64.wrap (j : Int) = j from wrap_id (by omega) (by omega), wrap_id (by omega) (by omega)]; omega
  have hand : bitsI .and .u32 (a : Int) (n : Int) = ((a &&& n : Nat) : Int) := nu32_and ha hn
  generalize hK : (kof i.code).1 = K at *
  refine ecallR_wk (ecallR_of_aw Tryz.func26 rfl rfl ?_)
  (repeat((conv=>whnf);first|apply ω0|apply ω1|apply ω2|refine τ3 rfl ?_|refine τ4 rfl ?_|refine ⟨rfl,?_⟩|apply τa|refine τb rfl ?_|refine ⟨⟨by kernel_rfl,by kernel_rfl⟩,?_⟩|refine ⟨by decide,?_⟩|apply τt|apply τf))
  refine AOp.of_yields (yields_look rfl rfl hoth ⟨Frz.bp (.tail _ (.head _)) rfl, Frz.refl _, trivial⟩ (Flat.v _)) ?_
  (repeat((conv=>whnf);first|apply ω0|apply ω1|apply ω2|refine τ3 rfl ?_|refine τ4 rfl ?_|refine ⟨rfl,?_⟩|apply τa|refine τb rfl ?_|refine ⟨⟨by kernel_rfl,by kernel_rfl⟩,?_⟩|refine ⟨by decide,?_⟩|apply τt|apply τf))
  intro c t25; cases c
  · have t25 := fct_b0.1 t25
    (repeat((conv=>whnf);first|apply ω0|apply ω1|apply ω2|refine τ3 rfl ?_|refine τ4 rfl ?_|refine ⟨rfl,?_⟩|apply τa|refine τb rfl ?_|refine ⟨⟨by kernel_rfl,by kernel_rfl⟩,?_⟩|refine ⟨by decide,?_⟩|apply τt|apply τf))
    intro c t26; cases c
    · have t26 := fct_b0.1 t26
      (repeat((conv=>whnf);first|apply ω0|apply ω1|apply ω2|refine τ3 rfl ?_|refine τ4 rfl ?_|refine ⟨rfl,?_⟩|apply τa|refine τb rfl ?_|refine ⟨⟨by kernel_rfl,by kernel_rfl⟩,?_⟩|refine ⟨by decide,?_⟩|apply τt|apply τf))
      intro c t27; cases c
      · have t27 := fct_b0.1 t27
        (repeat((conv=>whnf);first|apply ω0|apply ω1|apply ω2|refine τ3 rfl ?_|refine τ4 rfl ?_|refine ⟨rfl,?_⟩|apply τa|refine τb rfl ?_|refine ⟨⟨by kernel_rfl,by kernel_rfl⟩,?_⟩|refine ⟨by decide,?_⟩|apply τt|apply τf))
        (repeat((conv=>whnf);first|apply ω0|apply ω1|apply ω2|refine τ3 rfl ?_|refine τ4 rfl ?_|refine ⟨rfl,?_⟩|apply τa|refine τb rfl ?_|refine ⟨⟨by kernel_rfl,by kernel_rfl⟩,?_⟩|refine ⟨by decide,?_⟩|apply τt|apply τf))
        intro c hc
        have hKK : K = 28 := by omega
        have hb : branchV K a n = c := by subst hKK; rw [hc]; unfold branchV; rw [hand, Bool.eq_iff_iff]; simp
        (repeat((conv=>whnf);first|apply ω0|apply ω1|apply ω2|refine τ3 rfl ?_|refine τ4 rfl ?_|refine ⟨rfl,?_⟩|apply τa|refine τb rfl ?_|refine ⟨⟨by kernel_rfl,by kernel_rfl⟩,?_⟩|refine ⟨by decide,?_⟩|apply τt|apply τf))
        cases c
        · (repeat((conv=>whnf);first|apply ω0|apply ω1|apply ω2|refine τ3 rfl ?_|refine τ4 rfl ?_|refine ⟨rfl,?_⟩|apply τa|refine τb rfl ?_|refine ⟨⟨by kernel_rfl,by kernel_rfl⟩,?_⟩|refine ⟨by decide,?_⟩|apply τt|apply τf))
          (refine aw_draw 9 ?_ ?_ ?_ ?_; (· kernel_rfl); (· kernel_rfl); (· kernel_rfl))
          (repeat((conv=>whnf);first|apply ω0|apply ω1|apply ω2|refine τ3 rfl ?_|refine τ4 rfl ?_|refine ⟨rfl,?_⟩|apply τa|refine τb rfl ?_|refine ⟨⟨by kernel_rfl,by kernel_rfl⟩,?_⟩|refine ⟨by decide,?_⟩|apply τt|apply τf))
          have e : (if branchV K a n then i.jt else i.jf) = i.jf := by rw [hb]; rfl
          exact ret_is rfl (doRet ⟨at' + i.jf, a, x, _, steps, loads⟩ oi _ 2 (by dsimp only; rw [e]) h0 (hle_tell _ _ rfl (.cons _ (List.Sublist.refl _)) (List.Sublist.refl _) ⟨rfl, ⟨AVle.refl _, le_int (hv i.jf hi.2.2.1), AVle.refl _, LeL.refl _⟩, trivial⟩ (PmEq.refl _)))
        · (repeat((conv=>whnf);first|apply ω0|apply ω1|apply ω2|refine τ3 rfl ?_|refine τ4 rfl ?_|refine ⟨rfl,?_⟩|apply τa|refine τb rfl ?_|refine ⟨⟨by kernel_rfl,by kernel_rfl⟩,?_⟩|refine ⟨by decide,?_⟩|apply τt|apply τf))
          (refine aw_draw 9 ?_ ?_ ?_ ?_; (· kernel_rfl); (· kernel_rfl); (· kernel_rfl))
          (repeat((conv=>whnf);first|apply ω0|apply ω1|apply ω2|refine τ3 rfl ?_|refine τ4 rfl ?_|refine ⟨rfl,?_⟩|apply τa|refine τb rfl ?_|refine ⟨⟨by kernel_rfl,by kernel_rfl⟩,?_⟩|refine ⟨by decide,?_⟩|apply τt|apply τf))
          have e : (if branchV K a n then i.jt else i.jf) = i.jt := by rw [hb]; rfl
          exact ret_is rfl (doRet ⟨at' + i.jt, a, x, _, steps, loads⟩ oi _ 2 (by dsimp only; rw [e]) h0 (hle_tell _ _ rfl (.cons _ (List.Sublist.refl _)) (List.Sublist.refl _) ⟨rfl, ⟨AVle.refl _, le_int (hv i.jt hi.2.1), AVle.refl _, LeL.refl _⟩, trivial⟩ (PmEq.refl _)))
      · have t27 := fct_b1.1 t27
        (repeat((conv=>whnf);first|apply ω0|apply ω1|apply ω2|refine τ3 rfl ?_|refine τ4 rfl ?_|refine ⟨rfl,?_⟩|apply τa|refine τb rfl ?_|refine ⟨⟨by kernel_rfl,by kernel_rfl⟩,?_⟩|refine ⟨by decide,?_⟩|apply τt|apply τf))
        intro c hc
        have hKK : K = 27 := by omega
        have hb : branchV K a n = c := by subst hKK; rw [hc]; unfold branchV; rw [Bool.eq_iff_iff]; simp
        (repeat((conv=>whnf);first|apply ω0|apply ω1|apply ω2|refine τ3 rfl ?_|refine τ4 rfl ?_|refine ⟨rfl,?_⟩|apply τa|refine τb rfl ?_|refine ⟨⟨by kernel_rfl,by kernel_rfl⟩,?_⟩|refine ⟨by decide,?_⟩|apply τt|apply τf))
        cases c
        · (repeat((conv=>whnf);first|apply ω0|apply ω1|apply ω2|refine τ3 rfl ?_|refine τ4 rfl ?_|refine ⟨rfl,?_⟩|apply τa|refine τb rfl ?_|refine ⟨⟨by kernel_rfl,by kernel_rfl⟩,?_⟩|refine ⟨by decide,?_⟩|apply τt|apply τf))
          (refine aw_draw 9 ?_ ?_ ?_ ?_; (· kernel_rfl); (· kernel_rfl); (· kernel_rfl))
          (repeat((conv=>whnf);first|apply ω0|apply ω1|apply ω2|refine τ3 rfl ?_|refine τ4 rfl ?_|refine ⟨rfl,?_⟩|apply τa|refine τb rfl ?_|refine ⟨⟨by kernel_rfl,by kernel_rfl⟩,?_⟩|refine ⟨by decide,?_⟩|apply τt|apply τf))
          have e : (if branchV K a n then i.jt else i.jf) = i.jf := by rw [hb]; rfl
          exact ret_is rfl (doRet ⟨at' + i.jf, a, x, _, steps, loads⟩ oi _ 2 (by dsimp only; rw [e]) h0 (hle_tell _ _ rfl (.cons _ (List.Sublist.refl _)) (List.Sublist.refl _) ⟨rfl, ⟨AVle.refl _, le_int (hv i.jf hi.2.2.1), AVle.refl _, LeL.refl _⟩, trivial⟩ (PmEq.refl _)))
        · (repeat((conv=>whnf);first|apply ω0|apply ω1|apply ω2|refine τ3 rfl ?_|refine τ4 rfl ?_|refine ⟨rfl,?_⟩|apply τa|refine τb rfl ?_|refine ⟨⟨by kernel_rfl,by kernel_rfl⟩,?_⟩|refine ⟨by decide,?_⟩|apply τt|apply τf))
          (refine aw_draw 9 ?_ ?_ ?_ ?_; (· kernel_rfl); (· kernel_rfl); (· kernel_rfl))
          (repeat((conv=>whnf);first|apply ω0|apply ω1|apply ω2|refine τ3 rfl ?_|refine τ4 rfl ?_|refine ⟨rfl,?_⟩|apply τa|refine τb rfl ?_|refine ⟨⟨by kernel_rfl,by kernel_rfl⟩,?_⟩|refine ⟨by decide,?_⟩|apply τt|apply τf))
          have e : (if branchV K a n then i.jt else i.jf) = i.jt := by rw [hb]; rfl
          exact ret_is rfl (doRet ⟨at' + i.jt, a, x, _, steps, loads⟩ oi _ 2 (by dsimp only; rw [e]) h0 (hle_tell _ _ rfl (.cons _ (List.Sublist.refl _)) (List.Sublist.refl _) ⟨rfl, ⟨AVle.refl _, le_int (hv i.jt hi.2.1), AVle.refl _, LeL.refl _⟩, trivial⟩ (PmEq.refl _)))
    · have t26 := fct_b1.1 t26
      (repeat((conv=>whnf);first|apply ω0|apply ω1|apply ω2|refine τ3 rfl ?_|refine τ4 rfl ?_|refine ⟨rfl,?_⟩|apply τa|refine τb rfl ?_|refine ⟨⟨by kernel_rfl,by kernel_rfl⟩,?_⟩|refine ⟨by decide,?_⟩|apply τt|apply τf))
      intro c hc
      have hKK : K = 26 := by omega
      have hb : branchV K a n = c := by subst hKK; rw [hc]; unfold branchV; rw [Bool.eq_iff_iff]; simp
      (repeat((conv=>whnf);first|apply ω0|apply ω1|apply ω2|refine τ3 rfl ?_|refine τ4 rfl ?_|refine ⟨rfl,?_⟩|apply τa|refine τb rfl ?_|refine ⟨⟨by kernel_rfl,by kernel_rfl⟩,?_⟩|refine ⟨by decide,?_⟩|apply τt|apply τf))
      cases c
      · (repeat((conv=>whnf);first|apply ω0|apply ω1|apply ω2|refine τ3 rfl ?_|refine τ4 rfl ?_|refine ⟨rfl,?_⟩|apply τa|refine τb rfl ?_|refine ⟨⟨by kernel_rfl,by kernel_rfl⟩,?_⟩|refine ⟨by decide,?_⟩|apply τt|apply τf))
        (refine aw_draw 9 ?_ ?_ ?_ ?_; (· kernel_rfl); (· kernel_rfl); (· kernel_rfl))
        (repeat((conv=>whnf);first|apply ω0|apply ω1|apply ω2|refine τ3 rfl ?_|refine τ4 rfl ?_|refine ⟨rfl,?_⟩|apply τa|refine τb rfl ?_|refine ⟨⟨by kernel_rfl,by kernel_rfl⟩,?_⟩|refine ⟨by decide,?_⟩|apply τt|apply τf))
        have e : (if branchV K a n then i.jt else i.jf) = i.jf := by rw [hb]; rfl
        exact ret_is rfl (doRet ⟨at' + i.jf, a, x, _, steps, loads⟩ oi _ 2 (by dsimp only; rw [e]) h0 (hle_tell _ _ rfl (.cons _ (List.Sublist.refl _)) (List.Sublist.refl _) ⟨rfl, ⟨AVle.refl _, le_int (hv i.jf hi.2.2.1), AVle.refl _, LeL.refl _⟩, trivial⟩ (PmEq.refl _)))
      · (repeat((conv=>whnf);first|apply ω0|apply ω1|apply ω2|refine τ3 rfl ?_|refine τ4 rfl ?_|refine ⟨rfl,?_⟩|apply τa|refine τb rfl ?_|refine ⟨⟨by kernel_rfl,by kernel_rfl⟩,?_⟩|refine ⟨by decide,?_⟩|apply τt|apply τf))
        (refine aw_draw 9 ?_ ?_ ?_ ?_; (· kernel_rfl); (· kernel_rfl); (· kernel_rfl))
        (repeat((conv=>whnf);first|apply ω0|apply ω1|apply ω2|refine τ3 rfl ?_|refine τ4 rfl ?_|refine ⟨rfl,?_⟩|apply τa|refine τb rfl ?_|refine ⟨⟨by kernel_rfl,by kernel_rfl⟩,?_⟩|refine ⟨by decide,?_⟩|apply τt|apply τf))
        have e : (if branchV K a n then i.jt else i.jf) = i.jt := by rw [hb]; rfl
        exact ret_is rfl (doRet ⟨at' + i.jt, a, x, _, steps, loads⟩ oi _ 2 (by dsimp only; rw [e]) h0 (hle_tell _ _ rfl (.cons _ (List.Sublist.refl _)) (List.Sublist.refl _) ⟨rfl, ⟨AVle.refl _, le_int (hv i.jt hi.2.1), AVle.refl _, LeL.refl _⟩, trivial⟩ (PmEq.refl _)))
  · have t25 := fct_b1.1 t25
    (repeat((conv=>whnf);first|apply ω0|apply ω1|apply ω2|refine τ3 rfl ?_|refine τ4 rfl ?_|refine ⟨rfl,?_⟩|apply τa|refine τb rfl ?_|refine ⟨⟨by kernel_rfl,by kernel_rfl⟩,?_⟩|refine ⟨by decide,?_⟩|apply τt|apply τf))
    intro c hc
    have hKK : K = 25 := by omega
    have hb : branchV K a n = c := by subst hKK; rw [hc]; unfold branchV; rw [Bool.eq_iff_iff]; simp; omega
    (repeat((conv=>whnf);first|apply ω0|apply ω1|apply ω2|refine τ3 rfl ?_|refine τ4 rfl ?_|refine ⟨rfl,?_⟩|apply τa|refine τb rfl ?_|refine ⟨⟨by kernel_rfl,by kernel_rfl⟩,?_⟩|refine ⟨by decide,?_⟩|apply τt|apply τf))
    cases c
    · (repeat((conv=>whnf);first|apply ω0|apply ω1|apply ω2|refine τ3 rfl ?_|refine τ4 rfl ?_|refine ⟨rfl,?_⟩|apply τa|refine τb rfl ?_|refine ⟨⟨by kernel_rfl,by kernel_rfl⟩,?_⟩|refine ⟨by decide,?_⟩|apply τt|apply τf))
      (refine aw_draw 9 ?_ ?_ ?_ ?_; (· kernel_rfl); (· kernel_rfl); (· kernel_rfl))
      (repeat((conv=>whnf);first|apply ω0|apply ω1|apply ω2|refine τ3 rfl ?_|refine τ4 rfl ?_|refine ⟨rfl,?_⟩|apply τa|refine τb rfl ?_|refine ⟨⟨by kernel_rfl,by kernel_rfl⟩,?_⟩|refine ⟨by decide,?_⟩|apply τt|apply τf))
      have e : (if branchV K a n then i.jt else i.jf) = i.jf := by rw [hb]; rfl
      exact ret_is rfl (doRet ⟨at' + i.jf, a, x, _, steps, loads⟩ oi _ 2 (by dsimp only; rw [e]) h0 (hle_tell _ _ rfl (.cons _ (List.Sublist.refl _)) (List.Sublist.refl _) ⟨rfl, ⟨AVle.refl _, le_int (hv i.jf hi.2.2.1), AVle.refl _, LeL.refl _⟩, trivial⟩ (PmEq.refl _)))
    · (repeat((conv=>whnf);first|apply ω0|apply ω1|apply ω2|refine τ3 rfl ?_|refine τ4 rfl ?_|refine ⟨rfl,?_⟩|apply τa|refine τb rfl ?_|refine ⟨⟨by kernel_rfl,by kernel_rfl⟩,?_⟩|refine ⟨by decide,?_⟩|apply τt|apply τf))
      (refine aw_draw 9 ?_ ?_ ?_ ?_; (· kernel_rfl); (· kernel_rfl); (· kernel_rfl))
      (repeat((conv=>whnf);first|apply ω0|apply ω1|apply ω2|refine τ3 rfl ?_|refine τ4 rfl ?_|refine ⟨rfl,?_⟩|apply τa|refine τb rfl ?_|refine ⟨⟨by kernel_rfl,by kernel_rfl⟩,?_⟩|refine ⟨by decide,?_⟩|apply τt|apply τf))
      have e : (if branchV K a n then i.jt else i.jf) = i.jt := by rw [hb]; rfl
      exact ret_is rfl (doRet ⟨at' + i.jt, a, x, _, steps, loads⟩ oi _ 2 (by dsimp only; rw [e]) h0 (hle_tell _ _ rfl (.cons _ (List.Sublist.refl _)) (List.Sublist.refl _) ⟨rfl, ⟨AVle.refl _, le_int (hv i.jt hi.2.1), AVle.refl _, LeL.refl _⟩, trivial⟩ (PmEq.refl _)))
end Go.Proofs.W

namespace Go.Proofs.W
open Go.Vl
set_option maxRecDepth 100000

def fnL : List (Nat × FuncId) := [(1, 41), (2, 42), (3, 43), (4, 44), (5, 45), (6, 46), (7, 47), (8, 48), (9, 49), (10, 50), (11, 51), (12, 52), (13, 53), (14, 54), (15, 55)]
/-- What is done, by kinds. -/
def doF (k : Nat) : FuncId := if k < 16 then (lk fnL k).getD 0 else if k < 25 then 27 else 26
def fnM (l : List (Nat × FuncId)) : List (Value × AV) := l.map fun p => (.int .i64 (p.1 : Nat), .fn (.func p.2) [] [])
theorem alook_fn (l : List (Nat × FuncId)) (c : Nat) : alook (.int .i64 (c : Nat)) (fnM l) = (lk l c).map fun k => AV.fn (.func k) [] [] := by
  induction l with
  | nil => rfl
  | cons p l ih =>
    unfold fnM at ih ⊢
    simp only [List.map_cons, alook]
    unfold lk at ih ⊢
    rw [List.find?_cons]
    have : keyIs (.int .i64 (c : Nat)) (.int .i64 (p.1 : Nat)) = (p.1 == c) := by
      simp only [keyIs, kindEq, Bool.true_and]
      rw [Bool.eq_iff_iff]; simp; omega
    rw [this]
    cases h : p.1 == c
    · simpa using ih
    · simp
theorem deeds_spec : Tells Tryz.prog 25 [] (.fm (fnM fnL)) := by
  refine tells_of_aw Tryz.func25 rfl rfl fun nx => ?_
  (repeat ((conv=>whnf);first|refine ω0 ?_|refine ω1 ?_|refine ω2 ?_|refine ω3 ?_|refine ω4 rfl ?_|refine ω5 rfl ?_|refine ω6 ?_|refine ω7 ?_|refine ⟨rfl,?_⟩|refine ⟨trivial,?_⟩|refine ⟨⟨rfl,Nat.le_of_ble_eq_true rfl⟩,?_⟩|refine ⟨⟨by kernel_rfl,by kernel_rfl⟩,?_⟩|refine ⟨by decide,?_⟩|refine lit_true ?_|refine lit_false ?_))
  refine AW.le (ele_freeze (L := [(0, .fm (fnM fnL))]) (bx := []) (pm := []) (nn := 0) [((0, nx), .mp (fnM fnL))] rfl rfl (List.Sublist.refl _) .slnil ⟨Frz.om (.head _), trivial⟩) ?_
  (repeat((conv=>whnf);first|apply ω0|apply ω1|apply ω2|refine τ3 rfl ?_|refine τ4 rfl ?_|refine ⟨rfl,?_⟩|apply τa|refine τb rfl ?_|refine ⟨⟨by kernel_rfl,by kernel_rfl⟩,?_⟩|refine ⟨by decide,?_⟩|apply τt|apply τf))
  refine ret_tells rfl (AVle.refl _)
theorem lk_low : ∀ k, k < 16 → k ≠ 0 → lk fnL k = some (doF k) := by decide
theorem lk_high : ∀ k, k < 29 → 16 ≤ k → lk fnL k = none := by decide
theorem do_spec (b : List Nat) (hb : okB b) (hbl : b.length = 64) (i : Ins) (hi : i.ok) (r : Nat) (hw : wrongI i r = 0) (s0 : Nat) (s : Rn) (oi : Option Nat) (h0 : oi = none → s.loads = []) (hs : s.ok) (ha : s.at' ≤ 500000) (hr : r ≤ 5000) (hl : s.loads.length ≤ 1000000) (nx : Nat) :
    ECallR Tryz.prog (doF (kof i.code).1) [.bp (0, s0) 0, opA i .any] (vmH b s0 s oi nx 2) (doQ b s0 (doV b i s)) := by
  have hle := kof_le i.code
  obtain ⟨w1, w2, w3, w4⟩ := wrong_parts hw
  by_cases h16 : 16 ≤ (kof i.code).1
  · by_cases h25 : (kof i.code).1 < 25
    · rw [show doF (kof i.code).1 = 27 by unfold doF; rw [if_neg (by omega), if_pos h25]]
      exact reckon_spec b i hi h16 h25 s0 s oi h0 hs nx
    · rw [show doF (kof i.code).1 = 26 by unfold doF; rw [if_neg (by omega), if_neg h25]]
      exact vbranch_spec b i hi (by omega) s0 s oi h0 hs (by omega) nx
  by_cases hk : (kof i.code).1 = 1
  · rw [show doF (kof i.code).1 = 41 by rw [hk]; rfl]
    exact vload_spec b hb hbl i hk (by omega) s0 s oi h0 hs hl nx
  by_cases hk : (kof i.code).1 = 2
  · rw [show doF (kof i.code).1 = 42 by rw [hk]; rfl]
    exact vimm_spec b i hk s0 s oi h0 hs nx
  by_cases hk : (kof i.code).1 = 3
  · rw [show doF (kof i.code).1 = 43 by rw [hk]; rfl]
    exact vcellA_spec b i hk (by omega) s0 s oi h0 hs nx
  by_cases hk : (kof i.code).1 = 4
  · rw [show doF (kof i.code).1 = 44 by rw [hk]; rfl]
    exact vlenA_spec b i hk s0 s oi h0 hs nx
  by_cases hk : (kof i.code).1 = 5
  · rw [show doF (kof i.code).1 = 45 by rw [hk]; rfl]
    exact vimmX_spec b i hk s0 s oi h0 hs nx
  by_cases hk : (kof i.code).1 = 6
  · rw [show doF (kof i.code).1 = 46 by rw [hk]; rfl]
    exact vcellX_spec b i hk (by omega) s0 s oi h0 hs nx
  by_cases hk : (kof i.code).1 = 7
  · rw [show doF (kof i.code).1 = 47 by rw [hk]; rfl]
    exact vlenX_spec b i hk s0 s oi h0 hs nx
  by_cases hk : (kof i.code).1 = 8
  · rw [show doF (kof i.code).1 = 48 by rw [hk]; rfl]
    exact vstoreA_spec b i hk (by omega) s0 s oi h0 hs nx
  by_cases hk : (kof i.code).1 = 9
  · rw [show doF (kof i.code).1 = 49 by rw [hk]; rfl]
    exact vstoreX_spec b i hk (by omega) s0 s oi h0 hs nx
  by_cases hk : (kof i.code).1 = 10
  · rw [show doF (kof i.code).1 = 50 by rw [hk]; rfl]
    exact vtoX_spec b i hk s0 s oi h0 hs nx
  by_cases hk : (kof i.code).1 = 11
  · rw [show doF (kof i.code).1 = 51 by rw [hk]; rfl]
    exact vtoA_spec b i hk s0 s oi h0 hs nx
  by_cases hk : (kof i.code).1 = 12
  · rw [show doF (kof i.code).1 = 52 by rw [hk]; rfl]
    exact vneg_spec b i hk s0 s oi h0 hs nx
  by_cases hk : (kof i.code).1 = 13
  · rw [show doF (kof i.code).1 = 53 by rw [hk]; rfl]
    exact vjump_spec b i hk s0 s oi h0 hs (by omega) nx
  by_cases hk : (kof i.code).1 = 14
  · rw [show doF (kof i.code).1 = 54 by rw [hk]; rfl]
    exact vretK_spec b i hk s0 s oi h0 hs nx
  by_cases hk : (kof i.code).1 = 15
  · rw [show doF (kof i.code).1 = 55 by rw [hk]; rfl]
    exact vretA_spec b i hk s0 s oi h0 hs nx
  omega
def opI (i : Ins) : AV := opA i (.fn (.func (doF (kof i.code).1)) [] [])
def opF (l : List Ins) (k : Nat) : AV := opI (l.getD k ins0)
def opsA (l : List Ins) : AV := slOf 7 opI ins0 l
def newA (l : List Ins) : AV := if (checkI l).2 = 0 then .tup [.rp [opsA l], int 0] else .tup [.v (.pointer none), int (checkI l).2]
set_option maxHeartbeats 1000000 in
theorem new_spec (l : List Ins) (hok : okL l) (hl : l.length ≤ 1000000000) : Tells Tryz.prog 11 [inss l] (newA l) := by
  refine tells_of_aw Tryz.func11 rfl rfl fun nx0 => ?_
  (repeat((conv=>whnf);first|apply ω0|apply ω1|apply ω2|refine τ3 rfl ?_|refine τ4 rfl ?_|refine ⟨rfl,?_⟩|apply τa|refine τb rfl ?_|refine ⟨⟨by kernel_rfl,by kernel_rfl⟩,?_⟩|refine ⟨by decide,?_⟩|apply τt|apply τf))
  refine aop_tells rfl rfl (check_spec l hok hl) ⟨AVle.refl _, trivial⟩ fun nx => ?_
  (repeat((conv=>whnf);first|apply ω0|apply ω1|apply ω2|refine τ3 rfl ?_|refine τ4 rfl ?_|refine ⟨rfl,?_⟩|apply τa|refine τb rfl ?_|refine ⟨⟨by kernel_rfl,by kernel_rfl⟩,?_⟩|refine ⟨by decide,?_⟩|apply τt|apply τf))
  intro c g1; cases c
  rotate_left
  · have g1 := bne_yes g1
    have hv : newA l = .tup [.v (.pointer none), int (checkI l).2] := by unfold newA; rw [if_neg (by omega)]
    rw [hv]
    (repeat((conv=>whnf);first|apply ω0|apply ω1|apply ω2|refine τ3 rfl ?_|refine τ4 rfl ?_|refine ⟨rfl,?_⟩|apply τa|refine τb rfl ?_|refine ⟨⟨by kernel_rfl,by kernel_rfl⟩,?_⟩|refine ⟨by decide,?_⟩|apply τt|apply τf))
    exact ret_tells rfl (AVle.refl _)
  have g1 := bne_no g1
  have hc : (checkI l).2 = 0 := by omega
  have hf : Formed l := (check_iff.1 hc).1
  have hle := hf.le
  have hv : newA l = .tup [.rp [opsA l], int 0] := by unfold newA; rw [if_pos hc]
  rw [hv]
  (repeat((conv=>whnf);first|apply ω0|apply ω1|apply ω2|refine τ3 rfl ?_|refine τ4 rfl ?_|refine ⟨rfl,?_⟩|apply τa|refine τb rfl ?_|refine ⟨⟨by kernel_rfl,by kernel_rfl⟩,?_⟩|refine ⟨by decide,?_⟩|apply τt|apply τf))
  refine aop_tells rfl rfl deeds_spec trivial fun nx2 => ?_
  (repeat((conv=>whnf);first|apply ω0|apply ω1|apply ω2|refine τ3 rfl ?_|refine τ4 rfl ?_|refine ⟨rfl,?_⟩|apply τa|refine τb rfl ?_|refine ⟨⟨by kernel_rfl,by kernel_rfl⟩,?_⟩|refine ⟨by decide,?_⟩|apply τt|apply τf))
  refine aw_loop (fun s : Nat × Option Nat × Nat => mk 63 [(6, .bp (0, nx) 0), (7, .fm (fnM fnL)), (25, inss l), (26, int l.length), (27, int s.1)] ⟨[((0, nx), .c [.os 7 s.1 (opF l) (nmN 1 s.2.1)])], pmOf (nmN 1 s.2.1) (s.1 * 7), s.2.2, 2⟩)
    (fun s => s.1 ≤ l.length ∧ (s.2.1 = none → s.1 = 0)) (fun s => l.length - s.1) ?_ ?_
  · exact ⟨(0, none, nx2), ⟨by dsimp only; omega, fun _ => rfl⟩, ele_tell _ _ rfl rfl (List.Sublist.refl _) .slnil ⟨rfl, ⟨AVle.os_nil, trivial⟩, trivial⟩ trivial ⟨AVle.refl _, AVle.refl _, AVle.refl _, AVle.refl _, AVle.refl _, trivial⟩⟩
  · rintro ⟨i, oi, nx3⟩ ⟨h1, h2⟩
    dsimp only at h1 h2
    (repeat((conv=>whnf);first|apply ω0|apply ω1|apply ω2|refine τ3 rfl ?_|refine τ4 rfl ?_|refine ⟨rfl,?_⟩|apply τa|refine τb rfl ?_|refine ⟨⟨by kernel_rfl,by kernel_rfl⟩,?_⟩|refine ⟨by decide,?_⟩|apply τt|apply τf))
    intro c g3; cases c
    · have g3 := not_of g3
      dsimp only at g3
      obtain rfl : i = l.length := by omega
      (repeat((conv=>whnf);first|apply ω0|apply ω2|refine τ3 rfl ?_|refine τ4 rfl ?_|refine ⟨rfl,?_⟩|apply τa|refine τb rfl ?_|refine ⟨⟨by kernel_rfl,by kernel_rfl⟩,?_⟩|refine ⟨by decide,?_⟩|apply τt|apply τf))
      refine AW.le (ele_freeze (L := [(6, .rp [opsA l])]) (bx := []) (pm := []) (nn := 0) [((0, nx), .c [.os 7 l.length (opF l) (nmN 1 oi)])] rfl rfl (List.Sublist.refl _) (List.nil_sublist _) ⟨Frz.bpL (.head _) ⟨Frz.of_le AVle.os_sl, trivial⟩, trivial⟩) ?_
      (repeat((conv=>whnf);first|apply ω0|apply ω1|apply ω2|refine τ3 rfl ?_|refine τ4 rfl ?_|refine ⟨rfl,?_⟩|apply τa|refine τb rfl ?_|refine ⟨⟨by kernel_rfl,by kernel_rfl⟩,?_⟩|refine ⟨by decide,?_⟩|apply τt|apply τf))
      exact ret_tells rfl (AVle.refl _)
    · have g3 := yes_of g3
      dsimp only at g3
      have hi : i < l.length := by omega
      have hki : (l.getD i ins0).ok := hok.get hi
      have hK0 : (kof (l.getD i ins0).code).1 ≠ 0 := (wrong_parts (hf.ok i hi)).1
      have hK29 := kof_le (l.getD i ins0).code
      have e1 := alook_fn fnL (kof (l.getD i ins0).code).1
      (repeat((conv=>whnf);first|apply ω0|apply ω1|apply ω2|refine τ3 rfl ?_|refine τ4 rfl ?_|refine ⟨rfl,?_⟩|apply τa|refine τb rfl ?_|refine ⟨⟨by kernel_rfl,by kernel_rfl⟩,?_⟩|refine ⟨by decide,?_⟩|apply τt|apply τf))
      refine ⟨⟨by first | omega | (dsimp only; omega), by first | omega | (dsimp only; omega)⟩, ?_⟩
      (repeat((conv=>whnf);first|apply ω0|apply ω1|apply ω2|refine τ3 rfl ?_|refine τ4 rfl ?_|refine ⟨rfl,?_⟩|apply τa|refine τb rfl ?_|refine ⟨⟨by kernel_rfl,by kernel_rfl⟩,?_⟩|refine ⟨by decide,?_⟩|apply τt|apply τf))
      refine aop_tells rfl rfl (of_both (l.getD i ins0).code hki.1) ⟨AVle.refl _, trivial⟩ fun nx4 => ?_
      (repeat((conv=>whnf);first|apply ω0|apply ω1|apply ω2|refine τ3 rfl ?_|refine τ4 rfl ?_|refine ⟨rfl,?_⟩|apply τa|refine τb rfl ?_|refine ⟨⟨by kernel_rfl,by kernel_rfl⟩,?_⟩|refine ⟨by decide,?_⟩|apply τt|apply τf))
      intro xb hxb
      (repeat((conv=>whnf);first|apply ω0|apply ω1|apply ω2|refine τ3 rfl ?_|refine τ4 rfl ?_|refine ⟨rfl,?_⟩|apply τa|refine τb rfl ?_|refine ⟨⟨by kernel_rfl,by kernel_rfl⟩,?_⟩|refine ⟨by decide,?_⟩|apply τt|apply τf))
      by_cases k16 : (kof (l.getD i ins0).code).1 < 16
      · have hD : doF (kof (l.getD i ins0).code).1 = doF (kof (l.getD i ins0).code).1 := rfl
        rw [lk_low _ k16 hK0] at e1
        refine splitO_eq (b := .fn (.func (doF (kof (l.getD i ins0).code).1)) [] []) (by
          show lookR (alook (.int .i64 ((kof (l.getD i ins0).code).1 : Nat)) (fnM fnL)) _ false = _
          rw [e1]; rfl) ?_
        (repeat((conv=>whnf);first|apply ω0|apply ω1|apply ω2|refine τ3 rfl ?_|refine τ4 rfl ?_|refine ⟨rfl,?_⟩|apply τa|refine τb rfl ?_|refine ⟨⟨by kernel_rfl,by kernel_rfl⟩,?_⟩|refine ⟨by decide,?_⟩|apply τt|apply τf))
        intro c hc
        obtain rfl : c = false := hc.trans (decide_eq_false (by omega))
        (repeat((conv=>whnf);first|apply ω0|apply ω1|apply ω2|refine τ3 rfl ?_|refine τ4 rfl ?_|refine ⟨rfl,?_⟩|apply τa|refine τb rfl ?_|refine ⟨⟨by kernel_rfl,by kernel_rfl⟩,?_⟩|refine ⟨by decide,?_⟩|apply τt|apply τf))
        intro c hc
        obtain rfl : c = false := hc.trans (decide_eq_false (by omega))
        (repeat((conv=>whnf);first|apply ω0|apply ω1|apply ω2|refine τ3 rfl ?_|refine τ4 rfl ?_|refine ⟨rfl,?_⟩|apply τa|refine τb rfl ?_|refine ⟨⟨by kernel_rfl,by kernel_rfl⟩,?_⟩|refine ⟨by decide,?_⟩|apply τt|apply τf))
        refine aw_mix 12 _ (fun i => match i with | 11 => true | _ => false) [0, 1, 2, 3, 4, 5, 6, 7, 8, 9, 10, 11] (by kernel_rfl) (by kernel_rfl) (HB.refl _) ?_
        (repeat((conv=>whnf);first|apply ω0|apply ω1|apply ω2|refine τ3 rfl ?_|refine τ4 rfl ?_|refine ⟨rfl,?_⟩|apply τa|refine τb rfl ?_|refine ⟨⟨by kernel_rfl,by kernel_rfl⟩,?_⟩|refine ⟨by decide,?_⟩|apply τt|apply τf))
        refine ⟨_, eff_append1 (e := 80) (c := 7) (pm := []) (HB.refl _) rfl rfl rfl (.inr ⟨_, rfl⟩) (by kernel_rfl) (by kernel_rfl) (by kernel_rfl) (.inr rfl) (by kernel_rfl) (List.append_nil _).symm (oneRow_one rfl) (by show (i + 1) * 32 ≤ _; omega) (by omega), fun r h' hr => ?_⟩
        obtain ⟨rfl, rfl⟩ := hr
        (repeat((conv=>whnf);first|apply ω0|apply ω1|apply ω2|refine τ3 rfl ?_|refine τ4 rfl ?_|refine ⟨rfl,?_⟩|apply τa|refine τb rfl ?_|refine ⟨⟨by kernel_rfl,by kernel_rfl⟩,?_⟩|refine ⟨by decide,?_⟩|apply τt|apply τf))
        exact back (i + 1, some _, _) ⟨by dsimp only; omega, (fun h => by cases h)⟩ (by dsimp only; omega) (ele_tell _ _ rfl rfl (.cons _ (List.Sublist.refl _)) (List.Sublist.refl _) ⟨rfl, ⟨AVle.trans (b := .os 7 (i + 1) (opF l) _) (AVle.os_fun (appF_one (fun k hk => rfl) (by subst hxb; unfold opF opI; rw [hD]; rfl))) (AVle.os_nm rfl), trivial⟩, trivial⟩ ⟨rfl, rfl, trivial⟩ ⟨AVle.refl _, AVle.refl _, AVle.refl _, AVle.refl _, le_int (wrap_succ (by dsimp only; omega)), trivial⟩)
      · rw [lk_high _ (by omega) (by omega)] at e1
        refine splitO_eq (b := .v .nilFunc) (by
          show lookR (alook (.int .i64 ((kof (l.getD i ins0).code).1 : Nat)) (fnM fnL)) _ false = _
          rw [e1]; rfl) ?_
        (repeat((conv=>whnf);first|apply ω0|apply ω1|apply ω2|refine τ3 rfl ?_|refine τ4 rfl ?_|refine ⟨rfl,?_⟩|apply τa|refine τb rfl ?_|refine ⟨⟨by kernel_rfl,by kernel_rfl⟩,?_⟩|refine ⟨by decide,?_⟩|apply τt|apply τf))
        intro c t25; cases c
        · have t25 := not_of t25
          have hD : doF (kof (l.getD i ins0).code).1 = 27 := by unfold doF; rw [if_neg (by omega), if_pos (by omega)]
          (repeat((conv=>whnf);first|apply ω0|apply ω1|apply ω2|refine τ3 rfl ?_|refine τ4 rfl ?_|refine ⟨rfl,?_⟩|apply τa|refine τb rfl ?_|refine ⟨⟨by kernel_rfl,by kernel_rfl⟩,?_⟩|refine ⟨by decide,?_⟩|apply τt|apply τf))
          intro c hc
          obtain rfl : c = true := hc.trans (decide_eq_true (by omega))
          (repeat((conv=>whnf);first|apply ω0|apply ω1|apply ω2|refine τ3 rfl ?_|refine τ4 rfl ?_|refine ⟨rfl,?_⟩|apply τa|refine τb rfl ?_|refine ⟨⟨by kernel_rfl,by kernel_rfl⟩,?_⟩|refine ⟨by decide,?_⟩|apply τt|apply τf))
          refine aw_mix 12 _ (fun i => match i with | 11 => true | _ => false) [0, 1, 2, 3, 4, 5, 6, 7, 8, 9, 10, 11] (by kernel_rfl) (by kernel_rfl) (HB.refl _) ?_
          (repeat((conv=>whnf);first|apply ω0|apply ω1|apply ω2|refine τ3 rfl ?_|refine τ4 rfl ?_|refine ⟨rfl,?_⟩|apply τa|refine τb rfl ?_|refine ⟨⟨by kernel_rfl,by kernel_rfl⟩,?_⟩|refine ⟨by decide,?_⟩|apply τt|apply τf))
          refine ⟨_, eff_append1 (e := 80) (c := 7) (pm := []) (HB.refl _) rfl rfl rfl (.inr ⟨_, rfl⟩) (by kernel_rfl) (by kernel_rfl) (by kernel_rfl) (.inr rfl) (by kernel_rfl) (List.append_nil _).symm (oneRow_one rfl) (by show (i + 1) * 32 ≤ _; omega) (by omega), fun r h' hr => ?_⟩
          obtain ⟨rfl, rfl⟩ := hr
          (repeat((conv=>whnf);first|apply ω0|apply ω1|apply ω2|refine τ3 rfl ?_|refine τ4 rfl ?_|refine ⟨rfl,?_⟩|apply τa|refine τb rfl ?_|refine ⟨⟨by kernel_rfl,by kernel_rfl⟩,?_⟩|refine ⟨by decide,?_⟩|apply τt|apply τf))
          exact back (i + 1, some _, _) ⟨by dsimp only; omega, (fun h => by cases h)⟩ (by dsimp only; omega) (ele_tell _ _ rfl rfl (.cons _ (List.Sublist.refl _)) (List.Sublist.refl _) ⟨rfl, ⟨AVle.trans (b := .os 7 (i + 1) (opF l) _) (AVle.os_fun (appF_one (fun k hk => rfl) (by subst hxb; unfold opF opI; rw [hD]; rfl))) (AVle.os_nm rfl), trivial⟩, trivial⟩ ⟨rfl, rfl, trivial⟩ ⟨AVle.refl _, AVle.refl _, AVle.refl _, AVle.refl _, le_int (wrap_succ (by dsimp only; omega)), trivial⟩)
        · have t25 := yes_of t25
          have hD : doF (kof (l.getD i ins0).code).1 = 26 := by unfold doF; rw [if_neg (by omega), if_neg (by omega)]
          (repeat((conv=>whnf);first|apply ω0|apply ω1|apply ω2|refine τ3 rfl ?_|refine τ4 rfl ?_|refine ⟨rfl,?_⟩|apply τa|refine τb rfl ?_|refine ⟨⟨by kernel_rfl,by kernel_rfl⟩,?_⟩|refine ⟨by decide,?_⟩|apply τt|apply τf))
          refine aw_mix 12 _ (fun i => match i with | 11 => true | _ => false) [0, 1, 2, 3, 4, 5, 6, 7, 8, 9, 10, 11] (by kernel_rfl) (by kernel_rfl) (HB.refl _) ?_
          (repeat((conv=>whnf);first|apply ω0|apply ω1|apply ω2|refine τ3 rfl ?_|refine τ4 rfl ?_|refine ⟨rfl,?_⟩|apply τa|refine τb rfl ?_|refine ⟨⟨by kernel_rfl,by kernel_rfl⟩,?_⟩|refine ⟨by decide,?_⟩|apply τt|apply τf))
          refine ⟨_, eff_append1 (e := 80) (c := 7) (pm := []) (HB.refl _) rfl rfl rfl (.inr ⟨_, rfl⟩) (by kernel_rfl) (by kernel_rfl) (by kernel_rfl) (.inr rfl) (by kernel_rfl) (List.append_nil _).symm (oneRow_one rfl) (by show (i + 1) * 32 ≤ _; omega) (by omega), fun r h' hr => ?_⟩
          obtain ⟨rfl, rfl⟩ := hr
          (repeat((conv=>whnf);first|apply ω0|apply ω1|apply ω2|refine τ3 rfl ?_|refine τ4 rfl ?_|refine ⟨rfl,?_⟩|apply τa|refine τb rfl ?_|refine ⟨⟨by kernel_rfl,by kernel_rfl⟩,?_⟩|refine ⟨by decide,?_⟩|apply τt|apply τf))
          exact back (i + 1, some _, _) ⟨by dsimp only; omega, (fun h => by cases h)⟩ (by dsimp only; omega) (ele_tell _ _ rfl rfl (.cons _ (List.Sublist.refl _)) (List.Sublist.refl _) ⟨rfl, ⟨AVle.trans (b := .os 7 (i + 1) (opF l) _) (AVle.os_fun (appF_one (fun k hk => rfl) (by subst hxb; unfold opF opI; rw [hD]; rfl))) (AVle.os_nm rfl), trivial⟩, trivial⟩ ⟨rfl, rfl, trivial⟩ ⟨AVle.refl _, AVle.refl _, AVle.refl _, AVle.refl _, le_int (wrap_succ (by dsimp only; omega)), trivial⟩)
end Go.Proofs.W

namespace Go.Proofs.W
open Go.Vl
set_option maxRecDepth 100000

/-- A program's run over 64 bytes: what it tells, how it stands. -/
def runI (b : List Nat) (l : List Ins) : Nat × Rn := runV b l l.length rn0
def outA (v : Nat) (s : Rn) : AV := .ag [u32 v, int s.steps, ints s.loads]
theorem clone_bytes (b : List Nat) (hl : b.length ≤ 1000000) : Tells Tryz.prog 28 [bytesA b] (bytesA b) := by
  refine tells_of_aw Tryz.func28 rfl rfl fun nx => ?_
  (repeat((conv=>whnf);first|apply ω0|apply ω1|apply ω2|refine τ3 rfl ?_|refine τ4 rfl ?_|refine ⟨rfl,?_⟩|apply τa|refine τb rfl ?_|refine ⟨⟨by kernel_rfl,by kernel_rfl⟩,?_⟩|refine ⟨by decide,?_⟩|apply τt|apply τf))
  refine aop_nilslice (e := 5) rfl (.inl rfl) (by kernel_rfl) (.inl rfl) fun c hc => ?_
  cases c
  · (repeat((conv=>whnf);first|apply ω0|apply ω1|apply ω2|refine τ3 rfl ?_|refine τ4 rfl ?_|refine ⟨rfl,?_⟩|apply τa|refine τb rfl ?_|refine ⟨⟨by kernel_rfl,by kernel_rfl⟩,?_⟩|refine ⟨by decide,?_⟩|apply τt|apply τf))
    (conv => whnf)
    refine appK_intro (fun hm => ?_) fun hm => ?_
    · (repeat((conv=>whnf);first|apply ω0|apply ω1|apply ω2|refine τ3 rfl ?_|refine τ4 rfl ?_|refine ⟨rfl,?_⟩|apply τa|refine τb rfl ?_|refine ⟨⟨by kernel_rfl,by kernel_rfl⟩,?_⟩|refine ⟨by decide,?_⟩|apply τt|apply τf))
      refine ret_tells rfl ?_
      unfold bytesA slOf
      rw [hm]
      exact AVle.os_sl0
    · refine ⟨fun k hk => rfl, by show (0 + b.length) * 1 ≤ _; omega, by omega, ?_⟩
      (repeat((conv=>whnf);first|apply ω0|apply ω1|apply ω2|refine τ3 rfl ?_|refine τ4 rfl ?_|refine ⟨rfl,?_⟩|apply τa|refine τb rfl ?_|refine ⟨⟨by kernel_rfl,by kernel_rfl⟩,?_⟩|refine ⟨by decide,?_⟩|apply τt|apply τf))
      refine ret_tells rfl ?_
      have e5 : 0 + b.length = b.length := Nat.zero_add _
      refine AVle.os_sl.trans ?_
      refine AVle.trans (b := .sl 1 (0 + b.length) (fun k => u8 (b.getD k 0 : Nat))) (AVle.sl_fun fun k hk => rfl) (AVle.of_eq (by rw [e5]; rfl))
  · have hm := hc rfl
    (repeat((conv=>whnf);first|apply ω0|apply ω1|apply ω2|refine τ3 rfl ?_|refine τ4 rfl ?_|refine ⟨rfl,?_⟩|apply τa|refine τb rfl ?_|refine ⟨⟨by kernel_rfl,by kernel_rfl⟩,?_⟩|refine ⟨by decide,?_⟩|apply τt|apply τf))
    refine ret_tells rfl ?_
    unfold bytesA slOf
    rw [hm]
    exact AVle.os_sl0
/-- What catches the end of a run. -/
theorem catch_spec (b : List Nat) (s : Rn) (hs : s.ok) (oi : Option Nat) (v : Nat) (s0 s1 s2 s3 s5 nx : Nat) (o5 : List AV) :
    DCall Tryz.prog 29 [.bp (3, s3) 0, .bp (0, s0) 0, .bp (1, s1) 0] (.panicking (overA v)) ⟨[((5, s5), .c o5), ((3, s3), .c [.bp (2, s2) 0]), ((2, s2), .c (runC b s oi)), ((1, s1), .c [int 0]), ((0, s0), .c [u32 0, int 0, .os 0 0 (fun _ => .any) none])], pmOf (nmN 1 oi) (s.loads.length * 1), nx, 6⟩
      fun u h' => u = .returning ∧ ∃ x y pm nx' nn', h' = ⟨x :: y :: [((3, s3), .c [.bp (2, s2) 0]), ((2, s2), .c (splice (runC b s oi) 20 [u32 v])), ((1, s1), .c [int 0]), ((0, s0), .c [u32 v, int s.steps, .os 1 s.loads.length (natF s.loads) (nmN 1 oi)])], pm, nx', nn'⟩ ∧ x.1.1 = 6 ∧ y.1.1 = 5 := by
  obtain ⟨at', a, x, cells, steps, loads⟩ := s
  obtain ⟨c0, c1, c2, c3, c4, c5, c6, c7, c8, c9, c10, c11, c12, c13, c14, c15, rfl⟩ := cells16 hs.n
  refine dcall_recover Tryz.func29 rfl rfl rfl rfl rfl rfl ?_
  (repeat((conv=>whnf);first|apply ω0|apply ω1|apply ω2|refine τ3 rfl ?_|refine τ4 rfl ?_|refine ⟨rfl,?_⟩|apply τa|refine τb rfl ?_|refine ⟨⟨by kernel_rfl,by kernel_rfl⟩,?_⟩|refine ⟨by decide,?_⟩|apply τt|apply τf))
  refine aop_assert rfl Tryz.underlying86 (fun m h => by cases h) rfl ?_
  (repeat((conv=>whnf);first|apply ω0|apply ω1|apply ω2|refine τ3 rfl ?_|refine τ4 rfl ?_|refine ⟨rfl,?_⟩|apply τa|refine τb rfl ?_|refine ⟨⟨by kernel_rfl,by kernel_rfl⟩,?_⟩|refine ⟨by decide,?_⟩|apply τt|apply τf))
  refine ret_is rfl ?_
  exact ⟨rfl, ((6, nx), .c [u32 v]), ((5, s5), .c o5), pmOf (nmN 1 oi) (loads.length * 1), nx + 1, 7, rfl, rfl, rfl⟩
theorem doV_loads {b : List Nat} {i : Ins} {s : Rn} : (doV b i s).2.loads.length ≤ s.loads.length + 1 := by
  unfold doV
  split
  all_goals first
    | (dsimp only; simp; done)
    | (dsimp only; omega)
    | skip
  split
  · split
    · dsimp only; omega
    · dsimp only; omega
  · dsimp only; omega
theorem runV_more {b : List Nat} {l : List Ins} (hf : Formed l) : ∀ f g (s : Rn), s.at' < l.length → l.length ≤ s.at' + f → f ≤ g → runV b l g s = runV b l f s
  | 0, g, s, hs, hl, _ => by omega
  | f + 1, 0, s, hs, hl, hg => by omega
  | f + 1, g + 1, s, hs, hl, hg => by
    unfold runV
    cases h : stepV b l s with
    | mk o s' =>
      cases o with
      | some v => rfl
      | none =>
        obtain ⟨h1, h2⟩ := stepV_next h
        obtain ⟨h3, h4⟩ := nexts_lt hf hs _ h1
        exact runV_more hf f g s' h4 (by omega) (by omega)
theorem le_step {b : List Nat} {at' a x steps at2 st2 : Nat} {loads : List Nat} {oi : Option Nat} {c0 c1 c2 c3 c4 c5 c6 c7 c8 c9 c10 c11 c12 c13 c14 c15 : Nat} {V W : AV} (hV : AVle V (int at2)) (hW : AVle W (int st2)) :
    OwnLe (.c (splice (splice (runC b ⟨at', a, x, [c0, c1, c2, c3, c4, c5, c6, c7, c8, c9, c10, c11, c12, c13, c14, c15], steps, loads⟩ oi) 1 [V]) 21 [W])) (.c (runC b ⟨at2, a, x, [c0, c1, c2, c3, c4, c5, c6, c7, c8, c9, c10, c11, c12, c13, c14, c15], st2, loads⟩ oi)) := by
  show LeL [bytesA b, V, u32 a, u32 x, u32A c0, u32A c1, u32A c2, u32A c3, u32A c4, u32A c5, u32A c6, u32A c7, u32A c8, u32A c9, u32A c10, u32A c11, u32A c12, u32A c13, u32A c14, u32A c15, u32 0, W, .os 1 loads.length (natF loads) (nmN 1 oi)] [bytesA b, int at2, u32 a, u32 x, u32A c0, u32A c1, u32A c2, u32A c3, u32A c4, u32A c5, u32A c6, u32A c7, u32A c8, u32A c9, u32A c10, u32A c11, u32A c12, u32A c13, u32A c14, u32A c15, u32 0, int st2, .os 1 loads.length (natF loads) (nmN 1 oi)]
  exact ⟨AVle.refl _, hV, AVle.refl _, AVle.refl _, AVle.refl _, AVle.refl _, AVle.refl _, AVle.refl _, AVle.refl _, AVle.refl _, AVle.refl _, AVle.refl _, AVle.refl _, AVle.refl _, AVle.refl _, AVle.refl _, AVle.refl _, AVle.refl _, AVle.refl _, AVle.refl _, AVle.refl _, hW, AVle.refl _, trivial⟩
def capsR (s0 s1 s3 : Nat) : List AV := [.bp (3, s3) 0, .bp (0, s0) 0, .bp (1, s1) 0]
def machB (b : List Nat) (s0 s1 s2 s3 : Nat) (s : Rn) (oi : Option Nat) : List (Vl.Id × Own) := [((3, s3), .c [.bp (2, s2) 0]), ((2, s2), .c (runC b s oi)), ((1, s1), .c [int 0]), ((0, s0), .c [u32 0, int 0, .os 0 0 (fun _ => .any) none])]
theorem le_init {b : List Nat} : OwnLe (.c [bytesA b, int 0, u32 0, u32 0, u32 0, u32 0, u32 0, u32 0, u32 0, u32 0, u32 0, u32 0, u32 0, u32 0, u32 0, u32 0, u32 0, u32 0, u32 0, u32 0, u32 0, int 0, .os 0 0 (fun _ => .any) none]) (.c (runC b rn0 none)) := by
  show LeL [bytesA b, int 0, u32 0, u32 0, u32 0, u32 0, u32 0, u32 0, u32 0, u32 0, u32 0, u32 0, u32 0, u32 0, u32 0, u32 0, u32 0, u32 0, u32 0, u32 0, u32 0, int 0, .os 0 0 (fun _ => .any) none] [bytesA b, int 0, u32 0, u32 0, u32 0, u32 0, u32 0, u32 0, u32 0, u32 0, u32 0, u32 0, u32 0, u32 0, u32 0, u32 0, u32 0, u32 0, u32 0, u32 0, u32 0, int 0, .os 1 0 (natF []) none]
  exact ⟨AVle.refl _, AVle.refl _, AVle.refl _, AVle.refl _, AVle.refl _, AVle.refl _, AVle.refl _, AVle.refl _, AVle.refl _, AVle.refl _, AVle.refl _, AVle.refl _, AVle.refl _, AVle.refl _, AVle.refl _, AVle.refl _, AVle.refl _, AVle.refl _, AVle.refl _, AVle.refl _, AVle.refl _, AVle.refl _, AVle.os_nil, trivial⟩
theorem z_op : zcells Tryz.prog 80 = some [u16 0, u8 0, u8 0, u32 0, .v .nilFunc, int 0, boolA false] := by kernel_rfl
structure RnI (b : List Nat) (l : List Ins) (s : Rn) (oi : Option Nat) : Prop where
  lt : s.at' < l.length
  ok : s.ok
  nil : oi = none → s.loads = []
  steps : s.steps ≤ s.at'
  loads : s.loads.length ≤ s.at'
  res : runV b l (l.length - s.at') s = runI b l
set_option maxHeartbeats 1000000 in
theorem run_spec (l : List Ins) (hok : okL l) (hR : Right l) (b : List Nat) (hb : okB b) (hbl : b.length = 64) : Tells Tryz.prog 12 [.rp [opsA l], bytesA b] (.tup [outA (runI b l).1 (runI b l).2, int 0]) := by
  have hf := hR.1
  have hle := hf.le
  have hpos := hf.pos
  refine tells_of_aw Tryz.func12 rfl rfl fun nx => ?_
  (repeat((conv=>whnf);first|apply ω0|apply ω1|apply ω2|refine τ3 rfl ?_|refine τ4 rfl ?_|refine ⟨rfl,?_⟩|apply τa|refine τb rfl ?_|refine ⟨⟨by kernel_rfl,by kernel_rfl⟩,?_⟩|refine ⟨by decide,?_⟩|apply τt|apply τf))
  refine aop_nilptr rfl (.inl rfl) Tryz.underlying48 rfl ?_
  (repeat((conv=>whnf);first|apply ω0|apply ω1|apply ω2|refine τ3 rfl ?_|refine τ4 rfl ?_|refine ⟨rfl,?_⟩|apply τa|refine τb rfl ?_|refine ⟨⟨by kernel_rfl,by kernel_rfl⟩,?_⟩|refine ⟨by decide,?_⟩|apply τt|apply τf))
  intro c hc
  obtain rfl : c = false := hc.trans (decide_eq_false (by omega))
  (repeat((conv=>whnf);first|apply ω0|apply ω1|apply ω2|refine τ3 rfl ?_|refine τ4 rfl ?_|refine ⟨rfl,?_⟩|apply τa|refine τb rfl ?_|refine ⟨⟨by kernel_rfl,by kernel_rfl⟩,?_⟩|refine ⟨by decide,?_⟩|apply τt|apply τf))
  intro c hc
  obtain rfl : c = false := hc.trans (decide_eq_false (by omega))
  (repeat((conv=>whnf);first|apply ω0|apply ω1|apply ω2|refine τ3 rfl ?_|refine τ4 rfl ?_|refine ⟨rfl,?_⟩|apply τa|refine τb rfl ?_|refine ⟨⟨by kernel_rfl,by kernel_rfl⟩,?_⟩|refine ⟨by decide,?_⟩|apply τt|apply τf))
  refine aop_tells rfl rfl (clone_bytes b (by omega)) ⟨AVle.refl _, trivial⟩ fun nx1 => ?_
  (repeat((conv=>whnf);first|apply ω0|apply ω1|apply ω2|refine τ3 rfl ?_|refine τ4 rfl ?_|refine ⟨rfl,?_⟩|apply τa|refine τb rfl ?_|refine ⟨⟨by kernel_rfl,by kernel_rfl⟩,?_⟩|refine ⟨by decide,?_⟩|apply τt|apply τf))
  refine aop_defer rfl rfl rfl ?_
  (repeat((conv=>whnf);first|apply ω0|apply ω1|apply ω2|refine τ3 rfl ?_|refine τ4 rfl ?_|refine ⟨rfl,?_⟩|apply τa|refine τb rfl ?_|refine ⟨⟨by kernel_rfl,by kernel_rfl⟩,?_⟩|refine ⟨by decide,?_⟩|apply τt|apply τf))
  refine aw_loop (fun y : Rn × Option Nat × Nat => mk 58 [(0, .rp [opsA l]), (4, .bp (0, nx) 0), (5, .bp (1, nx + 1) 0), (6, .bp (3, nx1 + 1) 0)] ⟨machB b nx (nx + 1) nx1 (nx1 + 1) y.1 y.2.1, pmOf (nmN 1 y.2.1) (y.1.loads.length * 1), y.2.2, 5⟩ (some [.fn 29 (capsR nx (nx + 1) (nx1 + 1)) []]))
    (fun y => RnI b l y.1 y.2.1) (fun y => l.length - y.1.at') ?_ ?_
  · exact ⟨(rn0, none, nx1 + 2), ⟨hpos, rn0_ok, fun _ => rfl, Nat.le_refl _, Nat.le_refl _, rfl⟩, ele_tell _ _ rfl rfl (List.Sublist.refl _) .slnil ⟨rfl, OwnLe.refl _, rfl, le_init, rfl, OwnLe.refl _, rfl, OwnLe.refl _, trivial⟩ trivial ⟨AVle.refl _, AVle.refl _, AVle.refl _, AVle.refl _, trivial⟩⟩
  · rintro ⟨⟨at', a, x, cells, steps, loads⟩, oi, nx2⟩ hI
    obtain ⟨i1, i2, i3, i4, i5, i6⟩ := hI
    obtain ⟨c0, c1, c2, c3, c4, c5, c6, c7, c8, c9, c10, c11, c12, c13, c14, c15, rfl⟩ := cells16 i2.n
    dsimp only at i1 i3 i4 i5 i6
    have hki : (l.getD at' ins0).ok := hok.get i1
    have hw := hf.ok at' i1
    have hw1 : IntKind.i64.wrap ((at' : Int) + 1) = ((at' + 1 : Nat) : Int) := wrap_succ (by omega)
    have hw2 : IntKind.i64.wrap ((steps : Int) + 1) = ((steps + 1 : Nat) : Int) := wrap_succ (by omega)
    have hok1 : Rn.ok ⟨at' + 1, a, x, [c0, c1, c2, c3, c4, c5, c6, c7, c8, c9, c10, c11, c12, c13, c14, c15], steps + 1, loads⟩ := ⟨i2.a, i2.x, i2.n, i2.c⟩
    have hcall := do_spec b hb hbl (l.getD at' ins0) hki _ hw nx1 ⟨at' + 1, a, x, [c0, c1, c2, c3, c4, c5, c6, c7, c8, c9, c10, c11, c12, c13, c14, c15], steps + 1, loads⟩ oi i3 hok1 (by dsimp only; omega) (by omega) (by dsimp only; omega) (nx2 + 1)
    have hstep : stepV b l ⟨at', a, x, [c0, c1, c2, c3, c4, c5, c6, c7, c8, c9, c10, c11, c12, c13, c14, c15], steps, loads⟩ = doV b (l.getD at' ins0) ⟨at' + 1, a, x, [c0, c1, c2, c3, c4, c5, c6, c7, c8, c9, c10, c11, c12, c13, c14, c15], steps + 1, loads⟩ := rfl
    have hdok := doV_ok hb hki hok1
    have hdl := doV_loads (b := b) (i := l.getD at' ins0) (s := ⟨at' + 1, a, x, [c0, c1, c2, c3, c4, c5, c6, c7, c8, c9, c10, c11, c12, c13, c14, c15], steps + 1, loads⟩)
    rw [← hstep] at hcall hdok hdl
    (repeat((conv=>whnf);first|apply ω0|apply ω1|apply ω2|refine τ3 rfl ?_|refine τ4 rfl ?_|refine ⟨rfl,?_⟩|apply τa|refine τb rfl ?_|refine ⟨⟨by kernel_rfl,by kernel_rfl⟩,?_⟩|refine ⟨by decide,?_⟩|apply τt|apply τf))
    refine aw_mix 11 (machB b nx (nx + 1) nx1 (nx1 + 1) ⟨at', a, x, [c0, c1, c2, c3, c4, c5, c6, c7, c8, c9, c10, c11, c12, c13, c14, c15], steps, loads⟩ oi) (fun i => match i with | 10 => true | _ => false) [0, 1, 2, 3, 4, 5, 6, 7, 8, 9, 10] (by kernel_rfl) (by kernel_rfl) (HB.refl _) ?_
    (repeat((conv=>whnf);first|apply ω0|apply ω1|apply ω2|refine τ3 rfl ?_|refine τ4 rfl ?_|refine ⟨rfl,?_⟩|apply τa|refine τb rfl ?_|refine ⟨⟨by kernel_rfl,by kernel_rfl⟩,?_⟩|refine ⟨by decide,?_⟩|apply τt|apply τf))
    refine ⟨⟨by first | omega | (dsimp only; omega), by first | omega | (dsimp only; omega)⟩, ?_⟩
    (repeat((conv=>whnf);first|apply ω0|apply ω1|apply ω2|refine τ3 rfl ?_|refine τ4 rfl ?_|refine ⟨rfl,?_⟩|apply τa|refine τb rfl ?_|refine ⟨⟨by kernel_rfl,by kernel_rfl⟩,?_⟩|refine ⟨by decide,?_⟩|apply τt|apply τf))
    refine ⟨_, eff_alloc rfl rfl z_op (HB.cons rfl (HB.cons rfl (HB.cons rfl (HB.one rfl)))), fun r h' hr => ?_⟩
    obtain ⟨rfl, rfl⟩ := hr
    (repeat((conv=>whnf);first|apply ω0|apply ω1|apply ω2|refine τ3 rfl ?_|refine τ4 rfl ?_|refine ⟨rfl,?_⟩|apply τa|refine τb rfl ?_|refine ⟨⟨by kernel_rfl,by kernel_rfl⟩,?_⟩|refine ⟨by decide,?_⟩|apply τt|apply τf))
    have hc2 := (hcall.tell (h' := ⟨[((2, nx1), .c (splice (splice (runC b ⟨at', a, x, [c0, c1, c2, c3, c4, c5, c6, c7, c8, c9, c10, c11, c12, c13, c14, c15], steps, loads⟩ oi) 1 [int (IntKind.i64.wrap ((at' : Int) + 1))]) 21 [int (IntKind.i64.wrap ((steps : Int) + 1))]))], pmOf (nmN 1 oi) (loads.length * 1), nx2 + 1, 6⟩) ⟨rfl, le_step (le_int hw1) (le_int hw2), trivial⟩ (PmEq.refl _) rfl)
    refine aop_callR rfl rfl (by exact ECallR.args (bs := [.bp (0, nx1) 0, opA (l.getD at' ins0) .any]) ⟨AVle.bp_nm rfl, AVle.ags (cs := [_, _, _, _, _, _, _]) ⟨AVle.refl _, AVle.refl _, AVle.refl _, AVle.refl _, AVle.any _, AVle.refl _, AVle.refl _, trivial⟩, trivial⟩ (hc2.frame [((5, _), .c _), ((3, _), .c _), ((1, _), .c _), ((0, _), .c _)] [] (List.perm_middle (l₁ := [_, _])) (.of_eq (List.append_nil _).symm) rfl)) (fun r h' hq => ?_) (fun xp h' hq => ?_)
    · obtain ⟨h1', ⟨oi', nx', nn', r1, r2, rfl⟩, rfl⟩ := hq
      have hst : stepV b l ⟨at', a, x, [c0, c1, c2, c3, c4, c5, c6, c7, c8, c9, c10, c11, c12, c13, c14, c15], steps, loads⟩ = (none, (stepV b l ⟨at', a, x, [c0, c1, c2, c3, c4, c5, c6, c7, c8, c9, c10, c11, c12, c13, c14, c15], steps, loads⟩).2) := by rw [← r1]
      generalize (stepV b l ⟨at', a, x, [c0, c1, c2, c3, c4, c5, c6, c7, c8, c9, c10, c11, c12, c13, c14, c15], steps, loads⟩).2 = s' at *
      obtain ⟨n1, n2⟩ := stepV_next hst
      obtain ⟨n3, n4⟩ := nexts_lt hf i1 _ n1
      dsimp only at n2 n3 hdl
      refine ⟨r, ⟨[((5, _), .c _), ((3, nx1 + 1), .c [.bp (2, nx1) 0]), ((2, nx1), .c (runC b s' oi')), ((1, nx + 1), .c [int 0]), ((0, nx), .c [u32 0, int 0, .os 0 0 (fun _ => .any) none])], pmOf (nmN 1 oi') (s'.loads.length * 1) ++ [], nx', 6⟩, AVle.refl _, ⟨(List.perm_middle (l₁ := [_, _])), .refl _, rfl⟩, ?_⟩
      (repeat((conv=>whnf);first|apply ω0|apply ω1|apply ω2|refine τ3 rfl ?_|refine τ4 rfl ?_|refine ⟨rfl,?_⟩|apply τa|refine τb rfl ?_|refine ⟨⟨by kernel_rfl,by kernel_rfl⟩,?_⟩|refine ⟨by decide,?_⟩|apply τt|apply τf))
      refine back (s', oi', nx') ⟨n4, hdok, r2, by dsimp only; omega, by dsimp only; omega, ?_⟩ (by dsimp only; omega) (ele_tell _ _ rfl rfl (.cons _ (List.Sublist.refl _)) (List.Sublist.refl _) (BxLe.refl _) (by rw [List.append_nil]; exact PmEq.refl _) ⟨AVle.refl _, AVle.refl _, AVle.refl _, AVle.refl _, trivial⟩)
      rw [← i6]
      obtain ⟨m, hm⟩ : ∃ m, l.length - at' = m + 1 := ⟨l.length - at' - 1, by omega⟩
      rw [hm, runV, hst]
      dsimp only
      exact (runV_more hf (l.length - s'.at') m s' n4 (by omega) (by omega)).symm
    · obtain ⟨h1', ⟨v, oi', nx', nn', r1, rfl, r2, rfl⟩, rfl⟩ := hq
      have hst : stepV b l ⟨at', a, x, [c0, c1, c2, c3, c4, c5, c6, c7, c8, c9, c10, c11, c12, c13, c14, c15], steps, loads⟩ = (some v, (stepV b l ⟨at', a, x, [c0, c1, c2, c3, c4, c5, c6, c7, c8, c9, c10, c11, c12, c13, c14, c15], steps, loads⟩).2) := by rw [← r1]
      generalize (stepV b l ⟨at', a, x, [c0, c1, c2, c3, c4, c5, c6, c7, c8, c9, c10, c11, c12, c13, c14, c15], steps, loads⟩).2 = s' at *
      have hres : runI b l = (v, s') := by
        rw [← i6]
        obtain ⟨m, hm⟩ : ∃ m, l.length - at' = m + 1 := ⟨l.length - at' - 1, by omega⟩
        rw [hm, runV, hst]
      rw [hres]
      (conv => whnf)
      refine DCall.like (h := ⟨[((5, _), .c _), ((3, nx1 + 1), .c [.bp (2, nx1) 0]), ((2, nx1), .c (runC b s' oi')), ((1, nx + 1), .c [int 0]), ((0, nx), .c [u32 0, int 0, .os 0 0 (fun _ => .any) none])], pmOf (nmN 1 oi') (s'.loads.length * 1), nx', 6⟩) ⟨(List.perm_middle (l₁ := [_, _])).symm, .of_eq (by rw [List.append_nil]; rfl), rfl⟩ ((catch_spec b s' hdok oi' v nx (nx + 1) nx1 (nx1 + 1) _ nx' _).mono fun u h' hq => ?_)
      obtain ⟨rfl, ⟨⟨x1, x2⟩, x3⟩, ⟨⟨y1, y2⟩, y3⟩, pm, nx7, nn7, rfl, hx, hy⟩ := hq
      dsimp only at hx hy
      subst hx
      subst hy
      refine ret_tells_all rfl ?_ ?_
      · exact ⟨rfl, ⟨rfl, by decide⟩, trivial⟩
      · exact AVle.tups (cs := [_, _]) ⟨AVle.ags (cs := [_, _, _]) ⟨AVle.refl _, AVle.refl _, AVle.os_sl, trivial⟩, AVle.refl _, trivial⟩
theorem run_nil (b : AV) : Tells Tryz.prog 12 [.v (.pointer none), b] (.tup [outA 0 rn0, int 18]) := by
  refine tells_of_aw Tryz.func12 rfl rfl fun nx => ?_
  (repeat((conv=>whnf);first|apply ω0|apply ω1|apply ω2|refine τ3 rfl ?_|refine τ4 rfl ?_|refine ⟨rfl,?_⟩|apply τa|refine τb rfl ?_|refine ⟨⟨by kernel_rfl,by kernel_rfl⟩,?_⟩|refine ⟨by decide,?_⟩|apply τt|apply τf))
  refine ret_tells_all rfl ?_ ?_
  · exact ⟨rfl, ⟨rfl, by decide⟩, trivial⟩
  · exact AVle.tups (cs := [_, _]) ⟨AVle.ags (cs := [_, _, _]) ⟨AVle.refl _, AVle.refl _, AVle.os_sl0, trivial⟩, AVle.refl _, trivial⟩
theorem run_size (l : List Ins) (b : List Nat) (hbl : b.length ≠ 64) (hl : b.length ≤ 1000000) : Tells Tryz.prog 12 [.rp [opsA l], bytesA b] (.tup [outA 0 rn0, int (if b.length < 64 then 2 else 3 : Nat)]) := by
  refine tells_of_aw Tryz.func12 rfl rfl fun nx => ?_
  (repeat((conv=>whnf);first|apply ω0|apply ω1|apply ω2|refine τ3 rfl ?_|refine τ4 rfl ?_|refine ⟨rfl,?_⟩|apply τa|refine τb rfl ?_|refine ⟨⟨by kernel_rfl,by kernel_rfl⟩,?_⟩|refine ⟨by decide,?_⟩|apply τt|apply τf))
  refine aop_nilptr rfl (.inl rfl) Tryz.underlying48 rfl ?_
  (repeat((conv=>whnf);first|apply ω0|apply ω1|apply ω2|refine τ3 rfl ?_|refine τ4 rfl ?_|refine ⟨rfl,?_⟩|apply τa|refine τb rfl ?_|refine ⟨⟨by kernel_rfl,by kernel_rfl⟩,?_⟩|refine ⟨by decide,?_⟩|apply τt|apply τf))
  intro c h; cases c
  · have h := not_of h
    (repeat((conv=>whnf);first|apply ω0|apply ω1|apply ω2|refine τ3 rfl ?_|refine τ4 rfl ?_|refine ⟨rfl,?_⟩|apply τa|refine τb rfl ?_|refine ⟨⟨by kernel_rfl,by kernel_rfl⟩,?_⟩|refine ⟨by decide,?_⟩|apply τt|apply τf))
    intro c hc
    obtain rfl : c = true := hc.trans (decide_eq_true (by omega))
    (repeat((conv=>whnf);first|apply ω0|apply ω1|apply ω2|refine τ3 rfl ?_|refine τ4 rfl ?_|refine ⟨rfl,?_⟩|apply τa|refine τb rfl ?_|refine ⟨⟨by kernel_rfl,by kernel_rfl⟩,?_⟩|refine ⟨by decide,?_⟩|apply τt|apply τf))
    refine ret_tells_all rfl ?_ ?_
    · exact ⟨rfl, ⟨rfl, by decide⟩, trivial⟩
    · rw [if_neg (by omega)]
      exact AVle.tups (cs := [_, _]) ⟨AVle.ags (cs := [_, _, _]) ⟨AVle.refl _, AVle.refl _, AVle.os_sl0, trivial⟩, AVle.refl _, trivial⟩
  · have h := yes_of h
    (repeat((conv=>whnf);first|apply ω0|apply ω1|apply ω2|refine τ3 rfl ?_|refine τ4 rfl ?_|refine ⟨rfl,?_⟩|apply τa|refine τb rfl ?_|refine ⟨⟨by kernel_rfl,by kernel_rfl⟩,?_⟩|refine ⟨by decide,?_⟩|apply τt|apply τf))
    refine ret_tells_all rfl ?_ ?_
    · exact ⟨rfl, ⟨rfl, by decide⟩, trivial⟩
    · rw [if_pos (by omega)]
      exact AVle.tups (cs := [_, _]) ⟨AVle.ags (cs := [_, _, _]) ⟨AVle.refl _, AVle.refl _, AVle.os_sl0, trivial⟩, AVle.refl _, trivial⟩
/-- What a run of any program over any bytes tells: an error's number, the value, the end. -/
def vmI (l : List Ins) (b : List Nat) : Nat × (Nat × Rn) :=
  if (checkI l).2 ≠ 0 then ((checkI l).2, (0, rn0)) else if b.length < 64 then (2, (0, rn0)) else if 64 < b.length then (3, (0, rn0)) else (0, runI b l)
theorem vmrun_spec (l : List Ins) (hok : okL l) (hl : l.length ≤ 1000000000) (b : List Nat) (hb : okB b) (hbl : b.length ≤ 1000000) : Tells Tryz.prog 5 [inss l, bytesA b] (.tup [outA (vmI l b).2.1 (vmI l b).2.2, int (vmI l b).1]) := by
  refine tells_of_aw Tryz.func5 rfl rfl fun nx => ?_
  (repeat((conv=>whnf);first|apply ω0|apply ω1|apply ω2|refine τ3 rfl ?_|refine τ4 rfl ?_|refine ⟨rfl,?_⟩|apply τa|refine τb rfl ?_|refine ⟨⟨by kernel_rfl,by kernel_rfl⟩,?_⟩|refine ⟨by decide,?_⟩|apply τt|apply τf))
  refine aop_tells rfl rfl (new_spec l hok hl) ⟨AVle.refl _, trivial⟩ fun nx1 => ?_
  by_cases hc : (checkI l).2 = 0
  · have hv : newA l = .tup [.rp [opsA l], int 0] := by unfold newA; rw [if_pos hc]
    rw [hv]
    (repeat((conv=>whnf);first|apply ω0|apply ω1|apply ω2|refine τ3 rfl ?_|refine τ4 rfl ?_|refine ⟨rfl,?_⟩|apply τa|refine τb rfl ?_|refine ⟨⟨by kernel_rfl,by kernel_rfl⟩,?_⟩|refine ⟨by decide,?_⟩|apply τt|apply τf))
    by_cases hn : b.length = 64
    · have hv : vmI l b = (0, runI b l) := by unfold vmI; rw [if_neg (by omega), if_neg (by omega), if_neg (by omega)]
      rw [hv]
      refine aop_tells rfl rfl (run_spec l hok (check_iff.1 hc) b hb hn) ⟨AVle.refl _, AVle.refl _, trivial⟩ fun nx2 => ?_
      (repeat((conv=>whnf);first|apply ω0|apply ω1|apply ω2|refine τ3 rfl ?_|refine τ4 rfl ?_|refine ⟨rfl,?_⟩|apply τa|refine τb rfl ?_|refine ⟨⟨by kernel_rfl,by kernel_rfl⟩,?_⟩|refine ⟨by decide,?_⟩|apply τt|apply τf))
      refine ret_tells_all rfl ?_ ?_
      · exact ⟨rfl, trivial⟩
      · exact AVle.refl _
    · have hv : vmI l b = ((if b.length < 64 then 2 else 3), (0, rn0)) := by
        unfold vmI; rw [if_neg (by omega)]
        split
        · rfl
        · rw [if_pos (by omega)]
      rw [hv]
      refine aop_tells rfl rfl (run_size l b hn hbl) ⟨AVle.refl _, AVle.refl _, trivial⟩ fun nx2 => ?_
      (repeat((conv=>whnf);first|apply ω0|apply ω1|apply ω2|refine τ3 rfl ?_|refine τ4 rfl ?_|refine ⟨rfl,?_⟩|apply τa|refine τb rfl ?_|refine ⟨⟨by kernel_rfl,by kernel_rfl⟩,?_⟩|refine ⟨by decide,?_⟩|apply τt|apply τf))
      refine ret_tells_all rfl ?_ ?_
      · exact ⟨rfl, trivial⟩
      · exact AVle.refl _
  · have hv : newA l = .tup [.v (.pointer none), int (checkI l).2] := by unfold newA; rw [if_neg hc]
    have hw : vmI l b = ((checkI l).2, (0, rn0)) := by unfold vmI; rw [if_pos hc]
    rw [hv, hw]
    (repeat((conv=>whnf);first|apply ω0|apply ω1|apply ω2|refine τ3 rfl ?_|refine τ4 rfl ?_|refine ⟨rfl,?_⟩|apply τa|refine τb rfl ?_|refine ⟨⟨by kernel_rfl,by kernel_rfl⟩,?_⟩|refine ⟨by decide,?_⟩|apply τt|apply τf))
    intro c hcc
    obtain rfl : c = true := by rw [hcc]; simp; omega
    (repeat((conv=>whnf);first|apply ω0|apply ω1|apply ω2|refine τ3 rfl ?_|refine τ4 rfl ?_|refine ⟨rfl,?_⟩|apply τa|refine τb rfl ?_|refine ⟨⟨by kernel_rfl,by kernel_rfl⟩,?_⟩|refine ⟨by decide,?_⟩|apply τt|apply τf))
    refine ret_tells_all rfl ?_ ?_
    · exact ⟨rfl, trivial⟩
    · exact AVle.tups (cs := [_, _]) ⟨AVle.ags (cs := [_, _, _]) ⟨AVle.refl _, AVle.refl _, AVle.os_sl0, trivial⟩, AVle.refl _, trivial⟩
end Go.Proofs.W

namespace Go.Proofs.W
open Go.Vl
set_option maxRecDepth 100000

def sums (o : List Bool) : List Nat := (List.range (o.length + 1)).map fun k => (o.take k).count true
theorem sums_length (o : List Bool) : (sums o).length = o.length + 1 := by simp [sums]
theorem sums_get {o : List Bool} {k : Nat} (h : k ≤ o.length) : (sums o).getD k 0 = (o.take k).count true := by
  have : k < o.length + 1 := by omega
  simp [sums, List.getD, this]
theorem count_take {o : List Bool} {k : Nat} (h : k < o.length) : (o.take (k + 1)).count true = (o.take k).count true + (if o.getD k false then 1 else 0) := by
  rw [take_getD false h, List.count_append]
  cases o.getD k false <;> rfl
theorem count_mono (o : List Bool) (j : Nat) : ∀ d, (o.take j).count true ≤ (o.take (j + d)).count true ∧ (o.take (j + d)).count true ≤ (o.take j).count true + d
  | 0 => ⟨Nat.le_refl _, Nat.le_refl _⟩
  | d + 1 => by
    obtain ⟨h1, h2⟩ := count_mono o j d
    rcases Nat.lt_or_ge (j + d) o.length with h | h
    · rw [show j + (d + 1) = j + d + 1 from rfl, count_take h]
      split <;> omega
    · rw [List.take_of_length_le (show o.length ≤ j + (d + 1) by omega)]
      rw [List.take_of_length_le h] at h1 h2
      omega
theorem to_sums {o : List Bool} {n k : Nat} (h : n + 1 + k ≤ o.length) (hl : o.length ≤ 1000000) : toI (sums o) n k = (((o.take (n + 1 + k)).count true - (o.take (n + 1)).count true : Nat) : Int) ∧ 0 ≤ toI (sums o) n k ∧ toI (sums o) n k ≤ k := by
  have h1 := count_mono o (n + 1) k
  have h2 : (o.take (n + 1 + k)).count true ≤ o.length := Nat.le_trans List.count_le_length (by simp; omega)
  have h3 : toI (sums o) n k = (((o.take (n + 1 + k)).count true - (o.take (n + 1)).count true : Nat) : Int) := by
    unfold toI
    rw [sums_get h, sums_get (by omega), wrap_id (by omega) (by omega)]
    omega
  rw [h3]
  refine ⟨rfl, by omega, by omega⟩
def prI (l : List Ins) (n : Nat) : Ins := prAt (sums (reachedOf l)) n (l.getD n ins0) (kind l n)
def prTo (l : List Ins) (n : Nat) : List Ins := ((List.range n).filter fun n => (reachedOf l).getD n false).map (prI l)
def pruneI (l : List Ins) : List Ins := prTo l (reachedOf l).length
theorem prTo_succ (l : List Ins) (n : Nat) : prTo l (n + 1) = if (reachedOf l).getD n false then prTo l n ++ [prI l n] else prTo l n := by
  unfold prTo
  have h0 : List.filter (fun n => (reachedOf l).getD n false) [n] = if (reachedOf l).getD n false then [n] else [] := by rw [List.filter_cons]; rfl
  rw [List.range_succ, List.filter_append, h0]
  cases h : (reachedOf l).getD n false
  · simp
  · simp
theorem prTo_length (l : List Ins) (n : Nat) : (prTo l n).length ≤ n := by
  unfold prTo
  rw [List.length_map]
  exact Nat.le_trans (List.length_filter_le _ _) (by simp)
def fillA (o : List Bool) (i : Nat) : List Nat := (sums o).take (i + 1) ++ List.replicate (o.length - i) 0
theorem fillA_zero (o : List Bool) : fillA o 0 = List.replicate (o.length + 1) 0 := by
  have : (sums o).take (0 + 1) = [0] := by simp [sums, List.range_succ_eq_map]
  unfold fillA
  rw [this, Nat.sub_zero, List.replicate_succ]; rfl
theorem fillA_length {o : List Bool} {i : Nat} (h : i ≤ o.length) : (fillA o i).length = o.length + 1 := by
  unfold fillA; rw [List.length_append, List.length_take, sums_length, List.length_replicate]; omega
theorem fillA_full (o : List Bool) : fillA o o.length = sums o := by
  unfold fillA; rw [Nat.sub_self, List.take_of_length_le (by rw [sums_length]; exact Nat.le_refl _)]; simp
theorem fillA_at {o : List Bool} {i : Nat} (h : i < o.length) : (fillA o i).getD i 0 = (o.take i).count true := by
  unfold fillA
  rw [fill_get (by rw [List.length_take, sums_length]; omega), ← sums_get (by omega)]
  simp only [List.getD, List.getElem?_take]
  rw [if_pos (by omega)]
theorem fillA_next {o : List Bool} {i : Nat} (h : i < o.length) : fillA o (i + 1) = (fillA o i).set (i + 1) ((fillA o i).getD i 0 + if o.getD i false then 1 else 0) := by
  rw [fillA_at h]
  obtain ⟨m, hm⟩ : ∃ m, o.length - i = m + 1 := ⟨o.length - i - 1, by omega⟩
  have hl : ((sums o).take (i + 1)).length = i + 1 := by rw [List.length_take, sums_length]; omega
  have h1 := fill_set ((sums o).take (i + 1)) m ((o.take i).count true + if o.getD i false then 1 else 0) 0
  rw [hl] at h1
  have h2 := take_getD (l := sums o) (i := i + 1) 0 (by rw [sums_length]; omega)
  rw [sums_get (by omega), count_take h] at h2
  show (sums o).take (i + 1 + 1) ++ _ = ((sums o).take (i + 1) ++ _).set _ _
  rw [hm, h1, h2, show o.length - (i + 1) = m by omega]
theorem check_formed {l : List Ins} (h : (checkI l).2 = 0) : Formed l := by
  refine formed_of ?_
  unfold checkI at h
  split at h
  · exact absurd h (by assumption)
  · rename_i h3; omega
theorem reachedOf_some {l : List Ins} {n : Nat} (h : n < (reachedOf l).length) : Formed l ∧ (reachedOf l).length = l.length := by
  unfold reachedOf at h ⊢
  split at h
  · rename_i h1; rw [if_pos h1]; exact ⟨check_formed h1, reachI_length l⟩
  · simp at h
theorem leave_all (l : List Ins) (hok : okL l) (s0 s1 s2 : Nat) (n : Nat) (x : List Ins × Option Nat) (nx : Nat) (hn : n < (reachedOf l).length) (hb : (reachedOf l).getD n false = true) (hx : x.1 = prTo l n ∧ (x.2 = none → x.1 = [])) :
    ECall Tryz.prog 31 ([int n, insA (l.getD n ins0), int (kind l n)] ++ [.bp (1, s1) 0, .bp (2, s2) 0]) ⟨prB s0 s1 s2 (sums (reachedOf l)) x.1 x.2, pmOf (nm3 x.2) (x.1.length * 4), nx, 4⟩ fun _ h' =>
      ∃ (x' : List Ins × Option Nat) (nx' nn' : Nat), h' = ⟨prB s0 s1 s2 (sums (reachedOf l)) x'.1 x'.2, pmOf (nm3 x'.2) (x'.1.length * 4), nx', nn'⟩ ∧ (x'.1 = prTo l (n + 1) ∧ (x'.2 = none → x'.1 = [])) := by
  obtain ⟨out, oi⟩ := x
  obtain ⟨h1, h2⟩ := hx
  dsimp only at h1 h2
  obtain ⟨hf, hlen⟩ := reachedOf_some hn
  have hle := hf.le
  have hnx := nexts_lt hf (n := n) (by omega)
  have hol : out.length ≤ n := by rw [h1]; exact prTo_length l n
  refine (leave_spec s0 s1 s2 nx (sums (reachedOf l)) out oi (l.getD n ins0) n (kind l n) (hok.get (by omega)) (by rw [sums_length]; omega) (by omega) h2 (fun hk => ?_) (fun hk => ?_) (fun k hk => ?_)).mono fun r h' ⟨id, nx', nn', q⟩ => ⟨(out ++ [prAt (sums (reachedOf l)) n (l.getD n ins0) (kind l n)], some id), nx', nn', q, ?_, fun h => by cases h⟩
  · have := hnx (n + 1 + (l.getD n ins0).k) (by unfold nextsI; rw [if_neg (by omega), if_pos hk]; simp)
    rw [sums_length]; omega
  · have a1 := hnx (n + 1 + (l.getD n ins0).jt) (by unfold nextsI; rw [if_neg (by omega), if_neg (by omega), if_pos hk]; simp)
    have a2 := hnx (n + 1 + (l.getD n ins0).jf) (by unfold nextsI; rw [if_neg (by omega), if_neg (by omega), if_pos hk]; simp)
    rw [sums_length]; omega
  · rw [sums_length] at hk
    exact (to_sums (o := reachedOf l) (by omega) (by omega)).2
  · rw [prTo_succ, hb, if_pos rfl, h1]; rfl
theorem skip_all (l : List Ins) (n : Nat) (x : List Ins × Option Nat) (hn : n < (reachedOf l).length) (hb : (reachedOf l).getD n false = false) (hx : x.1 = prTo l n ∧ (x.2 = none → x.1 = [])) : x.1 = prTo l (n + 1) ∧ (x.2 = none → x.1 = []) := by
  rw [prTo_succ, hb]
  exact hx
theorem prune_spec (l : List Ins) (hok : okL l) (hl : l.length ≤ 1000000000) : Tells Tryz.prog 13 [inss l] (inss (pruneI l)) := by
  have hro : (reachedOf l).length ≤ 4096 := by
    unfold reachedOf; split
    · rename_i h; rw [reachI_length]; exact (check_formed h).le
    · simp
  refine tells_of_aw Tryz.func13 rfl rfl fun nx => ?_
  (repeat((conv=>whnf);first|apply ω0|apply ω1|apply ω2|refine τ3 rfl ?_|refine τ4 rfl ?_|refine ⟨rfl,?_⟩|apply τa|refine τb rfl ?_|refine ⟨⟨by kernel_rfl,by kernel_rfl⟩,?_⟩|refine ⟨by decide,?_⟩|apply τt|apply τf))
  have hr : Tells Tryz.prog 30 [inss l] (bools (reachedOf l)) := reach_spec l hok hl
  refine aop_tells rfl rfl hr ⟨AVle.refl _, trivial⟩ fun nx => ?_
  have hcall := fun (s0 s1 s2 : Nat) => reached_spec (α := List Ins × Option Nat) l hok hl (fun x => prB s0 s1 s2 (sums (reachedOf l)) x.1 x.2) (fun x => pmOf (nm3 x.2) (x.1.length * 4)) 4 31 [.bp (1, s1) 0, .bp (2, s2) 0]
    (fun n x => x.1 = prTo l n ∧ (x.2 = none → x.1 = []))
  have hw : IntKind.i64.wrap (((reachedOf l).length : Int) + 1) = (((reachedOf l).length + 1 : Nat) : Int) := wrap_succ (by omega)
  (repeat((conv=>whnf);first|apply ω0|apply ω1|apply ω2|refine τ3 rfl ?_|refine τ4 rfl ?_|refine ⟨rfl,?_⟩|apply τa|refine τb rfl ?_|refine ⟨⟨by kernel_rfl,by kernel_rfl⟩,?_⟩|refine ⟨by decide,?_⟩|apply τt|apply τf))
  (conv => whnf)
  rw [hw]
  refine ⟨by omega, by omega, by show ((8 : Nat) : Int) * _ ≤ _; omega, by omega, ?_⟩
  (repeat((conv=>whnf);first|apply ω0|apply ω1|apply ω2|refine τ3 rfl ?_|refine τ4 rfl ?_|refine ⟨rfl,?_⟩|apply τa|refine τb rfl ?_|refine ⟨⟨by kernel_rfl,by kernel_rfl⟩,?_⟩|refine ⟨by decide,?_⟩|apply τt|apply τf))
  refine aw_loop (fun i : Nat => mk 42 [(0, inss l), (3, bools (reachedOf l)), (4, .bp (1, nx + 1) 0), (14, bools (reachedOf l)), (15, int (reachedOf l).length), (16, int i)]
    ⟨[((1, nx + 1), .c [.hs (0, nx) 0 ((reachedOf l).length + 1) ((reachedOf l).length + 1)]), ((0, nx), .c ((fillA (reachedOf l) i).map intA))], [], nx + 2, 2⟩) (fun i => i ≤ (reachedOf l).length) (fun i => (reachedOf l).length - i) ?_ ?_
  · refine ⟨0, by omega, ele_tell _ _ rfl rfl (List.Sublist.refl _) .slnil ⟨rfl, OwnLe.refl _, rfl, OwnLe.of_eq ?_, trivial⟩ trivial ⟨AVle.refl _, AVle.refl _, AVle.refl _, AVle.refl _, AVle.refl _, AVle.refl _, trivial⟩⟩
    rw [fillA_zero, List.map_replicate]
    rfl
  · rintro i h1
    (repeat((conv=>whnf);first|apply ω0|apply ω1|apply ω2|refine τ3 rfl ?_|refine τ4 rfl ?_|refine ⟨rfl,?_⟩|apply τa|refine τb rfl ?_|refine ⟨⟨by kernel_rfl,by kernel_rfl⟩,?_⟩|refine ⟨by decide,?_⟩|apply τt|apply τf))
    intro c g1; cases c
    · have g1 := not_of g1
      obtain rfl : i = (reachedOf l).length := by omega
      (repeat((conv=>whnf);first|apply ω0|apply ω1|apply ω2|refine τ3 rfl ?_|refine τ4 rfl ?_|refine ⟨rfl,?_⟩|apply τa|refine τb rfl ?_|refine ⟨⟨by kernel_rfl,by kernel_rfl⟩,?_⟩|refine ⟨by decide,?_⟩|apply τt|apply τf))
      refine aop_call rfl rfl (ECall.tell (ECall.args (bs := [inss l, .fn (.func 31) [] [.bp (1, nx + 1) 0, .bp (2, nx + 2) 0]]) ⟨AVle.refl _, AVle.refl _, trivial⟩ (hcall nx (nx + 1) (nx + 2) (leave_all l hok _ _ _) (skip_all l) ([], none) (nx + 3) ⟨rfl, fun _ => rfl⟩))
        ⟨rfl, ⟨AVle.os_nil, trivial⟩, rfl, OwnLe.of_eq (by rw [sums_length]), rfl, OwnLe.of_eq (by rw [← fillA_full]), trivial⟩ trivial rfl) fun r h' hq => ?_
      obtain ⟨⟨out, oi⟩, nx5, nn5, rfl, h5, h6⟩ := hq
      refine Named.same ?_
      dsimp only at h5
      (repeat((conv=>whnf);first|apply ω0|apply ω1|apply ω2|refine τ3 rfl ?_|refine τ4 rfl ?_|refine ⟨rfl,?_⟩|apply τa|refine τb rfl ?_|refine ⟨⟨by kernel_rfl,by kernel_rfl⟩,?_⟩|refine ⟨by decide,?_⟩|apply τt|apply τf))
      refine ret_tells rfl ?_
      unfold pruneI
      rw [← h5]
      exact AVle.os_sl
    · have g1 := yes_of g1
      (repeat((conv=>whnf);first|apply ω0|apply ω1|apply ω2|refine τ3 rfl ?_|refine τ4 rfl ?_|refine ⟨rfl,?_⟩|apply τa|refine τb rfl ?_|refine ⟨⟨by kernel_rfl,by kernel_rfl⟩,?_⟩|refine ⟨by decide,?_⟩|apply τt|apply τf))
      refine ⟨⟨by omega, by omega⟩, ?_⟩
      have hi0 : (0 + (Int.toNat (i : Int)) * Tryz.prog.cellsOf 3) = i := by rw [c3]; omega
      have hi1 : (0 + (Int.toNat ((i + 1 : Nat) : Int)) * Tryz.prog.cellsOf 3) = i + 1 := by rw [c3]; omega
      have hwi : IntKind.i64.wrap ((i : Int) + 1) = ((i + 1 : Nat) : Int) := wrap_succ (by omega)
      have hfl := fillA_length (o := reachedOf l) (i := i) (by omega)
      (repeat((conv=>whnf);first|apply ω0|apply ω1|apply ω2|refine τ3 rfl ?_|refine τ4 rfl ?_|refine ⟨rfl,?_⟩|apply τa|refine τb rfl ?_|refine ⟨⟨by kernel_rfl,by kernel_rfl⟩,?_⟩|refine ⟨by decide,?_⟩|apply τt|apply τf))
      intro c g2; cases c
      · (repeat((conv=>whnf);first|apply ω0|apply ω1|apply ω2|refine τ3 rfl ?_|refine τ4 rfl ?_|refine ⟨rfl,?_⟩|apply τa|refine τb rfl ?_|refine ⟨⟨by kernel_rfl,by kernel_rfl⟩,?_⟩|refine ⟨by decide,?_⟩|apply τt|apply τf))
        (refine aw_draw 8 ?_ ?_ ?_ ?_; (· kernel_rfl); (· kernel_rfl); (· kernel_rfl))
        (repeat((conv=>whnf);first|apply ω0|apply ω1|apply ω2|refine τ3 rfl ?_|refine τ4 rfl ?_|refine ⟨rfl,?_⟩|apply τa|refine τb rfl ?_|refine ⟨⟨by kernel_rfl,by kernel_rfl⟩,?_⟩|refine ⟨by decide,?_⟩|apply τt|apply τf))
        (conv => whnf)
        refine ⟨⟨by omega, by omega⟩, splitO_eq (b := .bp (0, nx) i) (congrArg (AV.bp (0, nx)) hi0) ?_⟩
        (conv => whnf)
        refine ⟨⟨rfl, by simp; omega⟩, splitO_eq (b := int ((fillA (reachedOf l) i).getD i 0 : Nat)) (getD_map (by omega)) ?_⟩
        (repeat((conv=>whnf);first|apply ω0|apply ω1|apply ω2|refine τ3 rfl ?_|refine τ4 rfl ?_|refine ⟨rfl,?_⟩|apply τa|refine τb rfl ?_|refine ⟨⟨by kernel_rfl,by kernel_rfl⟩,?_⟩|refine ⟨by decide,?_⟩|apply τt|apply τf))
        (conv => whnf)
        rw [hwi]
        refine ⟨⟨by omega, by omega⟩, splitO_eq (b := .bp (0, nx) (i + 1)) (congrArg (AV.bp (0, nx)) hi1) ?_⟩
        (conv => whnf)
        have hsp : splice ((fillA (reachedOf l) i).map intA) (i + 1) [AV.v (.int .i64 ((fillA (reachedOf l) i).getD i 0 : Nat))] = ((fillA (reachedOf l) i).set (i + 1) ((fillA (reachedOf l) i).getD i 0)).map intA := splice_one (f := intA) (by omega)
        refine ⟨⟨rfl, by simp; omega⟩, ?_⟩
        rw [hsp]
        (repeat((conv=>whnf);first|apply ω0|apply ω1|apply ω2|refine τ3 rfl ?_|refine τ4 rfl ?_|refine ⟨rfl,?_⟩|apply τa|refine τb rfl ?_|refine ⟨⟨by kernel_rfl,by kernel_rfl⟩,?_⟩|refine ⟨by decide,?_⟩|apply τt|apply τf))
        refine back (i + 1) (by omega) (by omega) (ele_tell _ _ rfl rfl (List.Sublist.refl _) .slnil ⟨rfl, OwnLe.refl _, rfl, OwnLe.of_eq ?_, trivial⟩ trivial ⟨AVle.refl _, AVle.refl _, AVle.refl _, AVle.refl _, AVle.refl _, le_int (wrap_succ (by omega)), trivial⟩)
        dsimp only
        have g3 : (reachedOf l).getD i false = false := g2.symm
        rw [fillA_next (by omega), g3]
        rfl
      · (repeat((conv=>whnf);first|apply ω0|apply ω1|apply ω2|refine τ3 rfl ?_|refine τ4 rfl ?_|refine ⟨rfl,?_⟩|apply τa|refine τb rfl ?_|refine ⟨⟨by kernel_rfl,by kernel_rfl⟩,?_⟩|refine ⟨by decide,?_⟩|apply τt|apply τf))
        (refine aw_draw 8 ?_ ?_ ?_ ?_; (· kernel_rfl); (· kernel_rfl); (· kernel_rfl))
        (repeat((conv=>whnf);first|apply ω0|apply ω1|apply ω2|refine τ3 rfl ?_|refine τ4 rfl ?_|refine ⟨rfl,?_⟩|apply τa|refine τb rfl ?_|refine ⟨⟨by kernel_rfl,by kernel_rfl⟩,?_⟩|refine ⟨by decide,?_⟩|apply τt|apply τf))
        (conv => whnf)
        refine ⟨⟨by omega, by omega⟩, splitO_eq (b := .bp (0, nx) i) (congrArg (AV.bp (0, nx)) hi0) ?_⟩
        (conv => whnf)
        refine ⟨⟨rfl, by simp; omega⟩, splitO_eq (b := int ((fillA (reachedOf l) i).getD i 0 : Nat)) (getD_map (by omega)) ?_⟩
        (repeat((conv=>whnf);first|apply ω0|apply ω1|apply ω2|refine τ3 rfl ?_|refine τ4 rfl ?_|refine ⟨rfl,?_⟩|apply τa|refine τb rfl ?_|refine ⟨⟨by kernel_rfl,by kernel_rfl⟩,?_⟩|refine ⟨by decide,?_⟩|apply τt|apply τf))
        (conv => whnf)
        rw [hwi]
        refine ⟨⟨by omega, by omega⟩, splitO_eq (b := .bp (0, nx) (i + 1)) (congrArg (AV.bp (0, nx)) hi1) ?_⟩
        (conv => whnf)
        have hsp : splice ((fillA (reachedOf l) i).map intA) (i + 1) [AV.v (.int .i64 ((fillA (reachedOf l) i).getD i 0 : Nat))] = ((fillA (reachedOf l) i).set (i + 1) ((fillA (reachedOf l) i).getD i 0)).map intA := splice_one (f := intA) (by omega)
        refine ⟨⟨rfl, by simp; omega⟩, ?_⟩
        rw [hsp]
        (repeat((conv=>whnf);first|apply ω0|apply ω1|apply ω2|refine τ3 rfl ?_|refine τ4 rfl ?_|refine ⟨rfl,?_⟩|apply τa|refine τb rfl ?_|refine ⟨⟨by kernel_rfl,by kernel_rfl⟩,?_⟩|refine ⟨by decide,?_⟩|apply τt|apply τf))
        (conv => whnf)
        rw [hwi]
        refine ⟨⟨by omega, by omega⟩, splitO_eq (b := .bp (0, nx) (i + 1)) (congrArg (AV.bp (0, nx)) hi1) ?_⟩
        (conv => whnf)
        refine ⟨⟨rfl, by simp; omega⟩, splitO_eq (b := int (((fillA (reachedOf l) i).set (i + 1) ((fillA (reachedOf l) i).getD i 0)).getD (i + 1) 0 : Nat)) (getD_map (by simp; omega)) ?_⟩
        (repeat((conv=>whnf);first|apply ω0|apply ω1|apply ω2|refine τ3 rfl ?_|refine τ4 rfl ?_|refine ⟨rfl,?_⟩|apply τa|refine τb rfl ?_|refine ⟨⟨by kernel_rfl,by kernel_rfl⟩,?_⟩|refine ⟨by decide,?_⟩|apply τt|apply τf))
        (conv => whnf)
        refine ⟨⟨by omega, by omega⟩, splitO_eq (b := .bp (0, nx) (i + 1)) (congrArg (AV.bp (0, nx)) hi1) ?_⟩
        (conv => whnf)
        have hv : ((fillA (reachedOf l) i).set (i + 1) ((fillA (reachedOf l) i).getD i 0)).getD (i + 1) 0 = (fillA (reachedOf l) i).getD i 0 := by
          rw [getDL_set, if_pos ⟨rfl, by omega⟩]
        have hle2 : (fillA (reachedOf l) i).getD i 0 ≤ (reachedOf l).length := by
          rw [fillA_at (by omega)]
          exact Nat.le_trans List.count_le_length (by simp; omega)
        have hsp2 : splice (((fillA (reachedOf l) i).set (i + 1) ((fillA (reachedOf l) i).getD i 0)).map intA) (i + 1) [AV.v (.int .i64 (IntKind.i64.wrap ((((fillA (reachedOf l) i).set (i + 1) ((fillA (reachedOf l) i).getD i 0)).getD (i + 1) 0 : Nat) + 1)))] = (fillA (reachedOf l) (i + 1)).map intA := by
          have g3 : (reachedOf l).getD i false = true := g2.symm
          rw [hv, show IntKind.i64.wrap (((fillA (reachedOf l) i).getD i 0 : Nat) + 1 : Int) = (((fillA (reachedOf l) i).getD i 0 + 1 : Nat) : Int) from wrap_succ (by omega)]
          refine (splice_one (f := intA) (x := (fillA (reachedOf l) i).getD i 0 + 1) (by simp; omega)).trans ?_
          rw [fillA_next (by omega), g3, List.set_set]
          rfl
        refine ⟨⟨rfl, by simp; omega⟩, ?_⟩
        rw [hsp2]
        (repeat((conv=>whnf);first|apply ω0|apply ω1|apply ω2|refine τ3 rfl ?_|refine τ4 rfl ?_|refine ⟨rfl,?_⟩|apply τa|refine τb rfl ?_|refine ⟨⟨by kernel_rfl,by kernel_rfl⟩,?_⟩|refine ⟨by decide,?_⟩|apply τt|apply τf))
        exact back (i + 1) (by omega) (by omega) (ele_tell _ _ rfl rfl (List.Sublist.refl _) .slnil ⟨rfl, OwnLe.refl _, rfl, OwnLe.refl _, trivial⟩ trivial ⟨AVle.refl _, AVle.refl _, AVle.refl _, AVle.refl _, AVle.refl _, le_int (wrap_succ (by omega)), trivial⟩)
end Go.Proofs.W

namespace Go.Proofs.W

section
variable {l : List Ins}
def cnt (l : List Ins) (n : Nat) : Nat := ((reachI l).take n).count true
theorem reachedOf_ok (h : Right l) : reachedOf l = reachI l := by unfold reachedOf; rw [if_pos (check_iff.2 h)]
theorem cnt_zero : cnt l 0 = 0 := by simp [cnt]
theorem cnt_succ {n : Nat} (hn : n < l.length) : cnt l (n + 1) = cnt l n + (if (reachI l).getD n false then 1 else 0) := count_take (by rw [reachI_length]; exact hn)
theorem cnt_in (hf : Formed l) {n : Nat} (h : Reached l n) : cnt l (n + 1) = cnt l n + 1 := by
  rw [cnt_succ (h.lt hf), (reachI_iff hf n).2 h]; rfl
theorem cnt_mono {a b : Nat} (h : a ≤ b) : cnt l a ≤ cnt l b := by
  obtain ⟨d, rfl⟩ : ∃ d, b = a + d := ⟨b - a, by omega⟩
  exact (count_mono (reachI l) a d).1
theorem cnt_lt (hf : Formed l) {a b : Nat} (ha : Reached l a) (h : a < b) : cnt l a < cnt l b := by
  have h1 := cnt_in hf ha
  have h2 := cnt_mono (l := l) (show a + 1 ≤ b from h)
  omega
theorem cnt_inj (hf : Formed l) {a b : Nat} (ha : Reached l a) (hb : Reached l b) (h : cnt l a = cnt l b) : a = b := by
  rcases Nat.lt_trichotomy a b with h1 | h1 | h1
  · have := cnt_lt hf ha h1; omega
  · exact h1
  · have := cnt_lt hf hb h1; omega
theorem prTo_len (h : Right l) : ∀ n, n ≤ l.length → (prTo l n).length = cnt l n := by
  intro n
  induction n with
  | zero => intro _; rw [cnt_zero]; simp [prTo]
  | succ n ih =>
    intro hn
    rw [prTo_succ, reachedOf_ok h, cnt_succ (by omega), ← ih (by omega)]
    split
    · rename_i h1; simp
    · rename_i h1; simp
theorem prTo_get (h : Right l) {n : Nat} (hr : Reached l n) : ∀ m, n < m → m ≤ l.length → (prTo l m).getD (cnt l n) ins0 = prI l n := by
  intro m
  induction m with
  | zero => intro h; omega
  | succ m ih =>
    intro h1 h2
    have hlen := prTo_len h m (by omega)
    rw [prTo_succ, reachedOf_ok h]
    by_cases h3 : n = m
    · subst h3
      rw [if_pos ((reachI_iff h.1 n).2 hr)]
      simp [List.getD, ← hlen]
    · have h4 := ih (by omega) (by omega)
      have h5 := cnt_lt h.1 hr (show n < m by omega)
      split
      · rw [← h4]
        simp only [List.getD]
        rw [List.getElem?_append_left (by omega)]
      · exact h4
theorem pruneI_ok (h : Right l) : pruneI l = prTo l l.length := by unfold pruneI; rw [reachedOf_ok h, reachI_length]
theorem prune_len (h : Right l) : (pruneI l).length = cnt l l.length := by rw [pruneI_ok h]; exact prTo_len h l.length (Nat.le_refl _)
theorem prune_get (h : Right l) {n : Nat} (hr : Reached l n) : (pruneI l).getD (cnt l n) ins0 = prI l n := by rw [pruneI_ok h]; exact prTo_get h hr l.length (hr.lt h.1) (Nat.le_refl _)
theorem cnt_onto (hf : Formed l) : ∀ m, m ≤ l.length → ∀ j, j < cnt l m → ∃ n, n < m ∧ Reached l n ∧ cnt l n = j := by
  intro m
  induction m with
  | zero => intro _ j hj; rw [cnt_zero] at hj; omega
  | succ m ih =>
    intro hm j hj
    rw [cnt_succ (by omega)] at hj
    by_cases h1 : j < cnt l m
    · obtain ⟨n, h2, h3⟩ := ih (by omega) j h1
      exact ⟨n, by omega, h3⟩
    · split at hj
      · rename_i h2
        exact ⟨m, by omega, (reachI_iff hf m).1 h2, by omega⟩
      · omega
theorem prune_at (h : Right l) {j : Nat} (hj : j < (pruneI l).length) : ∃ n, Reached l n ∧ cnt l n = j := by
  rw [prune_len h] at hj
  obtain ⟨n, _, h1⟩ := cnt_onto h.1 l.length (Nat.le_refl _) j hj
  exact ⟨n, h1⟩
theorem cnt_len (h : Right l) {n : Nat} (hr : Reached l n) : cnt l n < (pruneI l).length := by rw [prune_len h]; exact cnt_lt h.1 hr (hr.lt h.1)
theorem to_cnt (h : Right l) {n k : Nat} (hn : Reached l n) (ht : n + 1 + k < l.length) : (toI (sums (reachedOf l)) n k).toNat + (cnt l n + 1) = cnt l (n + 1 + k) ∧ (toI (sums (reachedOf l)) n k).toNat ≤ k := by
  have hle := h.1.le
  have h1 := to_sums (o := reachedOf l) (n := n) (k := k) (by rw [reachedOf_ok h, reachI_length]; omega) (by rw [reachedOf_ok h, reachI_length]; omega)
  have h2 := cnt_in h.1 hn
  have h3 := cnt_mono (l := l) (show n + 1 ≤ n + 1 + k by omega)
  rw [h1.1]
  rw [reachedOf_ok h] at *
  unfold cnt at *
  refine ⟨by omega, ?_⟩
  have := h1.2.2
  rw [h1.1] at this
  omega
theorem next_in (h : Right l) {n t : Nat} (hr : Reached l n) (ht : t ∈ nextsI l n) : Reached l t := .step n t hr rfl ht
theorem pr_code (n : Nat) : (prI l n).code = (l.getD n ins0).code := by unfold prI prAt; split; · rfl
                                                                        split <;> rfl
theorem pr_kind (h : Right l) {n : Nat} (hr : Reached l n) : kind (pruneI l) (cnt l n) = kind l n := by unfold kind; rw [prune_get h hr, pr_code]
theorem pr_k {n : Nat} (hk : kind l n ≠ 13) : (prI l n).k = (l.getD n ins0).k := by unfold prI prAt; rw [if_neg hk]; split <;> rfl
theorem pr_nexts (h : Right l) {n : Nat} (hr : Reached l n) : nextsI (pruneI l) (cnt l n) = (nextsI l n).map (cnt l) := by
  have hnx := nexts_lt h.1 (hr.lt h.1)
  have h1 := cnt_in h.1 hr
  unfold nextsI at hnx ⊢
  rw [pr_kind h hr, prune_get h hr]
  by_cases k1 : kind l n = 14 ∨ kind l n = 15
  · rw [if_pos k1, if_pos k1]; rfl
  · rw [if_neg k1] at hnx
    rw [if_neg k1, if_neg k1]
    by_cases k2 : kind l n = 13
    · rw [if_pos k2] at hnx
      rw [if_pos k2, if_pos k2]
      have h2 := hnx _ (List.mem_singleton.2 rfl)
      have h3 := to_cnt h hr h2.2
      have h4 : (prI l n).k = (toI (sums (reachedOf l)) n (l.getD n ins0).k).toNat := by unfold prI prAt; rw [if_pos k2]
      rw [h4]
      simp only [List.map_cons, List.map_nil, List.cons.injEq, and_true]
      omega
    · rw [if_neg k2] at hnx
      rw [if_neg k2, if_neg k2]
      by_cases k3 : 25 ≤ kind l n
      · rw [if_pos k3] at hnx
        rw [if_pos k3, if_pos k3]
        have h2 := hnx (n + 1 + (l.getD n ins0).jt) (by simp)
        have h2' := hnx (n + 1 + (l.getD n ins0).jf) (by simp)
        have h3 := to_cnt h hr h2.2
        have h3' := to_cnt h hr h2'.2
        have h4 : (prI l n).jt = (toI (sums (reachedOf l)) n (l.getD n ins0).jt).toNat := by unfold prI prAt; rw [if_neg k2, if_pos k3]
        have h4' : (prI l n).jf = (toI (sums (reachedOf l)) n (l.getD n ins0).jf).toNat := by unfold prI prAt; rw [if_neg k2, if_pos k3]
        rw [h4, h4']
        simp only [List.map_cons, List.map_nil, List.cons.injEq, and_true]
        omega
      · rw [if_neg k3, if_neg k3]
        simp [h1]
theorem pr_reach (h : Right l) {s s' : Nat → Bool} (hs : ∀ m, Reached l m → s' (cnt l m) = s m) {n : Nat} (hr : Rch l s n) : Reached l n ∧ Rch (pruneI l) s' (cnt l n) := by
  induction hr with
  | zero => exact ⟨.zero, by rw [cnt_zero]; exact .zero⟩
  | step n t h1 h2 h3 ih =>
    obtain ⟨ih1, ih2⟩ := ih
    exact ⟨next_in h ih1 h3, .step (cnt l n) (cnt l t) ih2 (by rw [hs n ih1]; exact h2) (by rw [pr_nexts h ih1]; exact List.mem_map.2 ⟨t, h3, rfl⟩)⟩
theorem pr_back (h : Right l) {s s' : Nat → Bool} (hs : ∀ m, Reached l m → s' (cnt l m) = s m) {j : Nat} (hr : Rch (pruneI l) s' j) : ∃ n, Reached l n ∧ cnt l n = j ∧ Rch l s n := by
  induction hr with
  | zero => exact ⟨0, .zero, cnt_zero, .zero⟩
  | step j t h1 h2 h3 ih =>
    obtain ⟨n, i1, rfl, i3⟩ := ih
    rw [pr_nexts h i1] at h3
    obtain ⟨t', h4, rfl⟩ := List.mem_map.1 h3
    exact ⟨t', next_in h i1 h4, rfl, .step n t' i3 (by rw [← hs n i1]; exact h2) h4⟩
theorem pr_wrong (h : Right l) {n : Nat} (hr : Reached l n) : wrongI (prI l n) ((pruneI l).length - 1 - cnt l n) = 0 := by
  have hw := h.1.ok n (hr.lt h.1)
  have hnx := nexts_lt h.1 (hr.lt h.1)
  have hin := fun t (ht : t ∈ nextsI l n) => cnt_len h (next_in h hr ht)
  have hc := pr_code (l := l) n
  have hkd : (kof (l.getD n ins0).code).1 = kind l n := rfl
  have hk := fun hk => pr_k (l := l) (n := n) hk
  have h13 : kind l n = 13 → (prI l n).k < (pruneI l).length - 1 - cnt l n := by
    intro k2
    have hm : n + 1 + (l.getD n ins0).k ∈ nextsI l n := by unfold nextsI; rw [if_neg (by omega), if_pos k2]; simp
    have h2 := hin _ hm
    have h3 := to_cnt h hr (hnx _ hm).2
    have h4 : (prI l n).k = (toI (sums (reachedOf l)) n (l.getD n ins0).k).toNat := by unfold prI prAt; rw [if_pos k2]
    omega
  have h25 : 25 ≤ kind l n → (prI l n).jt < (pruneI l).length - 1 - cnt l n ∧ (prI l n).jf < (pruneI l).length - 1 - cnt l n := by
    intro k3
    have hm : n + 1 + (l.getD n ins0).jt ∈ nextsI l n := by unfold nextsI; rw [if_neg (by omega), if_neg (by omega), if_pos k3]; simp
    have hm' : n + 1 + (l.getD n ins0).jf ∈ nextsI l n := by unfold nextsI; rw [if_neg (by omega), if_neg (by omega), if_pos k3]; simp
    have h2 := hin _ hm
    have h2' := hin _ hm'
    have h3 := to_cnt h hr (hnx _ hm).2
    have h3' := to_cnt h hr (hnx _ hm').2
    have h4 : (prI l n).jt = (toI (sums (reachedOf l)) n (l.getD n ins0).jt).toNat := by unfold prI prAt; rw [if_neg (by omega), if_pos k3]
    have h4' : (prI l n).jf = (toI (sums (reachedOf l)) n (l.getD n ins0).jf).toNat := by unfold prI prAt; rw [if_neg (by omega), if_pos k3]
    omega
  unfold wrongI at hw ⊢
  rw [hc]
  rw [← hkd] at hk h13 h25
  clear hnx hin hkd hc
  generalize kof (l.getD n ins0).code = kk at *
  obtain ⟨k, x⟩ := kk
  dsimp only at hw hk h13 h25 ⊢
  by_cases e : k = 13
  · have h13 := h13 e
    subst e
    simp at hw ⊢
    omega
  · rw [hk e]
    by_cases e2 : 25 ≤ k
    · have h25 := h25 e2
      repeat' split at hw
      all_goals first | (exfalso; omega) | skip
      repeat' split
      all_goals first | rfl | (exfalso; omega)
    · have e3 : ¬ (k = 13 ∧ (l.length - 1 - n) ≤ (l.getD n ins0).k ∨ 25 ≤ k ∧ (l.length - 1 - n ≤ (l.getD n ins0).jt ∨ l.length - 1 - n ≤ (l.getD n ins0).jf)) := fun h => h.elim (fun h => e h.1) (fun h => e2 h.1)
      rw [if_neg e3] at hw
      have e4 : ¬ (k = 13 ∧ (pruneI l).length - 1 - cnt l n ≤ (l.getD n ins0).k ∨ 25 ≤ k ∧ ((pruneI l).length - 1 - cnt l n ≤ (prI l n).jt ∨ (pruneI l).length - 1 - cnt l n ≤ (prI l n).jf)) := fun h => h.elim (fun h => e h.1) (fun h => e2 h.1)
      rw [if_neg e4]
      exact hw
theorem pruned_formed (h : Right l) : Formed (pruneI l) := by
  have hz : Reached l 0 := .zero
  have hlen := prune_len h
  have hcl : cnt l l.length ≤ l.length := by
    unfold cnt
    have := List.count_le_length (a := true) (l := (reachI l).take l.length)
    rw [List.length_take, reachI_length] at this
    omega
  have hpos := cnt_len h hz
  refine ⟨by omega, by have := h.1.le; omega, fun j hj => ?_, ?_⟩
  · obtain ⟨n, hr, rfl⟩ := prune_at h hj
    rw [prune_get h hr]
    exact pr_wrong h hr
  · obtain ⟨n, hr, hn⟩ := prune_at h (j := (pruneI l).length - 1) (by omega)
    rw [← hn, pr_kind h hr]
    refine Classical.byContradiction fun hk => ?_
    obtain ⟨t, ht⟩ : ∃ t, t ∈ nextsI l n := by
      unfold nextsI
      rw [if_neg hk]
      split
      · exact ⟨_, List.mem_singleton.2 rfl⟩
      · split
        · exact ⟨_, List.mem_cons_self ..⟩
        · exact ⟨_, List.mem_singleton.2 rfl⟩
    have h1 := cnt_lt h.1 hr (nexts_lt h.1 (hr.lt h.1) t ht).1
    have h2 := cnt_len h (next_in h hr ht)
    omega
theorem pr_stop (h : Right l) (c : Nat) : ∀ m, Reached l m → stopC (pruneI l) c (cnt l m) = stopC l c m := by
  intro m hm
  unfold stopC
  rw [pr_kind h hm, prune_get h hm]
  by_cases hk : isStore (kind l m)
  · rw [pr_k (by unfold isStore at hk; omega)]
  · simp [hk]
theorem pruned_right (h : Right l) : Right (pruneI l) := by
  refine ⟨pruned_formed h, fun j hj hk hr => ?_⟩
  obtain ⟨n, hn, rfl⟩ := prune_at h hj
  rw [pr_kind h hn] at hk
  rw [prune_get h hn, pr_k (by omega)] at hr
  obtain ⟨n', h1, h2, h3⟩ := pr_back h (pr_stop h _) hr
  have := cnt_inj h.1 h1 hn h2
  subst this
  exact h.2 n' (hn.lt h.1) hk h3
theorem pruned_reached (h : Right l) {j : Nat} (hj : j < (pruneI l).length) : Reached (pruneI l) j := by
  obtain ⟨n, hn, rfl⟩ := prune_at h hj
  exact (pr_reach h (fun _ _ => rfl) hn).2
theorem prune_nil (h : ¬ Right l) : pruneI l = [] := by
  unfold pruneI reachedOf
  rw [if_neg (fun h0 => h (check_iff.1 h0))]
  rfl
theorem pruned_ok (h : Right l) (hok : okL l) : okL (pruneI l) := by
  intro i hi
  obtain ⟨j, hj, rfl⟩ := List.getElem_of_mem hi
  obtain ⟨n, hn, rfl⟩ := prune_at h hj
  have h1 := prune_get h hn
  have h2 : (pruneI l)[cnt l n] = prI l n := by simpa [List.getD, hj] using h1
  rw [h2]
  have hki := hok.get (hn.lt h.1)
  obtain ⟨a1, a2, a3, a4⟩ := hki
  have hnx := nexts_lt h.1 (hn.lt h.1)
  unfold prI prAt
  split
  · rename_i k2
    have hm : n + 1 + (l.getD n ins0).k ∈ nextsI l n := by unfold nextsI; rw [if_neg (by omega), if_pos k2]; simp
    have h3 := to_cnt h hn (hnx _ hm).2
    exact ⟨a1, a2, a3, by dsimp only; omega⟩
  · split
    · rename_i k2 k3
      have hm : n + 1 + (l.getD n ins0).jt ∈ nextsI l n := by unfold nextsI; rw [if_neg (by omega), if_neg (by omega), if_pos k3]; simp
      have hm' : n + 1 + (l.getD n ins0).jf ∈ nextsI l n := by unfold nextsI; rw [if_neg (by omega), if_neg (by omega), if_pos k3]; simp
      have h3 := to_cnt h hn (hnx _ hm).2
      have h3' := to_cnt h hn (hnx _ hm').2
      exact ⟨a1, by dsimp only; omega, by dsimp only; omega, a4⟩
    · exact ⟨a1, a2, a3, a4⟩
end
end Go.Proofs.W

namespace Go.Proofs.W
open Go.Vl

theorem doV_load (b : List Nat) (i : Ins) (s : Rn) : (doV b i s).2.loads = if (kof i.code).1 = 1 then s.loads ++ [i.k] else s.loads := by
  unfold doV
  split
  all_goals first
    | (rename_i h; rw [if_pos h]; done)
    | (rename_i h; rw [if_neg (by omega)]; done)
    | skip
  have h1 : ¬ (kof i.code).1 = 1 := by assumption
  rw [if_neg h1]
  split
  · split <;> rfl
  · rfl
theorem doV_steps (b : List Nat) (i : Ins) (s : Rn) : (doV b i s).2.steps = s.steps := by
  unfold doV
  split
  all_goals first | rfl | skip
  split
  · split <;> rfl
  · rfl
theorem stepV_load (b : List Nat) (l : List Ins) (s : Rn) : (stepV b l s).2.loads = if kind l s.at' = 1 then s.loads ++ [(l.getD s.at' ins0).k] else s.loads := doV_load b _ _
theorem stepV_steps (b : List Nat) (l : List Ins) (s : Rn) : (stepV b l s).2.steps = s.steps + 1 := doV_steps b _ _
/-- A run's loads only grow. -/
theorem runV_loads (b : List Nat) (l : List Ins) : ∀ f s, ∀ k ∈ s.loads, k ∈ (runV b l f s).2.loads
  | 0, s, k, h => h
  | f + 1, s, k, h => by
    have h1 : k ∈ (stepV b l s).2.loads := by
      rw [stepV_load]
      split
      · exact List.mem_append_left _ h
      · exact h
    unfold runV
    cases he : stepV b l s with
    | mk o s' =>
      rw [he] at h1
      cases o with
      | some v => exact h1
      | none => exact runV_loads b l f s' k h1
def fineL (l : List Nat) : Prop := ∀ k ∈ l, k ≤ 60 ∧ k % 4 = 0
theorem runV_ends {b : List Nat} {l : List Ins} (hf : Formed l) : ∀ f (s : Rn), s.at' < l.length → l.length ≤ s.at' + f → s.steps ≤ s.at' → s.loads.length ≤ s.steps → fineL s.loads →
    fineL (runV b l f s).2.loads ∧ (runV b l f s).2.loads.length < (runV b l f s).2.steps ∧ (runV b l f s).2.steps ≤ l.length
  | 0, s, hs, hl, _, _, _ => by omega
  | f + 1, s, hs, hl, h1, h2, h3 => by
    have e1 := stepV_load b l s
    have e2 := stepV_steps b l s
    unfold runV
    cases h : stepV b l s with
    | mk o s' =>
      rw [h] at e1 e2
      cases o with
      | some v =>
        obtain rfl := stepV_over h
        dsimp only at e1 e2 ⊢
        exact ⟨h3, by omega, by omega⟩
      | none =>
        obtain ⟨n1, n2⟩ := stepV_next h
        obtain ⟨n3, n4⟩ := nexts_lt hf hs _ n1
        dsimp only at e1 e2 ⊢
        refine runV_ends hf f s' n4 (by omega) (by omega) ?_ ?_
        · rw [e1]
          split
          · rw [List.length_append, List.length_singleton]; omega
          · omega
        · rw [e1]
          split
          · rename_i hk
            have hw := (wrong_parts (hf.ok s.at' hs)).2.1
            have hk' : (kof (l.getD s.at' ins0).code).1 = 1 := hk
            intro k hk2
            rcases List.mem_append.1 hk2 with h4 | h4
            · exact h3 k h4
            · obtain rfl := List.mem_singleton.1 h4
              omega
          · exact h3
theorem runI_ends {b : List Nat} {l : List Ins} (hf : Formed l) : fineL (runI b l).2.loads ∧ (runI b l).2.loads.length < (runI b l).2.steps ∧ (runI b l).2.steps ≤ l.length :=
  runV_ends hf l.length rn0 hf.pos (Nat.le_add_left _ _) (Nat.le_refl _) (Nat.le_refl _) (fun k h => by cases h)
theorem doV_blind {b c : List Nat} {i : Ins} {s : Rn} (h : (kof i.code).1 = 1 → wordL b i.k = wordL c i.k) : doV b i s = doV c i s := by
  unfold doV
  split
  · rename_i hk
    rw [h hk]
  all_goals rfl
/-- What a run did not load does not count. -/
theorem runV_blind {b c : List Nat} {l : List Ins} : ∀ f s, (∀ k ∈ (runV b l f s).2.loads, wordL b k = wordL c k) → runV c l f s = runV b l f s
  | 0, s, _ => rfl
  | f + 1, s, h => by
    have h1 : stepV b l s = stepV c l s := by
      refine doV_blind fun hk => ?_
      refine h _ ?_
      have hk' : kind l s.at' = 1 := hk
      have h2 : (l.getD s.at' ins0).k ∈ (stepV b l s).2.loads := by rw [stepV_load, if_pos hk']; simp
      unfold runV
      cases he : stepV b l s with
      | mk o s' =>
        rw [he] at h2
        cases o with
        | some v => exact h2
        | none => exact runV_loads b l f s' _ h2
    unfold runV at h ⊢
    rw [← h1]
    cases he : stepV b l s with
    | mk o s' =>
      rw [he] at h
      cases o with
      | some v => rfl
      | none => exact runV_blind f s' h
theorem runI_blind {b c : List Nat} {l : List Ins} (h : ∀ k ∈ (runI b l).2.loads, wordL b k = wordL c k) : runI c l = runI b l := runV_blind l.length rn0 h
theorem runV_ok {b : List Nat} (hb : okB b) {l : List Ins} (hl : okL l) (hf : Formed l) : ∀ f (s : Rn), s.at' < l.length → s.ok → (runV b l f s).2.ok ∧ (runV b l f s).1 < 4294967296
  | 0, s, _, h => ⟨h, by show 0 < _; decide⟩
  | f + 1, s, ha, h => by
    have h1 : (stepV b l s).2.ok := doV_ok hb (hl.get ha) ⟨h.a, h.x, h.n, h.c⟩
    unfold runV
    cases he : stepV b l s with
    | mk o s' =>
      rw [he] at h1
      cases o with
      | some v =>
        refine ⟨h1, ?_⟩
        have hi := hl.get ha
        have h5 : (doV b (l.getD s.at' ins0) { s with at' := s.at' + 1, steps := s.steps + 1 }).1 = some v := congrArg Prod.fst he
        unfold doV at h5
        split at h5
        all_goals first
          | (cases h5; done)
          | (cases h5; exact hi.2.2.2)
          | (cases h5; exact h.a)
          | skip
        split at h5
        · split at h5
          · cases h5
          · cases h5; dsimp only; decide
        · cases h5
      | none =>
        obtain ⟨n1, n2⟩ := stepV_next he
        exact runV_ok hb hl hf f s' (nexts_lt hf ha _ n1).2 h1
theorem runI_lt {b : List Nat} (hb : okB b) {l : List Ins} (hl : okL l) (hf : Formed l) : (runI b l).1 < 4294967296 := (runV_ok hb hl hf l.length rn0 hf.pos rn0_ok).2

/-- The pruned one does the same. -/
structure Sim (l : List Ins) (s t : Rn) : Prop where
  at' : t.at' = cnt l s.at'
  a : t.a = s.a
  x : t.x = s.x
  cells : t.cells = s.cells
  steps : t.steps = s.steps
  loads : t.loads = s.loads
end Go.Proofs.W

namespace Go.Proofs.W
open Go.Vl
set_option maxRecDepth 100000

theorem all_spec (l : List Ins) (hl : l.length ≤ 1000000) : Tells Tryz.prog 4 [inss l] (inss l) := by
  refine tells_of_aw Tryz.func4 rfl rfl fun nx => ?_
  (repeat((conv=>whnf);first|apply ω0|apply ω1|apply ω2|refine τ3 rfl ?_|refine τ4 rfl ?_|refine ⟨rfl,?_⟩|apply τa|refine τb rfl ?_|refine ⟨⟨by kernel_rfl,by kernel_rfl⟩,?_⟩|refine ⟨by decide,?_⟩|apply τt|apply τf))
  refine aw_loop (fun s : Nat × Option Nat × Nat => mk 36 [(0, inss l), (3, .os 4 s.1 (fun k => insA (l.getD k ins0)) (nmd s.2.1)), (4, int s.1)] ⟨[], pmOf (nmd s.2.1) (s.1 * 4), s.2.2, 0⟩) (fun s => s.1 ≤ l.length ∧ (s.2.1 = none → s.1 = 0)) (fun s => l.length - s.1) ?_ ?_
  · exact ⟨(0, none, nx), ⟨by simp, fun _ => rfl⟩, ele_mk rfl rfl ⟨AVle.refl _, AVle.os_nil, AVle.refl _, trivial⟩⟩
  · rintro ⟨i, oi, nx2⟩ ⟨h3, h4⟩
    dsimp only at h3 h4
    (repeat((conv=>whnf);first|apply ω0|apply ω1|apply ω2|refine τ3 rfl ?_|refine τ4 rfl ?_|refine ⟨rfl,?_⟩|apply τa|refine τb rfl ?_|refine ⟨⟨by kernel_rfl,by kernel_rfl⟩,?_⟩|refine ⟨by decide,?_⟩|apply τt|apply τf))
    intro c h5; cases c
    · have h6 := not_of h5
      dsimp only at h6
      obtain rfl : i = l.length := by omega
      (repeat((conv=>whnf);first|apply ω0|apply ω1|apply ω2|refine τ3 rfl ?_|refine τ4 rfl ?_|refine ⟨rfl,?_⟩|apply τa|refine τb rfl ?_|refine ⟨⟨by kernel_rfl,by kernel_rfl⟩,?_⟩|refine ⟨by decide,?_⟩|apply τt|apply τf))
      exact ret_tells rfl AVle.os_sl
    · have h6 := yes_of h5
      dsimp only at h6
      rcases oi with _ | id
      · obtain rfl := h4 rfl
        (repeat((conv=>whnf);first|apply ω0|apply ω1|apply ω2|refine τ3 rfl ?_|refine τ4 rfl ?_|refine ⟨rfl,?_⟩|apply τa|refine τb rfl ?_|refine ⟨⟨by kernel_rfl,by kernel_rfl⟩,?_⟩|refine ⟨by decide,?_⟩|apply τt|apply τf))
        (refine aw_draw 23 ?_ ?_ ?_ ?_; (· kernel_rfl); (· kernel_rfl); (· kernel_rfl))
        (repeat((conv=>whnf);first|apply ω0|apply ω1|apply ω2|refine τ3 rfl ?_|refine τ4 rfl ?_|refine ⟨rfl,?_⟩|apply τa|refine τb rfl ?_|refine ⟨⟨by kernel_rfl,by kernel_rfl⟩,?_⟩|refine ⟨by decide,?_⟩|apply τt|apply τf))
        refine ⟨⟨by dsimp only; omega, by dsimp only; omega⟩, ?_⟩
        (repeat((conv=>whnf);first|apply ω0|apply ω1|apply ω2|refine τ3 rfl ?_|refine τ4 rfl ?_|refine ⟨rfl,?_⟩|apply τa|refine τb rfl ?_|refine ⟨⟨by kernel_rfl,by kernel_rfl⟩,?_⟩|refine ⟨by decide,?_⟩|apply τt|apply τf))
        refine ⟨⟨by dsimp only; omega, by dsimp only; omega⟩, ?_⟩
        (repeat((conv=>whnf);first|apply ω0|apply ω1|apply ω2|refine τ3 rfl ?_|refine τ4 rfl ?_|refine ⟨rfl,?_⟩|apply τa|refine τb rfl ?_|refine ⟨⟨by kernel_rfl,by kernel_rfl⟩,?_⟩|refine ⟨by decide,?_⟩|apply τt|apply τf))
        refine ⟨⟨by dsimp only; omega, by dsimp only; omega⟩, ?_⟩
        (repeat((conv=>whnf);first|apply ω0|apply ω1|apply ω2|refine τ3 rfl ?_|refine τ4 rfl ?_|refine ⟨rfl,?_⟩|apply τa|refine τb rfl ?_|refine ⟨⟨by kernel_rfl,by kernel_rfl⟩,?_⟩|refine ⟨by decide,?_⟩|apply τt|apply τf))
        refine ⟨⟨by dsimp only; omega, by dsimp only; omega⟩, ?_⟩
        (repeat((conv=>whnf);first|apply ω0|apply ω1|apply ω2|refine τ3 rfl ?_|refine τ4 rfl ?_|refine ⟨rfl,?_⟩|apply τa|refine τb rfl ?_|refine ⟨⟨by kernel_rfl,by kernel_rfl⟩,?_⟩|refine ⟨by decide,?_⟩|apply τt|apply τf))
        refine ⟨oneRow_one rfl, by show (0 + 1) * 8 ≤ _; omega, by dsimp only; omega, ?_⟩
        (repeat((conv=>whnf);first|apply ω0|apply ω1|apply ω2|refine τ3 rfl ?_|refine τ4 rfl ?_|refine ⟨rfl,?_⟩|apply τa|refine τb rfl ?_|refine ⟨⟨by kernel_rfl,by kernel_rfl⟩,?_⟩|refine ⟨by decide,?_⟩|apply τt|apply τf))
        exact back (0 + 1, some nx2, nx2 + 1) ⟨by dsimp only; omega, (fun h => by cases h)⟩ (by dsimp only; omega) (ele_keep rfl rfl .slnil (.cons_cons _ .slnil) ⟨AVle.refl _, AVle.os_fun (appF_one (fun k hk => absurd hk (Nat.not_lt_zero _)) rfl), le_int (wrap_succ (by dsimp only; omega)), trivial⟩)
      · (repeat((conv=>whnf);first|apply ω0|apply ω1|apply ω2|refine τ3 rfl ?_|refine τ4 rfl ?_|refine ⟨rfl,?_⟩|apply τa|refine τb rfl ?_|refine ⟨⟨by kernel_rfl,by kernel_rfl⟩,?_⟩|refine ⟨by decide,?_⟩|apply τt|apply τf))
        (refine aw_draw 23 ?_ ?_ ?_ ?_; (· kernel_rfl); (· kernel_rfl); (· kernel_rfl))
        (repeat((conv=>whnf);first|apply ω0|apply ω1|apply ω2|refine τ3 rfl ?_|refine τ4 rfl ?_|refine ⟨rfl,?_⟩|apply τa|refine τb rfl ?_|refine ⟨⟨by kernel_rfl,by kernel_rfl⟩,?_⟩|refine ⟨by decide,?_⟩|apply τt|apply τf))
        refine ⟨⟨by dsimp only; omega, by dsimp only; omega⟩, ?_⟩
        (repeat((conv=>whnf);first|apply ω0|apply ω1|apply ω2|refine τ3 rfl ?_|refine τ4 rfl ?_|refine ⟨rfl,?_⟩|apply τa|refine τb rfl ?_|refine ⟨⟨by kernel_rfl,by kernel_rfl⟩,?_⟩|refine ⟨by decide,?_⟩|apply τt|apply τf))
        refine ⟨⟨by dsimp only; omega, by dsimp only; omega⟩, ?_⟩
        (repeat((conv=>whnf);first|apply ω0|apply ω1|apply ω2|refine τ3 rfl ?_|refine τ4 rfl ?_|refine ⟨rfl,?_⟩|apply τa|refine τb rfl ?_|refine ⟨⟨by kernel_rfl,by kernel_rfl⟩,?_⟩|refine ⟨by decide,?_⟩|apply τt|apply τf))
        refine ⟨⟨by dsimp only; omega, by dsimp only; omega⟩, ?_⟩
        (repeat((conv=>whnf);first|apply ω0|apply ω1|apply ω2|refine τ3 rfl ?_|refine τ4 rfl ?_|refine ⟨rfl,?_⟩|apply τa|refine τb rfl ?_|refine ⟨⟨by kernel_rfl,by kernel_rfl⟩,?_⟩|refine ⟨by decide,?_⟩|apply τt|apply τf))
        refine ⟨⟨by dsimp only; omega, by dsimp only; omega⟩, ?_⟩
        (repeat((conv=>whnf);first|apply ω0|apply ω1|apply ω2|refine τ3 rfl ?_|refine τ4 rfl ?_|refine ⟨rfl,?_⟩|apply τa|refine τb rfl ?_|refine ⟨⟨by kernel_rfl,by kernel_rfl⟩,?_⟩|refine ⟨by decide,?_⟩|apply τt|apply τf))
        refine ⟨oneRow_one rfl, by show (i + 1) * 8 ≤ _; omega, by dsimp only; omega, ?_⟩
        (repeat((conv=>whnf);first|apply ω0|apply ω1|apply ω2|refine τ3 rfl ?_|refine τ4 rfl ?_|refine ⟨rfl,?_⟩|apply τa|refine τb rfl ?_|refine ⟨⟨by kernel_rfl,by kernel_rfl⟩,?_⟩|refine ⟨by decide,?_⟩|apply τt|apply τf))
        exact back (i + 1, some nx2, nx2 + 1) ⟨by dsimp only; omega, (fun h => by cases h)⟩ (by dsimp only; omega) (ele_keep rfl rfl .slnil (.cons_cons _ .slnil) ⟨AVle.refl _, AVle.os_fun (appF_one (fun k hk => rfl) rfl), le_int (wrap_succ (by dsimp only; omega)), trivial⟩)
end Go.Proofs.W

namespace Go.Proofs.W
open Go.Vl
set_option maxRecDepth 100000

theorem prune_awake : pruneI [⟨5, 0, 0, 1⟩, ⟨132, 0, 0, 0⟩, ⟨22, 0, 0, 0⟩] = [⟨5, 0, 0, 0⟩, ⟨22, 0, 0, 0⟩] := by decide +kernel
theorem awake_spec : Tells Tryz.prog 6 [] (boolA true) := by
  refine tells_of_aw Tryz.func6 rfl rfl fun nx => ?_
  (repeat((conv=>whnf);first|apply ω0|apply ω1|apply ω2|refine τ3 rfl ?_|refine τ4 rfl ?_|refine ⟨rfl,?_⟩|apply τa|refine τb rfl ?_|refine ⟨⟨by kernel_rfl,by kernel_rfl⟩,?_⟩|refine ⟨by decide,?_⟩|apply τt|apply τf))
  have hp := prune_spec [⟨5, 0, 0, 1⟩, ⟨132, 0, 0, 0⟩, ⟨22, 0, 0, 0⟩] (by intro i hi; simp at hi; rcases hi with rfl | rfl | rfl <;> simp [Ins.ok]) (by simp)
  rw [prune_awake] at hp
  refine aop_tells rfl rfl hp ⟨AVle.os_sl.trans (AVle.sl_fun (allK_use ⟨⟨⟨trivial, rfl⟩, rfl⟩, rfl⟩)), trivial⟩ fun nx => ?_
  (repeat((conv=>whnf);first|apply ω0|apply ω1|apply ω2|refine τ3 rfl ?_|refine τ4 rfl ?_|refine ⟨rfl,?_⟩|apply τa|refine τb rfl ?_|refine ⟨⟨by kernel_rfl,by kernel_rfl⟩,?_⟩|refine ⟨by decide,?_⟩|apply τt|apply τf))
  refine ret_tells rfl (AVle.refl _)
end Go.Proofs.W

namespace Go.Proofs.W
open Go.Vl
set_option maxRecDepth 100000

def longF (a ts : List Nat) : Nat := ts.foldl (fun x t => max x (a.getD t 0)) 0
def longA (l : List Ins) : Nat → List Nat
  | 0 => List.replicate l.length 0
  | j + 1 => (longA l j).set (l.length - 1 - j) (longF (longA l j) (nextsI l (l.length - 1 - j)) + 1)
def longI (l : List Ins) : Nat := (longA l l.length).getD 0 0
theorem longA_length (l : List Ins) : ∀ j, (longA l j).length = l.length
  | 0 => by simp [longA]
  | j + 1 => by rw [longA, List.length_set, longA_length l j]
theorem longA_zero (l : List Ins) : ∀ j n, n + j < l.length → (longA l j).getD n 0 = 0
  | 0, n, h => by simp [longA, List.getD, List.getElem?_replicate]; split <;> rfl
  | j + 1, n, h => by
    rw [longA, getDL_set, if_neg (by omega)]
    exact longA_zero l j n (by omega)
theorem longF_le {a : List Nat} {b : Nat} (h : ∀ k, a.getD k 0 ≤ b) : ∀ ts, longF a ts ≤ b := by
  intro ts
  unfold longF
  have : ∀ (ts : List Nat) (m : Nat), m ≤ b → ts.foldl (fun x t => max x (a.getD t 0)) m ≤ b := by
    intro ts
    induction ts with
    | nil => intro m hm; exact hm
    | cons t ts ih => intro m hm; rw [List.foldl_cons]; exact ih _ (Nat.max_le.2 ⟨hm, h t⟩)
  exact this ts 0 (by omega)
theorem longA_le (l : List Ins) : ∀ j n, (longA l j).getD n 0 ≤ j
  | 0, n => by simp [longA, List.getD, List.getElem?_replicate]; split <;> simp
  | j + 1, n => by
    rw [longA, getDL_set]
    split
    · have := longF_le (longA_le l j) (nextsI l (l.length - 1 - j)); omega
    · have := longA_le l j n; omega
theorem longF_take {a ts : List Nat} {i : Nat} (hi : i < ts.length) : longF a (ts.take (i + 1)) = max (longF a (ts.take i)) (a.getD (ts.getD i 0) 0) := by
  unfold longF; rw [take_getD 0 hi, List.foldl_append]; rfl
theorem set_same {a : List Nat} {n : Nat} (hn : n < a.length) (h : a.getD n 0 = 0) : a.set n 0 = a := by
  refine List.ext_getElem (by simp) fun k h1 h2 => ?_
  rw [List.getElem_set]
  split
  · rename_i h3; subst h3
    simp only [List.getD, List.getElem?_eq_getElem hn, Option.getD_some] at h
    exact h.symm
  · rfl
theorem longest_spec (l : List Ins) (hok : okL l) (hl : l.length ≤ 1000000000) : Tells Tryz.prog 10 [inss l] (int (if (checkI l).2 = 0 then longI l else 0 : Nat)) := by
  refine tells_of_aw Tryz.func10 rfl rfl fun nx => ?_
  (repeat((conv=>whnf);first|apply ω0|apply ω1|apply ω2|refine τ3 rfl ?_|refine τ4 rfl ?_|refine ⟨rfl,?_⟩|apply τa|refine τb rfl ?_|refine ⟨⟨by kernel_rfl,by kernel_rfl⟩,?_⟩|refine ⟨by decide,?_⟩|apply τt|apply τf))
  refine aop_tells rfl rfl (check_spec l hok hl) ⟨AVle.refl _, trivial⟩ fun nx => ?_
  (repeat((conv=>whnf);first|apply ω0|apply ω1|apply ω2|refine τ3 rfl ?_|refine τ4 rfl ?_|refine ⟨rfl,?_⟩|apply τa|refine τb rfl ?_|refine ⟨⟨by kernel_rfl,by kernel_rfl⟩,?_⟩|refine ⟨by decide,?_⟩|apply τt|apply τf))
  intro c g1; cases c
  rotate_left
  · have g1 := bne_yes g1
    (repeat((conv=>whnf);first|apply ω0|apply ω1|apply ω2|refine τ3 rfl ?_|refine τ4 rfl ?_|refine ⟨rfl,?_⟩|apply τa|refine τb rfl ?_|refine ⟨⟨by kernel_rfl,by kernel_rfl⟩,?_⟩|refine ⟨by decide,?_⟩|apply τt|apply τf))
    refine ret_tells rfl ?_
    rw [if_neg (by omega)]
    exact AVle.refl _
  have g1 := bne_no g1
  have hf : Formed l := check_formed (by omega)
  have hle := hf.le
  have hpos := hf.pos
  rw [if_pos (by omega)]
  (repeat((conv=>whnf);first|apply ω0|apply ω1|apply ω2|refine τ3 rfl ?_|refine τ4 rfl ?_|refine ⟨rfl,?_⟩|apply τa|refine τb rfl ?_|refine ⟨⟨by kernel_rfl,by kernel_rfl⟩,?_⟩|refine ⟨by decide,?_⟩|apply τt|apply τf))
  (conv => whnf)
  refine ⟨by omega, by omega, by show ((8 : Nat) : Int) * _ ≤ _; omega, by omega, ?_⟩
  (repeat((conv=>whnf);first|apply ω0|apply ω1|apply ω2|refine τ3 rfl ?_|refine τ4 rfl ?_|refine ⟨rfl,?_⟩|apply τa|refine τb rfl ?_|refine ⟨⟨by kernel_rfl,by kernel_rfl⟩,?_⟩|refine ⟨by decide,?_⟩|apply τt|apply τf))
  refine aw_loop (fun s : Nat × Nat => mk 56 [(0, inss l), (5, .hs (0, nx) 0 l.length l.length), (6, int ((l.length : Int) - 1 - s.1))] ⟨[((0, nx), .c ((longA l s.1).map intA))], [], s.2, 1⟩) (fun s => s.1 ≤ l.length) (fun s => l.length - s.1) ?_ ?_
  · refine ⟨(0, nx + 1), by dsimp only; omega, ele_tell _ _ rfl rfl (List.Sublist.refl _) .slnil ⟨rfl, OwnLe.of_eq ?_, trivial⟩ trivial ⟨AVle.refl _, AVle.refl _, le_int ((wrap_id (by omega) (by omega)).trans (by dsimp only; omega)), trivial⟩⟩
    dsimp only
    rw [longA, List.map_replicate]
    rfl
  · rintro ⟨j, nx'⟩ h1
    dsimp only at h1
    have hlen := longA_length l j
    (repeat((conv=>whnf);first|apply ω0|apply ω1|apply ω2|refine τ3 rfl ?_|refine τ4 rfl ?_|refine ⟨rfl,?_⟩|apply τa|refine τb rfl ?_|refine ⟨⟨by kernel_rfl,by kernel_rfl⟩,?_⟩|refine ⟨by decide,?_⟩|apply τt|apply τf))
    intro c g2; cases c
    · have g2 := not_of g2
      dsimp only at g2
      obtain rfl : j = l.length := by omega
      have he : (0 + (Int.toNat 0) * Tryz.prog.cellsOf 3) = 0 := by rw [c3]; rfl
      (repeat((conv=>whnf);first|apply ω0|apply ω1|apply ω2|refine τ3 rfl ?_|refine τ4 rfl ?_|refine ⟨rfl,?_⟩|apply τa|refine τb rfl ?_|refine ⟨⟨by kernel_rfl,by kernel_rfl⟩,?_⟩|refine ⟨by decide,?_⟩|apply τt|apply τf))
      refine ⟨⟨by omega, by omega⟩, splitO_eq (b := .bp (0, nx) 0) (congrArg (AV.bp (0, nx)) he) ?_⟩
      (conv => whnf)
      refine ⟨⟨rfl, (by first | omega | (simp only [List.length_map, List.length_set, List.length_cons, List.length_nil, List.length_replicate, List.length_append]; omega))⟩, splitO_eq (b := int ((longA l l.length).getD 0 0 : Nat)) (getD_map (by first | omega | (dsimp only at *; omega) | (simp; done) | (simp; omega))) ?_⟩
      (repeat((conv=>whnf);first|apply ω0|apply ω1|apply ω2|refine τ3 rfl ?_|refine τ4 rfl ?_|refine ⟨rfl,?_⟩|apply τa|refine τb rfl ?_|refine ⟨⟨by kernel_rfl,by kernel_rfl⟩,?_⟩|refine ⟨by decide,?_⟩|apply τt|apply τf))
      exact ret_tells rfl (AVle.refl _)
    · have g2 := yes_of g2
      dsimp only at g2
      obtain ⟨n, hn⟩ : ∃ n, n + 1 + j = l.length := ⟨l.length - 1 - j, by omega⟩
      have hnI : ((l.length : Int) - 1 - j) = (n : Int) := by omega
      have hnN : l.length - 1 - j = n := by omega
      have hnx := nexts_lt hf (n := n) (by omega)
      have hset := set_same (a := longA l j) (n := n) (by omega) (longA_zero l j n (by omega))
      have hm := longA_le l j
      have hstep : longA l (j + 1) = (longA l j).set n (longF (longA l j) (nextsI l n) + 1) := by rw [longA, hnN]
      generalize longA l j = A at *
      have hFle := longF_le hm
      (repeat((conv=>whnf);first|apply ω0|apply ω1|apply ω2|refine τ3 rfl ?_|refine τ4 rfl ?_|refine ⟨rfl,?_⟩|apply τa|refine τb rfl ?_|refine ⟨⟨by kernel_rfl,by kernel_rfl⟩,?_⟩|refine ⟨by decide,?_⟩|apply τt|apply τf))
      refine aop_tells rfl rfl (next_spec l hok hf n (by omega)) ⟨AVle.refl _, le_int (by dsimp only; omega), trivial⟩ fun nx3 => ?_
      have hl2 : ∀ i, i < (nextsI l n).length → (nextsI l n).getD i 0 ∈ nextsI l n := fun i hi => by simp [List.getD, hi]
      have hshort : (nextsI l n).length ≤ 2 := by unfold nextsI; repeat' split
                                                  all_goals simp
      generalize nextsI l n = ts at *
      (repeat((conv=>whnf);first|apply ω0|apply ω1|apply ω2|refine τ3 rfl ?_|refine τ4 rfl ?_|refine ⟨rfl,?_⟩|apply τa|refine τb rfl ?_|refine ⟨⟨by kernel_rfl,by kernel_rfl⟩,?_⟩|refine ⟨by decide,?_⟩|apply τt|apply τf))
      refine aw_loop (fun s : Nat × Nat => mk 56 [(0, inss l), (5, .hs (0, nx) 0 l.length l.length), (6, int n), (28, ints ts), (29, int ts.length), (30, int s.1)] ⟨[((0, nx), .c ((A.set n (longF A (ts.take s.1))).map intA))], [], s.2, 1⟩) (fun s => s.1 ≤ ts.length) (fun s => ts.length - s.1) ?_ ?_
      · refine ⟨(0, nx3), by dsimp only; omega, ele_tell _ _ rfl rfl (List.Sublist.refl _) .slnil ⟨rfl, OwnLe.of_eq ?_, trivial⟩ trivial ⟨AVle.refl _, AVle.refl _, le_int (by dsimp only; omega), AVle.refl _, AVle.refl _, AVle.refl _, trivial⟩⟩
        dsimp only
        rw [show longF A (ts.take 0) = 0 from rfl, hset]
      · rintro ⟨i, nx5⟩ h5
        dsimp only at h5
        have hF := hFle (ts.take i)
        have hit : (0 + (Int.toNat (n : Int)) * Tryz.prog.cellsOf 3) = n := by rw [c3]; omega
        have hgn : (A.set n (longF A (ts.take i))).getD n 0 = longF A (ts.take i) := by rw [getDL_set, if_pos ⟨rfl, by omega⟩]
        (repeat((conv=>whnf);first|apply ω0|apply ω1|apply ω2|refine τ3 rfl ?_|refine τ4 rfl ?_|refine ⟨rfl,?_⟩|apply τa|refine τb rfl ?_|refine ⟨⟨by kernel_rfl,by kernel_rfl⟩,?_⟩|refine ⟨by decide,?_⟩|apply τt|apply τf))
        intro c g5; cases c
        · have g5 := not_of g5
          dsimp only at g5
          obtain rfl : i = ts.length := by omega
          have hall : longF A (ts.take ts.length) = longF A ts := by rw [List.take_length]
          (repeat((conv=>whnf);first|apply ω0|apply ω1|apply ω2|refine τ3 rfl ?_|refine τ4 rfl ?_|refine ⟨rfl,?_⟩|apply τa|refine τb rfl ?_|refine ⟨⟨by kernel_rfl,by kernel_rfl⟩,?_⟩|refine ⟨by decide,?_⟩|apply τt|apply τf))
          refine ⟨⟨by first | omega | (dsimp only; omega), by first | omega | (dsimp only; omega)⟩, splitO_eq (b := .bp (0, nx) n) (congrArg (AV.bp (0, nx)) hit) ?_⟩
          (conv => whnf)
          refine ⟨⟨rfl, (by first | omega | (simp only [List.length_map, List.length_set, List.length_cons, List.length_nil, List.length_replicate, List.length_append]; omega))⟩, splitO_eq (b := int ((A.set n (longF A (ts.take ts.length))).getD n 0 : Nat)) (getD_map (by first | omega | (simp only [List.length_map, List.length_set, List.length_cons, List.length_nil, List.length_replicate, List.length_append]; omega))) ?_⟩
          (repeat((conv=>whnf);first|apply ω0|apply ω1|apply ω2|refine τ3 rfl ?_|refine τ4 rfl ?_|refine ⟨rfl,?_⟩|apply τa|refine τb rfl ?_|refine ⟨⟨by kernel_rfl,by kernel_rfl⟩,?_⟩|refine ⟨by decide,?_⟩|apply τt|apply τf))
          (conv => whnf)
          refine ⟨⟨by first | omega | (dsimp only; omega), by first | omega | (dsimp only; omega)⟩, splitO_eq (b := .bp (0, nx) n) (congrArg (AV.bp (0, nx)) hit) ?_⟩
          (conv => whnf)
          have hsp : splice ((A.set n (longF A (ts.take ts.length))).map intA) n [AV.v (.int .i64 (IntKind.i64.wrap (((A.set n (longF A (ts.take ts.length))).getD n 0 : Nat) + 1)))] = (A.set n (longF A ts + 1)).map intA := by
            have hw : IntKind.i64.wrap ((longF A ts : Nat) + 1 : Int) = ((longF A ts + 1 : Nat) : Int) := wrap_succ (by have := hFle ts; omega)
            rw [hgn, hall, hw]
            refine (splice_one (f := intA) (x := longF A ts + 1) (by simp; omega)).trans ?_
            rw [List.set_set]
          refine ⟨⟨rfl, (by first | omega | (simp only [List.length_map, List.length_set, List.length_cons, List.length_nil, List.length_replicate, List.length_append]; omega))⟩, ?_⟩
          rw [hsp]
          (repeat((conv=>whnf);first|apply ω0|apply ω1|apply ω2|refine τ3 rfl ?_|refine τ4 rfl ?_|refine ⟨rfl,?_⟩|apply τa|refine τb rfl ?_|refine ⟨⟨by kernel_rfl,by kernel_rfl⟩,?_⟩|refine ⟨by decide,?_⟩|apply τt|apply τf))
          exact back (j + 1, nx5) (by dsimp only; omega) (by dsimp only; omega) (ele_tell _ _ rfl rfl (List.Sublist.refl _) .slnil ⟨rfl, OwnLe.of_eq (by dsimp only; rw [hstep]), trivial⟩ trivial ⟨AVle.refl _, AVle.refl _, le_int ((wrap_id (by omega) (by omega)).trans (by dsimp only; omega)), trivial⟩)
        · have g5 := yes_of g5
          dsimp only at g5
          have hi : i < ts.length := by omega
          have htn := hnx _ (hl2 i hi)
          have hgt : (A.set n (longF A (ts.take i))).getD (ts.getD i 0) 0 = A.getD (ts.getD i 0) 0 := by rw [getDL_set, if_neg (by omega)]
          have htt : (0 + (Int.toNat ((ts.getD i 0 : Nat) : Int)) * Tryz.prog.cellsOf 3) = ts.getD i 0 := by rw [c3]; omega
          (repeat((conv=>whnf);first|apply ω0|apply ω1|apply ω2|refine τ3 rfl ?_|refine τ4 rfl ?_|refine ⟨rfl,?_⟩|apply τa|refine τb rfl ?_|refine ⟨⟨by kernel_rfl,by kernel_rfl⟩,?_⟩|refine ⟨by decide,?_⟩|apply τt|apply τf))
          refine ⟨⟨by first | omega | (dsimp only; omega), by first | omega | (dsimp only; omega)⟩, ?_⟩
          (repeat((conv=>whnf);first|apply ω0|apply ω1|apply ω2|refine τ3 rfl ?_|refine τ4 rfl ?_|refine ⟨rfl,?_⟩|apply τa|refine τb rfl ?_|refine ⟨⟨by kernel_rfl,by kernel_rfl⟩,?_⟩|refine ⟨by decide,?_⟩|apply τt|apply τf))
          (refine aw_draw 12 ?_ ?_ ?_ ?_; (· kernel_rfl); (· kernel_rfl); (· kernel_rfl))
          (repeat((conv=>whnf);first|apply ω0|apply ω1|apply ω2|refine τ3 rfl ?_|refine τ4 rfl ?_|refine ⟨rfl,?_⟩|apply τa|refine τb rfl ?_|refine ⟨⟨by kernel_rfl,by kernel_rfl⟩,?_⟩|refine ⟨by decide,?_⟩|apply τt|apply τf))
          refine ⟨⟨by first | omega | (dsimp only; omega), by first | omega | (dsimp only; omega)⟩, splitO_eq (b := .bp (0, nx) n) (congrArg (AV.bp (0, nx)) hit) ?_⟩
          (conv => whnf)
          refine ⟨⟨rfl, (by first | omega | (simp only [List.length_map, List.length_set, List.length_cons, List.length_nil, List.length_replicate, List.length_append]; omega))⟩, splitO_eq (b := int (longF A (ts.take i) : Nat)) ((getD_map (d := 0) (by first | omega | (simp only [List.length_map, List.length_set, List.length_cons, List.length_nil, List.length_replicate, List.length_append]; omega))).trans (congrArg intA hgn)) ?_⟩
          (repeat((conv=>whnf);first|apply ω0|apply ω1|apply ω2|refine τ3 rfl ?_|refine τ4 rfl ?_|refine ⟨rfl,?_⟩|apply τa|refine τb rfl ?_|refine ⟨⟨by kernel_rfl,by kernel_rfl⟩,?_⟩|refine ⟨by decide,?_⟩|apply τt|apply τf))
          (conv => whnf)
          refine ⟨⟨(by omega : (0 : Int) ≤ ((ts.getD i 0 : Nat) : Int)), (by omega : ((ts.getD i 0 : Nat) : Int) < (l.length : Int))⟩, splitO_eq (b := .bp (0, nx) (ts.getD i 0)) (congrArg (AV.bp (0, nx)) htt) ?_⟩
          (conv => whnf)
          refine ⟨⟨rfl, (by first | omega | (simp only [List.length_map, List.length_set, List.length_cons, List.length_nil, List.length_replicate, List.length_append]; omega))⟩, splitO_eq (b := int (A.getD (ts.getD i 0) 0 : Nat)) ((getD_map (d := 0) (by first | omega | (simp only [List.length_map, List.length_set, List.length_cons, List.length_nil, List.length_replicate, List.length_append]; omega))).trans (congrArg intA hgt)) ?_⟩
          (repeat((conv=>whnf);first|apply ω0|apply ω1|apply ω2|refine τ3 rfl ?_|refine τ4 rfl ?_|refine ⟨rfl,?_⟩|apply τa|refine τb rfl ?_|refine ⟨⟨by kernel_rfl,by kernel_rfl⟩,?_⟩|refine ⟨by decide,?_⟩|apply τt|apply τf))
          (conv => whnf)
          refine ⟨⟨by first | omega | (dsimp only; omega), by first | omega | (dsimp only; omega)⟩, splitO_eq (b := .bp (0, nx) n) (congrArg (AV.bp (0, nx)) hit) ?_⟩
          (conv => whnf)
          have hmx : (if ((A.getD (ts.getD i 0) 0 : Nat) : Int) > (longF A (ts.take i) : Nat) then ((A.getD (ts.getD i 0) 0 : Nat) : Int) else (longF A (ts.take i) : Nat)) = ((longF A (ts.take (i + 1)) : Nat) : Int) := by
            rw [longF_take hi]; split <;> omega
          have hsp : splice ((A.set n (longF A (ts.take i))).map intA) n [AV.v (.int .i64 (if ((A.getD (ts.getD i 0) 0 : Nat) : Int) > (longF A (ts.take i) : Nat) then ((A.getD (ts.getD i 0) 0 : Nat) : Int) else (longF A (ts.take i) : Nat)))] = (A.set n (longF A (ts.take (i + 1)))).map intA := by
            rw [hmx]
            refine (splice_one (f := intA) (x := longF A (ts.take (i + 1))) (by simp; omega)).trans ?_
            rw [List.set_set]
          refine ⟨⟨rfl, (by first | omega | (simp only [List.length_map, List.length_set, List.length_cons, List.length_nil, List.length_replicate, List.length_append]; omega))⟩, ?_⟩
          rw [hsp]
          (repeat((conv=>whnf);first|apply ω0|apply ω1|apply ω2|refine τ3 rfl ?_|refine τ4 rfl ?_|refine ⟨rfl,?_⟩|apply τa|refine τb rfl ?_|refine ⟨⟨by kernel_rfl,by kernel_rfl⟩,?_⟩|refine ⟨by decide,?_⟩|apply τt|apply τf))
          exact back (i + 1, nx5) (by dsimp only; omega) (by dsimp only; omega) (ele_tell _ _ rfl rfl (List.Sublist.refl _) .slnil ⟨rfl, OwnLe.refl _, trivial⟩ trivial ⟨AVle.refl _, AVle.refl _, AVle.refl _, AVle.refl _, AVle.refl _, le_int (wrap_succ (by dsimp only; omega)), trivial⟩)
end Go.Proofs.W

namespace Go.Proofs.W
open Go.Vl

/-- The longest way from each instruction on. -/
def LV (l : List Ins) (n : Nat) : Nat := (longA l l.length).getD n 0
theorem longA_step (l : List Ins) (j : Nat) : longA l (j + 1) = (longA l j).set (l.length - 1 - j) (longF (longA l j) (nextsI l (l.length - 1 - j)) + 1) := rfl
theorem longA_keep (l : List Ins) (n : Nat) : ∀ d j, l.length ≤ n + j → j + d ≤ l.length → (longA l (j + d)).getD n 0 = (longA l j).getD n 0
  | 0, _, _, _ => rfl
  | d + 1, j, h, h2 => by
    rw [← Nat.add_assoc, longA_step, getDL_set, if_neg (by omega)]
    exact longA_keep l n d j h (by omega)
theorem longF_congr {a b : List Nat} : ∀ (ts : List Nat), (∀ t ∈ ts, a.getD t 0 = b.getD t 0) → longF a ts = longF b ts := by
  intro ts h
  unfold longF
  have : ∀ (ts : List Nat) (m : Nat), (∀ t ∈ ts, a.getD t 0 = b.getD t 0) → ts.foldl (fun x t => max x (a.getD t 0)) m = ts.foldl (fun x t => max x (b.getD t 0)) m := by
    intro ts
    induction ts with
    | nil => intro m _; rfl
    | cons t ts ih => intro m h; rw [List.foldl_cons, List.foldl_cons, h t (by simp)]; exact ih _ fun x hx => h x (by simp [hx])
  exact this ts 0 h
theorem LV_eq {l : List Ins} (hf : Formed l) {n : Nat} (hn : n < l.length) : LV l n = longF (longA l l.length) (nextsI l n) + 1 := by
  obtain ⟨j, hj⟩ : ∃ j, n + 1 + j = l.length := ⟨l.length - 1 - n, by omega⟩
  have h1 := longA_keep l n (l.length - (j + 1)) (j + 1) (by omega) (by omega)
  rw [show j + 1 + (l.length - (j + 1)) = l.length by omega] at h1
  unfold LV
  rw [h1, longA_step, show l.length - 1 - j = n by omega, getDL_set, if_pos ⟨rfl, by rw [longA_length]; exact hn⟩]
  congr 1
  refine longF_congr _ fun t ht => ?_
  have h2 := nexts_lt hf hn t ht
  have h3 := longA_keep l t (l.length - j) j (by omega) (by omega)
  rw [show j + (l.length - j) = l.length by omega] at h3
  exact h3.symm
def insB (b : Bool) : Ins := if b then ⟨22, 0, 0, 0⟩ else ⟨132, 0, 0, 0⟩
def straight (l : List Bool) : List Ins := l.map insB ++ [⟨22, 0, 0, 0⟩]
def firstB (l : List Bool) : Nat := (l.findIdx? (fun b => b)).getD l.length
theorem straight_len (l : List Bool) : (straight l).length = l.length + 1 := by simp [straight]
theorem straight_get {l : List Bool} {n : Nat} (h : n ≤ l.length) : (straight l).getD n ins0 = insB (if n < l.length then l.getD n false else true) := by
  unfold straight
  simp only [List.getD]
  by_cases h1 : n < l.length
  · rw [List.getElem?_append_left (by simpa using h1), if_pos h1]
    simp [h1]
  · obtain rfl : n = l.length := by omega
    rw [List.getElem?_append_right (by simp), if_neg h1]
    simp [insB]
theorem kof_insB (b : Bool) : kof (insB b).code = (if b then 15 else 12, false) := by cases b <;> decide
theorem kind_straight {l : List Bool} {n : Nat} (h : n ≤ l.length) : kind (straight l) n = if (if n < l.length then l.getD n false else true) = true then 15 else 12 := by
  unfold kind; rw [straight_get h, kof_insB]
theorem firstB_le (l : List Bool) : firstB l ≤ l.length := by
  unfold firstB
  cases h : l.findIdx? (fun b => b) with
  | none => simp
  | some i => have := (List.findIdx?_eq_some_iff_getElem.1 h).1; simp; omega
theorem firstB_low {l : List Bool} {n : Nat} (h : n < firstB l) : l.getD n false = false := by
  unfold firstB at h
  cases hf : l.findIdx? (fun b => b) with
  | none =>
    rw [hf] at h
    rw [List.findIdx?_eq_none_iff] at hf
    have hn : n < l.length := by simpa using h
    have := hf l[n] (List.getElem_mem hn)
    simpa [List.getD, hn] using this
  | some i =>
    rw [hf] at h
    obtain ⟨h1, h2, h3⟩ := List.findIdx?_eq_some_iff_getElem.1 hf
    have h4 : n < i := by simpa using h
    have := h3 n h4
    simpa [List.getD, show n < l.length by omega] using this
theorem firstB_at (l : List Bool) (h : firstB l < l.length) : l.getD (firstB l) false = true := by
  unfold firstB at h ⊢
  cases hf : l.findIdx? (fun b => b) with
  | none => rw [hf] at h; simp at h
  | some i =>
    obtain ⟨h1, h2, h3⟩ := List.findIdx?_eq_some_iff_getElem.1 hf
    simpa [List.getD, h1] using h2
theorem kind_first (l : List Bool) : kind (straight l) (firstB l) = 15 := by
  rw [kind_straight (firstB_le l)]
  split
  · rename_i h
    rw [firstB_at l h]; rfl
  · rfl
theorem kind_low {l : List Bool} {n : Nat} (h : n < firstB l) : kind (straight l) n = 12 := by
  have := firstB_le l
  rw [kind_straight (by omega), if_pos (show n < l.length by omega), firstB_low h]
  rfl
theorem straight_right {l : List Bool} (hl : l.length ≤ 200) : Right (straight l) := by
  have hk : ∀ n, n < (straight l).length → kind (straight l) n = 15 ∨ kind (straight l) n = 12 := fun n hn => by
    rw [straight_len] at hn
    rw [kind_straight (by omega)]; split <;> simp
  refine ⟨⟨by rw [straight_len]; omega, by rw [straight_len]; omega, fun n hn => ?_, ?_⟩, fun n hn h => ?_⟩
  · rw [straight_len] at hn
    rw [straight_get (by omega)]
    unfold wrongI
    rw [kof_insB]
    generalize (if n < l.length then l.getD n false else true) = b
    cases b <;> simp
  · rw [straight_len, kind_straight (by omega)]
    simp
  · have := hk n hn; omega
theorem straight_nexts {l : List Bool} {n : Nat} (h : n < firstB l) : nextsI (straight l) n = [n + 1] := by
  unfold nextsI; rw [kind_low h]; rfl
theorem straight_end (l : List Bool) : nextsI (straight l) (firstB l) = [] := by
  unfold nextsI; rw [kind_first l]; rfl
theorem straight_reached {l : List Bool} (n : Nat) : Reached (straight l) n ↔ n ≤ firstB l := by
  constructor
  · intro h
    induction h with
    | zero => omega
    | step m t _ _ ht ih =>
      rcases Nat.lt_or_ge m (firstB l) with h1 | h1
      · rw [straight_nexts h1] at ht; simp at ht; omega
      · obtain rfl : m = firstB l := by omega
        rw [straight_end] at ht; simp at ht
  · induction n with
    | zero => intro _; exact .zero
    | succ n ih => intro h; exact .step n (n + 1) (ih (by omega)) rfl (by rw [straight_nexts (by omega)]; simp)
theorem straight_LV {l : List Bool} (hl : l.length ≤ 200) : ∀ d n, n + d = firstB l → LV (straight l) n = d + 1
  | 0, n, h => by
    obtain rfl : n = firstB l := by omega
    have := firstB_le l
    rw [LV_eq (straight_right hl).1 (by rw [straight_len]; omega), straight_end]
    rfl
  | d + 1, n, h => by
    have := firstB_le l
    have ih := straight_LV hl d (n + 1) (by omega)
    rw [LV_eq (straight_right hl).1 (by rw [straight_len]; omega), straight_nexts (by omega)]
    show max 0 (LV (straight l) (n + 1)) + 1 = _
    rw [ih]; omega
theorem straight_long {l : List Bool} (hl : l.length ≤ 200) : longI (straight l) = firstB l + 1 := straight_LV hl (firstB l) 0 (by omega)
theorem straight_cnt {l : List Bool} (hl : l.length ≤ 200) : ∀ n, n ≤ l.length + 1 → cnt (straight l) n = min n (firstB l + 1)
  | 0, _ => by rw [cnt_zero]; omega
  | n + 1, h => by
    rw [cnt_succ (by rw [straight_len]; omega), straight_cnt hl n (by omega)]
    have h1 := reachI_iff (straight_right hl).1 n
    rw [straight_reached] at h1
    split
    · rename_i h2; have := h1.1 h2; omega
    · rename_i h2; have : ¬ n ≤ firstB l := fun h3 => h2 (h1.2 h3); omega
theorem straight_prune {l : List Bool} (hl : l.length ≤ 200) : (pruneI (straight l)).length = firstB l + 1 := by
  have := firstB_le l
  rw [prune_len (straight_right hl), straight_len, straight_cnt hl _ (Nat.le_refl _)]
  omega
end Go.Proofs.W

namespace Go.Proofs.W
open Go.Vl
set_option maxRecDepth 100000

end Go.Proofs.W

namespace Go.Proofs.W
open Go.Vl
set_option maxRecDepth 100000

theorem vm_awake : vmI [⟨32, 0, 0, 0⟩, ⟨22, 0, 0, 0⟩] (7 :: List.replicate 63 0) = (0, (7, ⟨2, 7, 0, List.replicate 16 0, 2, [0]⟩)) := by kernel_rfl
theorem appF_hi {n k : Nat} {f g : Nat → AV} (h : ¬ k < n) : appF n f g k = g (k - n) := by
  unfold appF
  have e : Nat.blt k n = false := by
    cases h2 : Nat.blt k n with
    | false => rfl
    | true => exact absurd (Nat.le_of_ble_eq_true h2) h
  rw [e]; rfl
theorem getD_rep0 (n k : Nat) : (List.replicate n 0).getD k 0 = 0 := by
  rcases Nat.lt_or_ge k n with h | h <;> simp [List.getD, h]
theorem noid_all2 {a b : AV} (h : NoId a) (h' : NoId b) : ∀ c ∈ [a, b], NoId c := fun c hc => by
  simp at hc; rcases hc with rfl | rfl
  · exact h
  · exact h'
theorem noid_slOf {α : Type} {sz : Nat} {e : α → AV} {d : α} {l : List α} (h : ∀ x, ∀ c ∈ (e x).cells, NoId c) : NoId (slOf sz e d l) := NoId.sl fun i _ c hc => h _ c hc
theorem noid_inss (l : List Ins) : NoId (inss l) := noid_slOf fun x c hc => by
  simp [insA, AV.cells] at hc
  rcases hc with rfl | rfl | rfl | rfl <;> exact NoId.v _
theorem noid_ints (l : List Nat) : NoId (ints l) := noid_slOf fun x c hc => by
  have hc : c ∈ [int x] := hc
  simp at hc
  subst hc
  exact NoId.v _
theorem noid_out (v : Nat) (s : Rn) : NoId (outA v s) := NoId.ag fun c hc => by
  simp at hc
  rcases hc with rfl | rfl | rfl
  · exact NoId.v _
  · exact NoId.v _
  · exact noid_ints _
theorem noid_run (v : Nat) (s : Rn) (e : Nat) : NoId (.tup [outA v s, int e]) := NoId.tup (noid_all2 (noid_out v s) (NoId.v _))
theorem vmI_ok {l : List Ins} {b : List Nat} {e v : Nat} {s : Rn} (h : vmI l b = (e, v, s)) (he : e = 0) : Right l ∧ b.length = 64 ∧ runI b l = (v, s) := by
  subst he
  unfold vmI at h
  split at h
  · rename_i hc; exact absurd (congrArg Prod.fst h) hc
  · rename_i hc
    split at h
    · cases h
    · split at h
      · cases h
      · refine ⟨check_iff.1 (by omega), by omega, ?_⟩
        exact congrArg Prod.snd h
theorem HB0 {bx : List (Vl.Id × Own)} : HB [] bx := fun _ _ _ h => by cases h
theorem z_out : zcells Tryz.prog 29 = some [u32 0, int 0, .os 0 0 (fun _ => .any) none] := by kernel_rfl
/-- 64 bytes, as an array. -/
def b64A (b : List Nat) : AV := .ag (b.map fun k : Nat => u8 k)
end Go.Proofs.W

namespace Go.Proofs.W
open Go.Vl
set_option maxRecDepth 100000

def rp64 (b : List Nat) : AV := .rp (b.map fun k : Nat => u8 k)
end Go.Proofs.W

namespace Go.Proofs.W
open Go.Vl

theorem longF_get {a ts : List Nat} {t : Nat} (h : t ∈ ts) : a.getD t 0 ≤ longF a ts := by
  have key : ∀ (ts : List Nat) (m : Nat), m ≤ ts.foldl (fun x t => max x (a.getD t 0)) m ∧ ∀ t ∈ ts, a.getD t 0 ≤ ts.foldl (fun x t => max x (a.getD t 0)) m := by
    intro ts
    induction ts with
    | nil => intro m; exact ⟨Nat.le_refl _, by simp⟩
    | cons x ts ih =>
      intro m
      rw [List.foldl_cons]
      obtain ⟨h1, h2⟩ := ih (max m (a.getD x 0))
      refine ⟨by omega, fun t ht => ?_⟩
      rcases List.mem_cons.1 ht with rfl | ht
      · omega
      · exact h2 t ht
  exact (key ts 0).2 t h
/-- What a run ends with, of a program: an end's value, or A's, or what a division by X gives. -/
def EndAt (l : List Ins) (v n : Nat) : Prop := n < l.length ∧ Reached l n ∧ ((kind l n = 14 ∧ v = (l.getD n ins0).k) ∨ kind l n = 15 ∨ (kind l n = 19 ∧ (kof (l.getD n ins0).code).2 = true))
theorem stepV_end {b : List Nat} {l : List Ins} (hf : Formed l) {s s' : Rn} {v : Nat} (hs : s.at' < l.length) (hr : Reached l s.at') (h : stepV b l s = (some v, s')) : EndAt l v s.at' := by
  have hk0 : kind l s.at' = (kof (l.getD s.at' ins0).code).1 := rfl
  refine ⟨hs, hr, ?_⟩
  rw [hk0]
  have hw := hf.ok s.at' hs
  unfold stepV doV at h
  split at h
  all_goals first
    | (cases h; done)
    | skip
  · rename_i hk
    cases h
    exact .inl ⟨hk, rfl⟩
  · rename_i hk
    exact .inr (.inl hk)
  · split at h
    · split at h
      · cases h
      · rename_i hn
        refine .inr (.inr ?_)
        unfold reckV at hn
        split at hn <;> first | (cases hn; done) | skip
        rename_i hk
        refine ⟨hk, ?_⟩
        split at hn
        · rename_i h0
          unfold altV at h0
          cases hx : (kof (l.getD s.at' ins0).code).2 with
          | true => rfl
          | false =>
            rw [hx] at h0
            simp only [Bool.false_eq_true, if_false] at h0
            exfalso
            unfold wrongI at hw
            generalize hkk : kof (l.getD s.at' ins0).code = kk at hw hx hk
            obtain ⟨k, x⟩ := kk
            dsimp only at hw hx hk
            subst hx; subst hk
            rw [if_neg (by decide), if_neg (by omega), if_neg (by omega), if_pos ⟨rfl, rfl, h0⟩] at hw
            cases hw
        · cases hn
    · cases h
theorem runV_bounds {b : List Nat} {l : List Ins} (hf : Formed l) : ∀ f (s : Rn), s.at' < l.length → l.length ≤ s.at' + f → Reached l s.at' →
    (runV b l f s).2.steps ≤ s.steps + LV l s.at' ∧ (∀ k ∈ (runV b l f s).2.loads, k ∈ s.loads ∨ ∃ n, n < l.length ∧ Reached l n ∧ kind l n = 1 ∧ k = (l.getD n ins0).k) ∧ ∃ n, EndAt l (runV b l f s).1 n
  | 0, s, hs, hl, _ => by omega
  | f + 1, s, hs, hl, hr => by
    have e1 := stepV_load b l s
    have e2 := stepV_steps b l s
    have hLV := LV_eq hf hs
    unfold runV
    cases h : stepV b l s with
    | mk o s' =>
      rw [h] at e1 e2
      cases o with
      | some v =>
        have hend := stepV_end hf hs hr h
        obtain rfl := stepV_over h
        dsimp only at e1 e2 ⊢
        exact ⟨by omega, fun k hk => .inl hk, _, hend⟩
      | none =>
        obtain ⟨n1, n2⟩ := stepV_next h
        obtain ⟨n3, n4⟩ := nexts_lt hf hs _ n1
        dsimp only at e1 e2 ⊢
        obtain ⟨i1, i2, i3⟩ := runV_bounds hf f s' n4 (by omega) (.step _ _ hr rfl n1)
        have hg := longF_get (a := longA l l.length) n1
        refine ⟨?_, fun k hk => ?_, i3⟩
        · have : LV l s'.at' ≤ longF (longA l l.length) (nextsI l s.at') := hg
          omega
        · rcases i2 k hk with h1 | h1
          · rw [e1] at h1
            split at h1
            · rename_i hk1
              rcases List.mem_append.1 h1 with h2 | h2
              · exact .inl h2
              · exact .inr ⟨s.at', hs, hr, hk1, by simpa using h2⟩
            · exact .inl h1
          · exact .inr h1
theorem met_mem (l : List Ins) (K x : Nat) : ∀ i, x ∈ metTo l K i ↔ ∃ n, n < i ∧ (reachedOf l).getD n false = true ∧ kind l n = K ∧ x = (l.getD n ins0).k
  | 0 => by simp [metTo]
  | i + 1 => by
    have ih := met_mem l K x i
    unfold metTo
    split
    · rename_i h
      rw [addK_mem, ih]
      constructor
      · rintro (⟨n, h1, h2⟩ | rfl)
        · exact ⟨n, by omega, h2⟩
        · exact ⟨i, by omega, h.1, h.2, rfl⟩
      · rintro ⟨n, h1, h2, h3, h4⟩
        rcases Nat.lt_or_ge n i with h5 | h5
        · exact .inl ⟨n, h5, h2, h3, h4⟩
        · obtain rfl : n = i := by omega
          exact .inr h4
    · rename_i h
      rw [ih]
      constructor
      · rintro ⟨n, h1, h2⟩; exact ⟨n, by omega, h2⟩
      · rintro ⟨n, h1, h2, h3, h4⟩
        rcases Nat.lt_or_ge n i with h5 | h5
        · exact ⟨n, h5, h2, h3, h4⟩
        · obtain rfl : n = i := by omega
          exact absurd ⟨h2, h3⟩ h
theorem metA_iff (l : List Ins) : ∀ i, metA l i = true ↔ ∃ n, n < i ∧ (reachedOf l).getD n false = true ∧ kind l n = 15
  | 0 => by simp [metA]
  | i + 1 => by
    have ih := metA_iff l i
    unfold metA
    rw [Bool.or_eq_true, ih, Bool.and_eq_true, decide_eq_true_eq]
    constructor
    · rintro (⟨n, h1, h2⟩ | ⟨h1, h2⟩)
      · exact ⟨n, by omega, h2⟩
      · exact ⟨i, by omega, h1, h2⟩
    · rintro ⟨n, h1, h2, h3⟩
      rcases Nat.lt_or_ge n i with h5 | h5
      · exact .inl ⟨n, h5, h2, h3⟩
      · obtain rfl : n = i := by omega
        exact .inr ⟨h2, h3⟩
/-- Is there a division by X among the first ones? -/
def divX (l : List Ins) : Nat → Bool
  | 0 => false
  | n + 1 => divX l n || (decide (kind l n = 19) && (kof (l.getD n ins0).code).2)
theorem divX_of (l : List Ins) {n : Nat} (hk : kind l n = 19) (hx : (kof (l.getD n ins0).code).2 = true) : ∀ i, n < i → divX l i = true
  | 0, h => by omega
  | i + 1, h => by
    unfold divX
    rcases Nat.lt_or_ge n i with h5 | h5
    · rw [divX_of l hk hx i h5]; rfl
    · obtain rfl : n = i := by omega
      rw [hk, hx]; simp
theorem sort_mem {l : List Nat} {k : Nat} : (k : Int) ∈ sortBy Go.Sort.ltInt (l.map Int.ofNat) ↔ k ∈ l := by
  rw [sortBy_mem, List.mem_map]
  exact ⟨fun ⟨n, h1, h2⟩ => by obtain rfl := Int.ofNat_inj.1 h2; exact h1, fun h => ⟨k, h, rfl⟩⟩
/-- WHAT THE LAW SAYS. -/
theorem bounds_run {b : List Nat} {l : List Ins} (hR : Right l) : (runI b l).2.steps ≤ longI l ∧ longI l ≤ l.length ∧ (∀ k ∈ (runI b l).2.loads, (k : Int) ∈ loadsI l) ∧
    (metA l l.length = true ∨ divX l l.length = true ∨ ((runI b l).1 : Int) ∈ endsI l) := by
  have hf := hR.1
  have hro : reachedOf l = reachI l := reachedOf_ok hR
  have hrl := reachI_length l
  obtain ⟨h1, h2, n, h3, h4, h5⟩ := runV_bounds (b := b) hf l.length rn0 hf.pos (by omega) .zero
  refine ⟨?_, longA_le l l.length 0, fun k hk => ?_, ?_⟩
  · have e : rn0.steps = 0 := rfl
    have e2 : LV l rn0.at' = longI l := rfl
    rw [e, e2] at h1
    have : (runI b l) = runV b l l.length rn0 := rfl
    rw [this]; omega
  · unfold loadsI
    rw [hro, hrl, sort_mem, met_mem]
    rcases h2 k hk with h6 | ⟨m, q1, q2, q3, q4⟩
    · cases h6
    · exact ⟨m, q1, by rw [hro]; exact (reachI_iff hf m).2 q2, q3, q4⟩
  · have hr : (reachedOf l).getD n false = true := by rw [hro]; exact (reachI_iff hf n).2 h4
    rcases h5 with ⟨h6, h7⟩ | h6 | ⟨h6, h7⟩
    · refine .inr (.inr ?_)
      unfold endsI
      rw [hro, hrl, sort_mem, met_mem]
      exact ⟨n, h3, hr, h6, h7⟩
    · exact .inl ((metA_iff l _).2 ⟨n, h3, hr, h6⟩)
    · exact .inr (.inl (divX_of l h6 h7 _ h3))
end Go.Proofs.W

namespace Go.Proofs.W
open Go.Vl
set_option maxRecDepth 100000

theorem natsI_len {k : IntKind} {L : List Int} : natsI k L = .sl 1 L.length (fun i => .v (.int k (L.getD i 0))) := rfl
/-- Is a number among the first ones? -/
def inTo (L : List Int) (z : Int) : Nat → Bool
  | 0 => false
  | n + 1 => inTo L z n || (L.getD n 0 == z)
theorem inTo_of {L : List Int} {z : Int} (h : z ∈ L) : inTo L z L.length = true := by
  obtain ⟨n, hn, rfl⟩ := List.getElem_of_mem h
  have key : ∀ i, n < i → inTo L L[n] i = true := by
    intro i
    induction i with
    | zero => intro h; omega
    | succ i ih =>
      intro h
      unfold inTo
      rcases Nat.lt_or_ge n i with h5 | h5
      · rw [ih h5]; rfl
      · obtain rfl : n = i := by omega
        simp [List.getD, hn]
  exact key _ hn
set_option maxHeartbeats 8000000 in
theorem flowbounds_spec (l : List Ins) (hok : okL l) (hl : l.length ≤ maxLen) (b : List Nat) (hb : okB b) (hbl : b.length = 64) : PCall Tryz.prog 3 [inss l, b64A b] (fun r => r = .v (.bool true)) := by
  refine pcall_of_aw Tryz.func3 rfl rfl fun nx => ?_
  (repeat((conv=>whnf);first|apply ω0|apply ω2|refine τ3 rfl ?_|refine τ4 rfl ?_|refine ⟨rfl,?_⟩|apply τa|refine τb rfl ?_|refine ⟨⟨by kernel_rfl,by kernel_rfl⟩,?_⟩|refine ⟨by decide,?_⟩|apply τt|apply τf))
  refine aw_regionX 1 ?_
  refine aop_boxK rfl ?_ ?_
  · rfl
  (repeat((conv=>whnf);first|apply ω0|apply ω2|refine τ3 rfl ?_|refine τ4 rfl ?_|refine ⟨rfl,?_⟩|apply τa|refine τb rfl ?_|refine ⟨⟨by kernel_rfl,by kernel_rfl⟩,?_⟩|refine ⟨by decide,?_⟩|apply τt|apply τf))
  refine AW.le (ele_freeze (bx := []) (pm := []) (nn := 1) (L := [(0, inss l), (3, rp64 b)]) [((0, nx), .c (b.map fun k : Nat => u8 k))] rfl rfl (List.Sublist.refl _) .slnil ⟨Frz.refl _, Frz.bp (List.mem_cons_self ..) rfl, trivial⟩) ?_
  (repeat((conv=>whnf);first|apply ω0|apply ω1|apply ω2|refine τ3 rfl ?_|refine τ4 rfl ?_|refine ⟨rfl,?_⟩|apply τa|refine τb rfl ?_|refine ⟨⟨by kernel_rfl,by kernel_rfl⟩,?_⟩|refine ⟨by decide,?_⟩|apply τt|apply τf))
  intro c h1; cases c
  · have h1 := not_of h1
    have hl2 : l.length ≤ 200 := by omega
    have hvm := vmrun_spec l hok (by omega) b hb (by omega)
    generalize hV : vmI l b = V at hvm
    obtain ⟨e, v, s⟩ := V
    dsimp only at hvm
    (repeat((conv=>whnf);first|apply ω0|apply ω1|apply ω2|refine τ3 rfl ?_|refine τ4 rfl ?_|refine ⟨rfl,?_⟩|apply τa|refine τb rfl ?_|refine ⟨⟨by kernel_rfl,by kernel_rfl⟩,?_⟩|refine ⟨by decide,?_⟩|apply τt|apply τf))
    refine aop_tells rfl rfl (all_spec l (by omega)) ⟨AVle.refl _, trivial⟩ fun nx1 => ?_
    ((repeat((conv=>whnf);first|apply ω0|apply ω2|refine τ3 rfl ?_|refine τ4 rfl ?_|refine ⟨rfl,?_⟩|apply τa|refine τb rfl ?_|refine ⟨⟨by kernel_rfl,by kernel_rfl⟩,?_⟩|refine ⟨by decide,?_⟩|apply τt|apply τf)))
    refine aw_regionY (fun i => match i with | 1 => true | _ => false) 3 ?_
    (repeat((conv=>whnf);first|apply ω0|apply ω1|apply ω2|refine τ3 rfl ?_|refine τ4 rfl ?_|refine ⟨rfl,?_⟩|apply τa|refine τb rfl ?_|refine ⟨⟨by kernel_rfl,by kernel_rfl⟩,?_⟩|refine ⟨by decide,?_⟩|apply τt|apply τf))
    refine aop_arr (n := 64) (e := 5) rfl rfl rfl Tryz.underlying23 Tryz.underlying5 rfl (by kernel_rfl) hbl (fun _ => rfl) ?_
    (repeat((conv=>whnf);first|apply ω0|apply ω1|apply ω2|refine τ3 rfl ?_|refine τ4 rfl ?_|refine ⟨rfl,?_⟩|apply τa|refine τb rfl ?_|refine ⟨⟨by kernel_rfl,by kernel_rfl⟩,?_⟩|refine ⟨by decide,?_⟩|apply τt|apply τf))
    refine aop_tells rfl rfl hvm ⟨AVle.refl _, AVle.refl _, trivial⟩ fun nx2 => ?_
    (repeat((conv=>whnf);first|apply ω0|apply ω1|apply ω2|refine τ3 rfl ?_|refine τ4 rfl ?_|refine ⟨rfl,?_⟩|apply τa|refine τb rfl ?_|refine ⟨⟨by kernel_rfl,by kernel_rfl⟩,?_⟩|refine ⟨by decide,?_⟩|apply τt|apply τf))
    intro c h2; cases c
    · have h2 : e = 0 := by have := bne_no h2; omega
      obtain ⟨hR, _, hrun⟩ := vmI_ok hV h2
      subst h2
      have hro : (reachedOf l).length = l.length := by rw [reachedOf_ok hR]; exact reachI_length l
      have hen := ends_spec l hok (by omega)
      have hlo := loads_spec l hok (by omega)
      have hlg := longest_spec l hok (by omega)
      rw [if_pos (check_iff.2 hR)] at hlg
      rw [hro] at hen
      obtain ⟨q1, q2, q3, q4⟩ := bounds_run (b := b) hR
      rw [hrun] at q1 q3 q4
      dsimp only at q1 q3 q4
      have hvl : v < 4294967296 := by
        have := runI_lt hb hok hR.1
        rw [hrun] at this; exact this
      obtain ⟨sat, sa, sx, sce, steps, loads⟩ := s
      dsimp only at q1 q3
      have hll : loads.length ≤ 1000000 := by
        have := (runI_ends (b := b) hR.1).2
        rw [hrun] at this; dsimp only at this; omega
      have hel : (endsI l).length ≤ 1000000 := by
        unfold endsI; rw [sortBy_length, List.length_map]
        have := metTo_length l 14 (reachedOf l).length; omega
      have hlol : (loadsI l).length ≤ 1000000 := by
        unfold loadsI; rw [sortBy_length, List.length_map]
        have := metTo_length l 1 (reachedOf l).length; omega
      generalize endsI l = EL at *
      generalize loadsI l = LL at *
      generalize longI l = lg at *
      have hmA : metA l l.length = metA l l.length := rfl
      generalize metA l l.length = mA at *
      (repeat((conv=>whnf);first|apply ω0|apply ω1|apply ω2|refine τ3 rfl ?_|refine τ4 rfl ?_|refine ⟨rfl,?_⟩|apply τa|refine τb rfl ?_|refine ⟨⟨by kernel_rfl,by kernel_rfl⟩,?_⟩|refine ⟨by decide,?_⟩|apply τt|apply τf))
      refine aop_tells rfl rfl hen ⟨AVle.refl _, trivial⟩ fun nx3 => ?_
      (repeat((conv=>whnf);first|apply ω0|apply ω1|apply ω2|refine τ3 rfl ?_|refine τ4 rfl ?_|refine ⟨rfl,?_⟩|apply τa|refine τb rfl ?_|refine ⟨⟨by kernel_rfl,by kernel_rfl⟩,?_⟩|refine ⟨by decide,?_⟩|apply τt|apply τf))
      intro mB hmB
      replace hmB : mB = mA := hmB
      subst hmB
      (repeat((conv=>whnf);first|apply ω0|apply ω1|apply ω2|refine τ3 rfl ?_|refine τ4 rfl ?_|refine ⟨rfl,?_⟩|apply τa|refine τb rfl ?_|refine ⟨⟨by kernel_rfl,by kernel_rfl⟩,?_⟩|refine ⟨by decide,?_⟩|apply τt|apply τf))
      refine aw_midB (fun y : Bool × Nat => mk 128 [(5, inss l), (6, .bp (1, nx2) 0), (8, natsI .u32 EL), (9, .v (.bool y.1))] ⟨[((1, nx2), .c [u32 v, int steps, ints loads])], [], y.2, 2⟩) (fun y => y.1 = (mB || divX l l.length)) ?_ ?_
      · refine aw_loop (fun y : Nat × Bool × Nat => mk 128 [(0, inss l), (5, inss l), (6, .bp (1, nx2) 0), (8, natsI .u32 EL), (9, .v (.bool y.2.1)), (10, int y.1)] ⟨[((1, nx2), .c [u32 v, int steps, ints loads])], [], y.2.2, 2⟩) (fun y => y.1 ≤ l.length ∧ y.2.1 = (mB || divX l y.1)) (fun y => l.length - y.1) ?_ ?_
        · exact ⟨(0, mB, _), ⟨Nat.zero_le _, by simp [divX]⟩, ele_keep rfl rfl (List.Sublist.refl _) (List.Sublist.refl _) ⟨AVle.refl _, AVle.refl _, AVle.refl _, AVle.refl _, AVle.refl _, AVle.refl _, trivial⟩⟩
        · rintro ⟨i, B, nx4⟩ ⟨g1, hB⟩
          dsimp only at g1 hB
          (repeat((conv=>whnf);first|apply ω0|apply ω1|apply ω2|refine τ3 rfl ?_|refine τ4 rfl ?_|refine ⟨rfl,?_⟩|apply τa|refine τb rfl ?_|refine ⟨⟨by kernel_rfl,by kernel_rfl⟩,?_⟩|refine ⟨by decide,?_⟩|apply τt|apply τf))
          intro c g2; cases c
          · have g2 := not_of g2
            try dsimp only at g2
            have e : i = l.length := by omega
            rw [e] at hB
            (repeat((conv=>whnf);first|apply ω0|apply ω1|apply ω2|refine τ3 rfl ?_|refine τ4 rfl ?_|refine ⟨rfl,?_⟩|apply τa|refine τb rfl ?_|refine ⟨⟨by kernel_rfl,by kernel_rfl⟩,?_⟩|refine ⟨by decide,?_⟩|apply τt|apply τf))
            exact ⟨(B, nx4), hB, ele_keep rfl rfl (List.Sublist.refl _) (List.Sublist.refl _) ⟨AVle.refl _, AVle.refl _, AVle.refl _, AVle.refl _, trivial⟩⟩
          · have g2 := yes_of g2
            try dsimp only at g2
            have hi : i < l.length := by omega
            have hki : (l.getD i ins0).ok := hok.get hi
            have hof := of_both (l.getD i ins0).code hki.1
            have hn : (mB || divX l (i + 1)) = (B || (decide ((kof (l.getD i ins0).code).1 = 19) && (kof (l.getD i ins0).code).2)) := by rw [hB, Bool.or_assoc]; rfl
            generalize (kof (l.getD i ins0).code).1 = KK at hof hn
            generalize (kof (l.getD i ins0).code).2 = XX at hof hn
            (repeat((conv=>whnf);first|apply ω0|apply ω1|apply ω2|refine τ3 rfl ?_|refine τ4 rfl ?_|refine ⟨rfl,?_⟩|apply τa|refine τb rfl ?_|refine ⟨⟨by kernel_rfl,by kernel_rfl⟩,?_⟩|refine ⟨by decide,?_⟩|apply τt|apply τf))
            refine ⟨⟨by first | omega | (dsimp only; omega), by first | omega | (dsimp only; omega)⟩, ?_⟩
            (repeat((conv=>whnf);first|apply ω0|apply ω1|apply ω2|refine τ3 rfl ?_|refine τ4 rfl ?_|refine ⟨rfl,?_⟩|apply τa|refine τb rfl ?_|refine ⟨⟨by kernel_rfl,by kernel_rfl⟩,?_⟩|refine ⟨by decide,?_⟩|apply τt|apply τf))
            refine aop_tells rfl rfl hof ⟨AVle.refl _, trivial⟩ fun nx5 => ?_
            cases B
            · (repeat((conv=>whnf);first|apply ω0|apply ω1|apply ω2|refine τ3 rfl ?_|refine τ4 rfl ?_|refine ⟨rfl,?_⟩|apply τa|refine τb rfl ?_|refine ⟨⟨by kernel_rfl,by kernel_rfl⟩,?_⟩|refine ⟨by decide,?_⟩|apply τt|apply τf))
              intro x1 hx1
              replace hx1 : x1 = XX := hx1
              subst hx1
              (repeat((conv=>whnf);first|apply ω0|apply ω1|apply ω2|refine τ3 rfl ?_|refine τ4 rfl ?_|refine ⟨rfl,?_⟩|apply τa|refine τb rfl ?_|refine ⟨⟨by kernel_rfl,by kernel_rfl⟩,?_⟩|refine ⟨by decide,?_⟩|apply τt|apply τf))
              intro c g3; cases c
              · have g3 : ¬ KK = 19 := fun h => by subst h; exact Bool.false_ne_true (g3.trans (beq_self_eq_true _))
                rw [decide_eq_false g3, Bool.false_and, Bool.or_false] at hn
                (repeat((conv=>whnf);first|apply ω0|apply ω1|apply ω2|refine τ3 rfl ?_|refine τ4 rfl ?_|refine ⟨rfl,?_⟩|apply τa|refine τb rfl ?_|refine ⟨⟨by kernel_rfl,by kernel_rfl⟩,?_⟩|refine ⟨by decide,?_⟩|apply τt|apply τf))
                exact back (i + 1, false, nx5) ⟨by first | omega | (dsimp only; omega), hn.symm⟩ (by first | omega | (dsimp only; omega)) (ele_keep rfl rfl (List.Sublist.refl _) (List.Sublist.refl _) ⟨AVle.refl _, AVle.refl _, AVle.refl _, AVle.refl _, AVle.refl _, le_int (wrap_succ (by first | omega | (dsimp only; omega))), trivial⟩)
              · have g3 : KK = 19 := Int.ofNat_inj.1 (eq_of_beq g3.symm)
                rw [decide_eq_true g3, Bool.true_and, Bool.false_or] at hn
                cases x1
                · (repeat((conv=>whnf);first|apply ω0|apply ω1|apply ω2|refine τ3 rfl ?_|refine τ4 rfl ?_|refine ⟨rfl,?_⟩|apply τa|refine τb rfl ?_|refine ⟨⟨by kernel_rfl,by kernel_rfl⟩,?_⟩|refine ⟨by decide,?_⟩|apply τt|apply τf))
                  exact back (i + 1, false, nx5) ⟨by first | omega | (dsimp only; omega), hn.symm⟩ (by first | omega | (dsimp only; omega)) (ele_keep rfl rfl (List.Sublist.refl _) (List.Sublist.refl _) ⟨AVle.refl _, AVle.refl _, AVle.refl _, AVle.refl _, AVle.refl _, le_int (wrap_succ (by first | omega | (dsimp only; omega))), trivial⟩)
                · (repeat((conv=>whnf);first|apply ω0|apply ω1|apply ω2|refine τ3 rfl ?_|refine τ4 rfl ?_|refine ⟨rfl,?_⟩|apply τa|refine τb rfl ?_|refine ⟨⟨by kernel_rfl,by kernel_rfl⟩,?_⟩|refine ⟨by decide,?_⟩|apply τt|apply τf))
                  exact back (i + 1, true, nx5) ⟨by first | omega | (dsimp only; omega), hn.symm⟩ (by first | omega | (dsimp only; omega)) (ele_keep rfl rfl (List.Sublist.refl _) (List.Sublist.refl _) ⟨AVle.refl _, AVle.refl _, AVle.refl _, AVle.refl _, AVle.refl _, le_int (wrap_succ (by first | omega | (dsimp only; omega))), trivial⟩)
            · (repeat((conv=>whnf);first|apply ω0|apply ω1|apply ω2|refine τ3 rfl ?_|refine τ4 rfl ?_|refine ⟨rfl,?_⟩|apply τa|refine τb rfl ?_|refine ⟨⟨by kernel_rfl,by kernel_rfl⟩,?_⟩|refine ⟨by decide,?_⟩|apply τt|apply τf))
              intro x1 hx1
              (repeat((conv=>whnf);first|apply ω0|apply ω1|apply ω2|refine τ3 rfl ?_|refine τ4 rfl ?_|refine ⟨rfl,?_⟩|apply τa|refine τb rfl ?_|refine ⟨⟨by kernel_rfl,by kernel_rfl⟩,?_⟩|refine ⟨by decide,?_⟩|apply τt|apply τf))
              exact back (i + 1, true, nx5) ⟨by first | omega | (dsimp only; omega), hn.symm⟩ (by first | omega | (dsimp only; omega)) (ele_keep rfl rfl (List.Sublist.refl _) (List.Sublist.refl _) ⟨AVle.refl _, AVle.refl _, AVle.refl _, AVle.refl _, AVle.refl _, le_int (wrap_succ (by first | omega | (dsimp only; omega))), trivial⟩)
      · rintro ⟨B, nx4⟩ hB
        dsimp only at hB
        have hin : (B || inTo EL (v : Int) EL.length) = true := by
          rw [hB]
          rcases q4 with h | h | h
          · rw [h]; rfl
          · rw [h, Bool.or_true]; rfl
          · rw [inTo_of h, Bool.or_true]
        (repeat((conv=>whnf);first|apply ω0|apply ω1|apply ω2|refine τ3 rfl ?_|refine τ4 rfl ?_|refine ⟨rfl,?_⟩|apply τa|refine τb rfl ?_|refine ⟨⟨by kernel_rfl,by kernel_rfl⟩,?_⟩|refine ⟨by decide,?_⟩|apply τt|apply τf))
        refine aw_midB (fun y : Bool × Nat => mk 128 [(5, inss l), (6, .bp (1, nx2) 0), (14, .v (.bool y.1))] ⟨[((1, nx2), .c [u32 v, int steps, ints loads])], [], y.2, 2⟩) (fun y => y.1 = true) ?_ ?_
        · refine aw_loop (fun y : Nat × Bool × Nat => mk 128 [(5, inss l), (6, .bp (1, nx2) 0), (8, natsI .u32 EL), (14, .v (.bool y.2.1)), (15, int y.1)] ⟨[((1, nx2), .c [u32 v, int steps, ints loads])], [], y.2.2, 2⟩) (fun y => y.1 ≤ EL.length ∧ y.2.1 = (B || inTo EL (v : Int) y.1)) (fun y => EL.length - y.1) ?_ ?_
          · exact ⟨(0, B, _), ⟨Nat.zero_le _, by simp [inTo]⟩, ele_keep rfl rfl (List.Sublist.refl _) (List.Sublist.refl _) ⟨AVle.refl _, AVle.refl _, AVle.refl _, AVle.refl _, AVle.refl _, trivial⟩⟩
          · rintro ⟨i, C, nx5⟩ ⟨g1, hC⟩
            dsimp only at g1 hC
            (repeat((conv=>whnf);first|apply ω0|apply ω1|apply ω2|refine τ3 rfl ?_|refine τ4 rfl ?_|refine ⟨rfl,?_⟩|apply τa|refine τb rfl ?_|refine ⟨⟨by kernel_rfl,by kernel_rfl⟩,?_⟩|refine ⟨by decide,?_⟩|apply τt|apply τf))
            intro c g2; cases c
            · have g2 := not_of g2
              try dsimp only at g2
              have e : i = EL.length := by omega
              rw [e, hin] at hC
              (repeat((conv=>whnf);first|apply ω0|apply ω1|apply ω2|refine τ3 rfl ?_|refine τ4 rfl ?_|refine ⟨rfl,?_⟩|apply τa|refine τb rfl ?_|refine ⟨⟨by kernel_rfl,by kernel_rfl⟩,?_⟩|refine ⟨by decide,?_⟩|apply τt|apply τf))
              exact ⟨(C, nx5), hC, ele_keep rfl rfl (List.Sublist.refl _) (List.Sublist.refl _) ⟨AVle.refl _, AVle.refl _, AVle.refl _, trivial⟩⟩
            · have g2 := yes_of g2
              try dsimp only at g2
              have hn : (B || inTo EL (v : Int) (i + 1)) = (C || (EL.getD i 0 == (v : Int))) := by rw [hC, Bool.or_assoc]; rfl
              cases C
              · (repeat((conv=>whnf);first|apply ω0|apply ω1|apply ω2|refine τ3 rfl ?_|refine τ4 rfl ?_|refine ⟨rfl,?_⟩|apply τa|refine τb rfl ?_|refine ⟨⟨by kernel_rfl,by kernel_rfl⟩,?_⟩|refine ⟨by decide,?_⟩|apply τt|apply τf))
                (refine aw_draw 10 ?_ ?_ ?_ ?_; (· kernel_rfl); (· kernel_rfl); (· kernel_rfl))
                (repeat((conv=>whnf);first|apply ω0|apply ω1|apply ω2|refine τ3 rfl ?_|refine τ4 rfl ?_|refine ⟨rfl,?_⟩|apply τa|refine τb rfl ?_|refine ⟨⟨by kernel_rfl,by kernel_rfl⟩,?_⟩|refine ⟨by decide,?_⟩|apply τt|apply τf))
                refine ⟨⟨by first | omega | (dsimp only; omega), by first | omega | (dsimp only; omega)⟩, ?_⟩
                (repeat((conv=>whnf);first|apply ω0|apply ω1|apply ω2|refine τ3 rfl ?_|refine τ4 rfl ?_|refine ⟨rfl,?_⟩|apply τa|refine τb rfl ?_|refine ⟨⟨by kernel_rfl,by kernel_rfl⟩,?_⟩|refine ⟨by decide,?_⟩|apply τt|apply τf))
                intro c hc
                replace hc : c = (EL.getD i 0 == (v : Int)) := hc
                (repeat((conv=>whnf);first|apply ω0|apply ω1|apply ω2|refine τ3 rfl ?_|refine τ4 rfl ?_|refine ⟨rfl,?_⟩|apply τa|refine τb rfl ?_|refine ⟨⟨by kernel_rfl,by kernel_rfl⟩,?_⟩|refine ⟨by decide,?_⟩|apply τt|apply τf))
                exact back (i + 1, c, nx5) ⟨by first | omega | (dsimp only; omega), by dsimp only; rw [hn, hc]; rfl⟩ (by first | omega | (dsimp only; omega)) (ele_keep rfl rfl (List.Sublist.refl _) (List.Sublist.refl _) ⟨AVle.refl _, AVle.refl _, AVle.refl _, AVle.refl _, le_int (wrap_succ (by first | omega | (dsimp only; omega))), trivial⟩)
              · (repeat((conv=>whnf);first|apply ω0|apply ω1|apply ω2|refine τ3 rfl ?_|refine τ4 rfl ?_|refine ⟨rfl,?_⟩|apply τa|refine τb rfl ?_|refine ⟨⟨by kernel_rfl,by kernel_rfl⟩,?_⟩|refine ⟨by decide,?_⟩|apply τt|apply τf))
                (refine aw_draw 10 ?_ ?_ ?_ ?_; (· kernel_rfl); (· kernel_rfl); (· kernel_rfl))
                (repeat((conv=>whnf);first|apply ω0|apply ω1|apply ω2|refine τ3 rfl ?_|refine τ4 rfl ?_|refine ⟨rfl,?_⟩|apply τa|refine τb rfl ?_|refine ⟨⟨by kernel_rfl,by kernel_rfl⟩,?_⟩|refine ⟨by decide,?_⟩|apply τt|apply τf))
                exact back (i + 1, true, nx5) ⟨by first | omega | (dsimp only; omega), by dsimp only; rw [hn]; rfl⟩ (by first | omega | (dsimp only; omega)) (ele_keep rfl rfl (List.Sublist.refl _) (List.Sublist.refl _) ⟨AVle.refl _, AVle.refl _, AVle.refl _, AVle.refl _, le_int (wrap_succ (by first | omega | (dsimp only; omega))), trivial⟩)
        · rintro ⟨C, nx5⟩ hC
          dsimp only at hC
          subst hC
          (repeat((conv=>whnf);first|apply ω0|apply ω1|apply ω2|refine τ3 rfl ?_|refine τ4 rfl ?_|refine ⟨rfl,?_⟩|apply τa|refine τb rfl ?_|refine ⟨⟨by kernel_rfl,by kernel_rfl⟩,?_⟩|refine ⟨by decide,?_⟩|apply τt|apply τf))
          refine aop_tells rfl rfl hlo ⟨AVle.refl _, trivial⟩ fun nx6 => ?_
          (repeat((conv=>whnf);first|apply ω0|apply ω1|apply ω2|refine τ3 rfl ?_|refine τ4 rfl ?_|refine ⟨rfl,?_⟩|apply τa|refine τb rfl ?_|refine ⟨⟨by kernel_rfl,by kernel_rfl⟩,?_⟩|refine ⟨by decide,?_⟩|apply τt|apply τf))
          refine aw_midB (fun y : Nat => mk 128 [(5, inss l), (6, .bp (1, nx2) 0), (14, .v (.bool true))] ⟨[((1, nx2), .c [u32 v, int steps, ints loads])], [], y, 2⟩) (fun _ => True) ?_ ?_
          · refine aw_loop (fun y : Nat × Nat => mk 128 [(5, inss l), (6, .bp (1, nx2) 0), (14, .v (.bool true)), (16, natsI .i64 LL), (17, int y.1)] ⟨[((1, nx2), .c [u32 v, int steps, ints loads])], [], y.2, 2⟩) (fun y => y.1 ≤ loads.length) (fun y => loads.length - y.1) ?_ ?_
            · exact ⟨(0, _), Nat.zero_le _, ele_keep rfl rfl (List.Sublist.refl _) (List.Sublist.refl _) ⟨AVle.refl _, AVle.refl _, AVle.refl _, AVle.refl _, AVle.refl _, trivial⟩⟩
            · rintro ⟨i, nx7⟩ g1
              dsimp only at g1
              (repeat((conv=>whnf);first|apply ω0|apply ω1|apply ω2|refine τ3 rfl ?_|refine τ4 rfl ?_|refine ⟨rfl,?_⟩|apply τa|refine τb rfl ?_|refine ⟨⟨by kernel_rfl,by kernel_rfl⟩,?_⟩|refine ⟨by decide,?_⟩|apply τt|apply τf))
              intro c g2; cases c
              · (repeat((conv=>whnf);first|apply ω0|apply ω1|apply ω2|refine τ3 rfl ?_|refine τ4 rfl ?_|refine ⟨rfl,?_⟩|apply τa|refine τb rfl ?_|refine ⟨⟨by kernel_rfl,by kernel_rfl⟩,?_⟩|refine ⟨by decide,?_⟩|apply τt|apply τf))
                exact ⟨nx7, trivial, ele_keep rfl rfl (List.Sublist.refl _) (List.Sublist.refl _) ⟨AVle.refl _, AVle.refl _, AVle.refl _, trivial⟩⟩
              · have g2 := yes_of g2
                try dsimp only at g2
                have hi : i < loads.length := by omega
                have hmem : ((loads.getD i 0 : Nat) : Int) ∈ LL := q3 _ (by simp only [List.getD, List.getElem?_eq_getElem hi]; exact List.getElem_mem hi)
                have hin2 := inTo_of hmem
                (repeat((conv=>whnf);first|apply ω0|apply ω1|apply ω2|refine τ3 rfl ?_|refine τ4 rfl ?_|refine ⟨rfl,?_⟩|apply τa|refine τb rfl ?_|refine ⟨⟨by kernel_rfl,by kernel_rfl⟩,?_⟩|refine ⟨by decide,?_⟩|apply τt|apply τf))
                refine aw_midB (fun y : Bool × Nat => mk 128 [(5, inss l), (6, .bp (1, nx2) 0), (14, .v (.bool true)), (16, natsI .i64 LL), (17, int i), (18, .v (.bool y.1))] ⟨[((1, nx2), .c [u32 v, int steps, ints loads])], [], y.2, 2⟩) (fun y => y.1 = true) ?_ ?_
                · refine aw_loop (fun y : Nat × Bool × Nat => mk 128 [(5, inss l), (6, .bp (1, nx2) 0), (14, .v (.bool true)), (16, natsI .i64 LL), (17, int i), (18, .v (.bool y.2.1)), (19, int y.1)] ⟨[((1, nx2), .c [u32 v, int steps, ints loads])], [], y.2.2, 2⟩) (fun y => y.1 ≤ LL.length ∧ y.2.1 = inTo LL ((loads.getD i 0 : Nat) : Int) y.1) (fun y => LL.length - y.1) ?_ ?_
                  · exact ⟨(0, false, _), ⟨Nat.zero_le _, rfl⟩, ele_keep rfl rfl (List.Sublist.refl _) (List.Sublist.refl _) ⟨AVle.refl _, AVle.refl _, AVle.refl _, AVle.refl _, AVle.refl _, AVle.refl _, AVle.refl _, trivial⟩⟩
                  · rintro ⟨k, C, nx8⟩ ⟨k1, hC⟩
                    dsimp only at k1 hC
                    (repeat((conv=>whnf);first|apply ω0|apply ω1|apply ω2|refine τ3 rfl ?_|refine τ4 rfl ?_|refine ⟨rfl,?_⟩|apply τa|refine τb rfl ?_|refine ⟨⟨by kernel_rfl,by kernel_rfl⟩,?_⟩|refine ⟨by decide,?_⟩|apply τt|apply τf))
                    intro c g3; cases c
                    · have g3 := not_of g3
                      try dsimp only at g3
                      have e : k = LL.length := by omega
                      rw [e, hin2] at hC
                      (repeat((conv=>whnf);first|apply ω0|apply ω1|apply ω2|refine τ3 rfl ?_|refine τ4 rfl ?_|refine ⟨rfl,?_⟩|apply τa|refine τb rfl ?_|refine ⟨⟨by kernel_rfl,by kernel_rfl⟩,?_⟩|refine ⟨by decide,?_⟩|apply τt|apply τf))
                      exact ⟨(C, nx8), hC, ele_keep rfl rfl (List.Sublist.refl _) (List.Sublist.refl _) ⟨AVle.refl _, AVle.refl _, AVle.refl _, AVle.refl _, AVle.refl _, AVle.refl _, trivial⟩⟩
                    · have g3 := yes_of g3
                      try dsimp only at g3
                      have hn : inTo LL ((loads.getD i 0 : Nat) : Int) (k + 1) = (C || (LL.getD k 0 == ((loads.getD i 0 : Nat) : Int))) := by rw [hC]; rfl
                      cases C
                      · (repeat((conv=>whnf);first|apply ω0|apply ω1|apply ω2|refine τ3 rfl ?_|refine τ4 rfl ?_|refine ⟨rfl,?_⟩|apply τa|refine τb rfl ?_|refine ⟨⟨by kernel_rfl,by kernel_rfl⟩,?_⟩|refine ⟨by decide,?_⟩|apply τt|apply τf))
                        (refine aw_draw 13 ?_ ?_ ?_ ?_; (· kernel_rfl); (· kernel_rfl); (· kernel_rfl))
                        (repeat((conv=>whnf);first|apply ω0|apply ω1|apply ω2|refine τ3 rfl ?_|refine τ4 rfl ?_|refine ⟨rfl,?_⟩|apply τa|refine τb rfl ?_|refine ⟨⟨by kernel_rfl,by kernel_rfl⟩,?_⟩|refine ⟨by decide,?_⟩|apply τt|apply τf))
                        refine ⟨⟨by first | omega | (dsimp only; omega), by first | omega | (dsimp only; omega)⟩, ?_⟩
                        (repeat((conv=>whnf);first|apply ω0|apply ω1|apply ω2|refine τ3 rfl ?_|refine τ4 rfl ?_|refine ⟨rfl,?_⟩|apply τa|refine τb rfl ?_|refine ⟨⟨by kernel_rfl,by kernel_rfl⟩,?_⟩|refine ⟨by decide,?_⟩|apply τt|apply τf))
                        refine ⟨⟨by first | omega | (dsimp only; omega), by first | omega | (dsimp only; omega)⟩, ?_⟩
                        (repeat((conv=>whnf);first|apply ω0|apply ω1|apply ω2|refine τ3 rfl ?_|refine τ4 rfl ?_|refine ⟨rfl,?_⟩|apply τa|refine τb rfl ?_|refine ⟨⟨by kernel_rfl,by kernel_rfl⟩,?_⟩|refine ⟨by decide,?_⟩|apply τt|apply τf))
                        intro c hc
                        replace hc : c = (LL.getD k 0 == ((loads.getD i 0 : Nat) : Int)) := hc
                        (repeat((conv=>whnf);first|apply ω0|apply ω1|apply ω2|refine τ3 rfl ?_|refine τ4 rfl ?_|refine ⟨rfl,?_⟩|apply τa|refine τb rfl ?_|refine ⟨⟨by kernel_rfl,by kernel_rfl⟩,?_⟩|refine ⟨by decide,?_⟩|apply τt|apply τf))
                        exact back (k + 1, c, nx8) ⟨by first | omega | (dsimp only; omega), by dsimp only; rw [hn, hc]; rfl⟩ (by first | omega | (dsimp only; omega)) (ele_keep rfl rfl (List.Sublist.refl _) (List.Sublist.refl _) ⟨AVle.refl _, AVle.refl _, AVle.refl _, AVle.refl _, AVle.refl _, AVle.refl _, le_int (wrap_succ (by first | omega | (dsimp only; omega))), trivial⟩)
                      · (repeat((conv=>whnf);first|apply ω0|apply ω1|apply ω2|refine τ3 rfl ?_|refine τ4 rfl ?_|refine ⟨rfl,?_⟩|apply τa|refine τb rfl ?_|refine ⟨⟨by kernel_rfl,by kernel_rfl⟩,?_⟩|refine ⟨by decide,?_⟩|apply τt|apply τf))
                        (refine aw_draw 13 ?_ ?_ ?_ ?_; (· kernel_rfl); (· kernel_rfl); (· kernel_rfl))
                        (repeat((conv=>whnf);first|apply ω0|apply ω1|apply ω2|refine τ3 rfl ?_|refine τ4 rfl ?_|refine ⟨rfl,?_⟩|apply τa|refine τb rfl ?_|refine ⟨⟨by kernel_rfl,by kernel_rfl⟩,?_⟩|refine ⟨by decide,?_⟩|apply τt|apply τf))
                        exact back (k + 1, true, nx8) ⟨by first | omega | (dsimp only; omega), by dsimp only; rw [hn]; rfl⟩ (by first | omega | (dsimp only; omega)) (ele_keep rfl rfl (List.Sublist.refl _) (List.Sublist.refl _) ⟨AVle.refl _, AVle.refl _, AVle.refl _, AVle.refl _, AVle.refl _, AVle.refl _, le_int (wrap_succ (by first | omega | (dsimp only; omega))), trivial⟩)
                · rintro ⟨C, nx8⟩ hC
                  dsimp only at hC
                  subst hC
                  (repeat((conv=>whnf);first|apply ω0|apply ω1|apply ω2|refine τ3 rfl ?_|refine τ4 rfl ?_|refine ⟨rfl,?_⟩|apply τa|refine τb rfl ?_|refine ⟨⟨by kernel_rfl,by kernel_rfl⟩,?_⟩|refine ⟨by decide,?_⟩|apply τt|apply τf))
                  exact back (i + 1, nx8) (by first | omega | (dsimp only; omega)) (by first | omega | (dsimp only; omega)) (ele_keep rfl rfl (List.Sublist.refl _) (List.Sublist.refl _) ⟨AVle.refl _, AVle.refl _, AVle.refl _, AVle.refl _, le_int (wrap_succ (by first | omega | (dsimp only; omega))), trivial⟩)
          · intro nx7 _
            (repeat((conv=>whnf);first|apply ω0|apply ω1|apply ω2|refine τ3 rfl ?_|refine τ4 rfl ?_|refine ⟨rfl,?_⟩|apply τa|refine τb rfl ?_|refine ⟨⟨by kernel_rfl,by kernel_rfl⟩,?_⟩|refine ⟨by decide,?_⟩|apply τt|apply τf))
            (refine aw_draw 18 ?_ ?_ ?_ ?_; (· kernel_rfl); (· kernel_rfl); (· kernel_rfl))
            (repeat((conv=>whnf);first|apply ω0|apply ω1|apply ω2|refine τ3 rfl ?_|refine τ4 rfl ?_|refine ⟨rfl,?_⟩|apply τa|refine τb rfl ?_|refine ⟨⟨by kernel_rfl,by kernel_rfl⟩,?_⟩|refine ⟨by decide,?_⟩|apply τt|apply τf))
            refine ex_yields (yields_tells rfl rfl hlg ⟨AVle.refl _, trivial⟩ (NoId.v _)) ?_
            (repeat((conv=>whnf);first|apply ω0|apply ω1|apply ω2|refine τ3 rfl ?_|refine τ4 rfl ?_|refine ⟨rfl,?_⟩|apply τa|refine τb rfl ?_|refine ⟨⟨by kernel_rfl,by kernel_rfl⟩,?_⟩|refine ⟨by decide,?_⟩|apply τt|apply τf))
            (intro c hc; obtain rfl : c = true := hc.trans (by first | exact decide_eq_true (by omega) | (simp; omega)); (repeat((conv=>whnf);first|apply ω0|apply ω1|apply ω2|refine τ3 rfl ?_|refine τ4 rfl ?_|refine ⟨rfl,?_⟩|apply τa|refine τb rfl ?_|refine ⟨⟨by kernel_rfl,by kernel_rfl⟩,?_⟩|refine ⟨by decide,?_⟩|apply τt|apply τf)))
            refine ex_yields (yields_tells rfl rfl hlg ⟨AVle.refl _, trivial⟩ (NoId.v _)) ?_
            (repeat((conv=>whnf);first|apply ω0|apply ω1|apply ω2|refine τ3 rfl ?_|refine τ4 rfl ?_|refine ⟨rfl,?_⟩|apply τa|refine τb rfl ?_|refine ⟨⟨by kernel_rfl,by kernel_rfl⟩,?_⟩|refine ⟨by decide,?_⟩|apply τt|apply τf))
            (intro c hc; obtain rfl : c = true := hc.trans (by first | exact decide_eq_true (by omega) | (simp; omega)); (repeat((conv=>whnf);first|apply ω0|apply ω1|apply ω2|refine τ3 rfl ?_|refine τ4 rfl ?_|refine ⟨rfl,?_⟩|apply τa|refine τb rfl ?_|refine ⟨⟨by kernel_rfl,by kernel_rfl⟩,?_⟩|refine ⟨by decide,?_⟩|apply τt|apply τf)))
            refine ex_yields (yields_tells rfl rfl awake_spec trivial (NoId.v _)) ?_
            (repeat((conv=>whnf);first|apply ω0|apply ω1|apply ω2|refine τ3 rfl ?_|refine τ4 rfl ?_|refine ⟨rfl,?_⟩|apply τa|refine τb rfl ?_|refine ⟨⟨by kernel_rfl,by kernel_rfl⟩,?_⟩|refine ⟨by decide,?_⟩|apply τt|apply τf))
            refine ret_is rfl rfl
    · (repeat((conv=>whnf);first|apply ω0|apply ω1|apply ω2|refine τ3 rfl ?_|refine τ4 rfl ?_|refine ⟨rfl,?_⟩|apply τa|refine τb rfl ?_|refine ⟨⟨by kernel_rfl,by kernel_rfl⟩,?_⟩|refine ⟨by decide,?_⟩|apply τt|apply τf))
      refine aop_tells rfl rfl awake_spec trivial fun nx => ?_
      (repeat((conv=>whnf);first|apply ω0|apply ω1|apply ω2|refine τ3 rfl ?_|refine τ4 rfl ?_|refine ⟨rfl,?_⟩|apply τa|refine τb rfl ?_|refine ⟨⟨by kernel_rfl,by kernel_rfl⟩,?_⟩|refine ⟨by decide,?_⟩|apply τt|apply τf))
      refine ret_is rfl rfl
  · (repeat((conv=>whnf);first|apply ω0|apply ω1|apply ω2|refine τ3 rfl ?_|refine τ4 rfl ?_|refine ⟨rfl,?_⟩|apply τa|refine τb rfl ?_|refine ⟨⟨by kernel_rfl,by kernel_rfl⟩,?_⟩|refine ⟨by decide,?_⟩|apply τt|apply τf))
    refine ret_is rfl rfl
end Go.Proofs.W
