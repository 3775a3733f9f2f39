import Derived.Test.YtgllcdchhfcoiaaS
import Derived.Test.YtgllcdchhfcoiaaF
import Derived.Test.YtgllcdchhfcoiaaX
set_option linter.unusedVariables false
set_option linter.unusedSimpArgs false
namespace Go.Proofs.W
open Go.Vl
set_option maxRecDepth 100000

def refB (s0 s1 s2 : Nat) (s : Rn) (oi : Option Nat) : List (Vl.Id × Own) := [((2, s2), .c (s.cells.map u32A)), ((1, s1), .c [u32 0, int s.steps, .os 1 s.loads.length (natF s.loads) (nmN 3 oi)]), ((0, s0), .c [u32 0, int 0, .os 0 0 (fun _ => .any) none])]
theorem c41 : Try.prog.cellsOf 41 = 1 := by kernel_rfl
theorem snoc3 {l : List Nat} {x : Int} {v s c : Nat} {f' : Nat → AV} (hx : x = (v : Nat)) (hf : f' 0 = int x) : AVle (.os 1 (l.length + 1) (appF l.length (natF l) f') (some (c, s))) (.os 1 (l ++ [v]).length (natF (l ++ [v])) (some (3, s))) :=
  (snoc_row hx hf).trans (AVle.os_nm rfl)
theorem neg32 {a : Nat} (ha : a < 4294967296) : IntKind.u32.wrap (0 - (a : Int)) = (((4294967296 - a) % 4294967296 : Nat) : Int) := by
  show (0 - (a : Int)) % 4294967296 = _
  omega
theorem xor_eq (a n : Nat) : (a ||| n) - (a &&& n) = a ^^^ n := by
  have key : ∀ k a n : Nat, a < 2 ^ k → n < 2 ^ k → (a ||| n) = (a ^^^ n) + (a &&& n) := by
    intro k
    induction k with
    | zero => intro a n ha hn; obtain rfl : a = 0 := by omega
              obtain rfl : n = 0 := by omega
              rfl
    | succ k ih =>
      intro a n ha hn
      have h := ih (a / 2) (n / 2) (by rw [Nat.pow_succ] at ha; omega) (by rw [Nat.pow_succ] at hn; omega)
      have e1 : (a ||| n) / 2 = a / 2 ||| n / 2 := by simpa using Nat.or_div_two_pow (a := a) (b := n) (n := 1)
      have e2 : (a ^^^ n) / 2 = a / 2 ^^^ n / 2 := by simpa using Nat.xor_div_two_pow (a := a) (b := n) (n := 1)
      have e3 : (a &&& n) / 2 = a / 2 &&& n / 2 := by simpa using Nat.and_div_two_pow (a := a) (b := n) (n := 1)
      have m1 : (a ||| n) % 2 = max (a % 2) (n % 2) := by
        have := Nat.or_mod_two_pow (a := a) (b := n) (n := 1)
        simp only [Nat.pow_one] at this
        rw [this]
        have ha2 : a % 2 = 0 ∨ a % 2 = 1 := by omega
        have hn2 : n % 2 = 0 ∨ n % 2 = 1 := by omega
        rcases ha2 with h1 | h1 <;> rcases hn2 with h2 | h2 <;> rw [h1, h2] <;> rfl
      have m2 : (a ^^^ n) % 2 + (a &&& n) % 2 = max (a % 2) (n % 2) := by
        have q1 := Nat.xor_mod_two_pow (a := a) (b := n) (n := 1)
        have q2 := Nat.and_mod_two_pow (a := a) (b := n) (n := 1)
        simp only [Nat.pow_one] at q1 q2
        rw [q1, q2]
        have ha2 : a % 2 = 0 ∨ a % 2 = 1 := by omega
        have hn2 : n % 2 = 0 ∨ n % 2 = 1 := by omega
        rcases ha2 with h1 | h1 <;> rcases hn2 with h2 | h2 <;> rw [h1, h2] <;> rfl
      omega
  have := key (a + n + 1) a n (by have := @Nat.lt_two_pow_self (a + n + 1); omega) (by have := @Nat.lt_two_pow_self (a + n + 1); omega)
  omega
theorem xor32 {a n : Nat} (ha : a < 4294967296) (hn : n < 4294967296) : IntKind.u32.wrap (bitsI .or .u32 (a : Int) n - bitsI .and .u32 (a : Int) n) = ((a ^^^ n : Nat) : Int) := by
  rw [u32_or' ha hn, u32_and ha hn]
  have h1 := xor_eq a n
  have h2 : a &&& n ≤ a ||| n := Nat.le_trans Nat.and_le_left Nat.left_le_or
  have h3 : a ^^^ n < 4294967296 := Nat.xor_lt_two_pow (n := 32) ha hn
  rw [show ((a ||| n : Nat) : Int) - ((a &&& n : Nat) : Int) = ((a ^^^ n : Nat) : Int) by omega]
  exact w32_id h3
theorem reck19 {a n : Nat} (h : n ≠ 0) : reckV 19 a n = some (a / n) := by simp [reckV, h]
theorem reck19z {a : Nat} : reckV 19 a 0 = none := rfl
set_option maxHeartbeats 16000000 in
theorem refrun_spec (l : List Ins) (hok : okL l) (hR : Right l) (b : List Nat) (hb : okB b) (hbl : b.length = 64) : Tells Try.prog 39 [inss l, bytesA b] (outA (runI b l).1 (runI b l).2) := by
  have hf := hR.1
  have hle := hf.le
  have hpos := hf.pos
  refine tells_of_aw Try.func39 rfl rfl fun nx => ?_
  (repeat ((conv=>whnf);first|refine ω0 ?_|refine ω1 ?_|refine ω2 ?_|refine ω3 ?_|refine ω4 rfl ?_|refine ω5 rfl ?_|refine ω6 ?_|refine ω7 ?_|refine ω8 ?_|refine ⟨rfl,?_⟩|refine ⟨trivial,?_⟩|refine ⟨⟨rfl,Nat.le_of_ble_eq_true rfl⟩,?_⟩|refine ⟨⟨by kernel_rfl,by kernel_rfl⟩,?_⟩|refine ⟨by decide,?_⟩|refine lit_true ?_|refine lit_false ?_))
  refine aw_loop (fun y : Rn × Option Nat × Nat => mk 207 [(0, inss l), (1, bytesA b), (4, .bp (0, nx) 0), (5, .bp (1, nx + 1) 0), (6, u32 y.1.a), (7, u32 y.1.x), (8, .bp (2, nx + 2) 0), (9, int y.1.at')] ⟨refB nx (nx + 1) (nx + 2) y.1 y.2.1, pmOf (nmN 3 y.2.1) (y.1.loads.length * 1), y.2.2, 4⟩)
    (fun y => RnI b l y.1 y.2.1) (fun y => l.length - y.1.at') ?_ ?_
  · exact ⟨(rn0, none, nx + 3), ⟨hpos, rn0_ok, fun _ => rfl, Nat.le_refl _, Nat.le_refl _, rfl⟩, ele_tell _ _ rfl rfl (List.Sublist.refl _) .slnil ⟨rfl, OwnLe.refl _, rfl, ⟨AVle.refl _, AVle.refl _, AVle.os_nil, trivial⟩, rfl, OwnLe.refl _, trivial⟩ trivial ⟨AVle.refl _, AVle.refl _, AVle.refl _, AVle.refl _, AVle.refl _, AVle.refl _, AVle.refl _, AVle.refl _, trivial⟩⟩
  · rintro ⟨⟨at', a, x, cells, steps, loads⟩, oi, nx2⟩ hI
    obtain ⟨i1, i2, i3, i4, i5, i6⟩ := hI
    dsimp only at i1 i3 i4 i5 i6
    have ha : a < 4294967296 := i2.a
    have hx : x < 4294967296 := i2.x
    have hcl : cells.length = 16 := i2.n
    have hki : (l.getD at' ins0).ok := hok.get i1
    have hw := hf.ok at' i1
    obtain ⟨wp1, wp2, wp3, wp4⟩ := wrong_parts hw
    have hof := refof_spec (l.getD at' ins0).code hki.1
    have hK29 := kof_le (l.getD at' ins0).code
    have hw1 : IntKind.i64.wrap ((at' : Int) + 1) = ((at' + 1 : Nat) : Int) := wrap_succ (by omega)
    have hw2 : IntKind.i64.wrap ((steps : Int) + 1) = ((steps + 1 : Nat) : Int) := wrap_succ (by omega)
    have hok1 : Rn.ok ⟨at' + 1, a, x, cells, steps + 1, loads⟩ := ⟨i2.a, i2.x, i2.n, i2.c⟩
    have hstep : stepV b l ⟨at', a, x, cells, steps, loads⟩ = doV b (l.getD at' ins0) ⟨at' + 1, a, x, cells, steps + 1, loads⟩ := rfl
    have hdok := doV_ok hb hki hok1
    have hdl := doV_loads (b := b) (i := l.getD at' ins0) (s := ⟨at' + 1, a, x, cells, steps + 1, loads⟩)
    have hgo : ∀ s', doV b (l.getD at' ins0) ⟨at' + 1, a, x, cells, steps + 1, loads⟩ = (none, s') → ∀ oi' : Option Nat, (oi' = none → s'.loads = []) → RnI b l s' oi' ∧ l.length - s'.at' < l.length - at' := fun s' hd oi' ho => by
      rw [← hstep] at hd hdok hdl
      obtain ⟨n1, n2⟩ := stepV_next hd
      obtain ⟨n3, n4⟩ := nexts_lt hf i1 _ n1
      rw [hd] at hdok hdl
      dsimp only at n2 n3 hdl hdok
      refine ⟨⟨n4, hdok, ho, by omega, by omega, ?_⟩, by omega⟩
      rw [← i6]
      obtain ⟨m, hm⟩ : ∃ m, l.length - at' = m + 1 := ⟨l.length - at' - 1, by omega⟩
      rw [hm, runV, hd]
      dsimp only
      exact (runV_more hf (l.length - s'.at') m s' n4 (by omega) (by omega)).symm
    have hover : ∀ v s', doV b (l.getD at' ins0) ⟨at' + 1, a, x, cells, steps + 1, loads⟩ = (some v, s') → runI b l = (v, s') := fun v s' hd => by
      rw [← hstep] at hd
      rw [← i6]
      obtain ⟨m, hm⟩ : ∃ m, l.length - at' = m + 1 := ⟨l.length - at' - 1, by omega⟩
      rw [hm, runV, hd]
    clear hdok hdl
    have halt : ∀ s : Rn, altV (l.getD at' ins0) s = if (kof (l.getD at' ins0).code).2 then s.x else (l.getD at' ins0).k := fun s => rfl
    unfold doV at hgo hover
    simp only [halt] at hgo hover
    clear halt
    have hk32 : (l.getD at' ins0).k < 4294967296 := hki.2.2.2
    have hjt : (l.getD at' ins0).jt < 256 := hki.2.1
    have hjf : (l.getD at' ins0).jf < 256 := hki.2.2.1
    have wk : IntKind.i64.wrap ((l.getD at' ins0).k : Int) = ((l.getD at' ins0).k : Nat) := wrap_id (by omega) (by omega)
    have wjt : IntKind.i64.wrap ((l.getD at' ins0).jt : Int) = ((l.getD at' ins0).jt : Nat) := wrap_id (by omega) (by omega)
    have wjf : IntKind.i64.wrap ((l.getD at' ins0).jf : Int) = ((l.getD at' ins0).jf : Nat) := wrap_id (by omega) (by omega)
    generalize (kof (l.getD at' ins0).code).1 = K at *
    generalize (kof (l.getD at' ins0).code).2 = z at *
    (repeat ((conv=>whnf);first|refine ω0 ?_|refine ω1 ?_|refine ω2 ?_|refine ω3 ?_|refine ω4 rfl ?_|refine ω5 rfl ?_|refine ω6 ?_|refine ω7 ?_|refine ω8 ?_|refine ⟨rfl,?_⟩|refine ⟨trivial,?_⟩|refine ⟨⟨rfl,Nat.le_of_ble_eq_true rfl⟩,?_⟩|refine ⟨⟨by kernel_rfl,by kernel_rfl⟩,?_⟩|refine ⟨by decide,?_⟩|refine lit_true ?_|refine lit_false ?_))
    intro c g1; cases c
    · exact absurd (not_of g1) (by dsimp only; omega)
    (repeat ((conv=>whnf);first|refine ω0 ?_|refine ω1 ?_|refine ω2 ?_|refine ω3 ?_|refine ω4 rfl ?_|refine ω5 rfl ?_|refine ω6 ?_|refine ω7 ?_|refine ω8 ?_|refine ⟨rfl,?_⟩|refine ⟨trivial,?_⟩|refine ⟨⟨rfl,Nat.le_of_ble_eq_true rfl⟩,?_⟩|refine ⟨⟨by kernel_rfl,by kernel_rfl⟩,?_⟩|refine ⟨by decide,?_⟩|refine lit_true ?_|refine lit_false ?_))
    refine ⟨⟨by first | omega | (dsimp only; omega), by first | omega | (dsimp only; omega)⟩, ?_⟩
    (repeat ((conv=>whnf);first|refine ω0 ?_|refine ω1 ?_|refine ω2 ?_|refine ω3 ?_|refine ω4 rfl ?_|refine ω5 rfl ?_|refine ω6 ?_|refine ω7 ?_|refine ω8 ?_|refine ⟨rfl,?_⟩|refine ⟨trivial,?_⟩|refine ⟨⟨rfl,Nat.le_of_ble_eq_true rfl⟩,?_⟩|refine ⟨⟨by kernel_rfl,by kernel_rfl⟩,?_⟩|refine ⟨by decide,?_⟩|refine lit_true ?_|refine lit_false ?_))
    refine aop_tells rfl rfl hof ⟨AVle.refl _, trivial⟩ fun nx3 => ?_
    (repeat ((conv=>whnf);first|refine ω0 ?_|refine ω1 ?_|refine ω2 ?_|refine ω3 ?_|refine ω4 rfl ?_|refine ω5 rfl ?_|refine ω6 ?_|refine ω7 ?_|refine ω8 ?_|refine ⟨rfl,?_⟩|refine ⟨trivial,?_⟩|refine ⟨⟨rfl,Nat.le_of_ble_eq_true rfl⟩,?_⟩|refine ⟨⟨by kernel_rfl,by kernel_rfl⟩,?_⟩|refine ⟨by decide,?_⟩|refine lit_true ?_|refine lit_false ?_))
    intro cx hx
    obtain rfl : cx = z := hx
    (repeat ((conv=>whnf);first|refine ω0 ?_|refine ω1 ?_|refine ω2 ?_|refine ω3 ?_|refine ω4 rfl ?_|refine ω5 rfl ?_|refine ω6 ?_|refine ω7 ?_|refine ω8 ?_|refine ⟨rfl,?_⟩|refine ⟨trivial,?_⟩|refine ⟨⟨rfl,Nat.le_of_ble_eq_true rfl⟩,?_⟩|refine ⟨⟨by kernel_rfl,by kernel_rfl⟩,?_⟩|refine ⟨by decide,?_⟩|refine lit_true ?_|refine lit_false ?_))
    (refine aw_draw 6 ?_ ?_ ?_ ?_; (· kernel_rfl); (· kernel_rfl); (· kernel_rfl))
    (repeat ((conv=>whnf);first|refine ω0 ?_|refine ω1 ?_|refine ω2 ?_|refine ω3 ?_|refine ω4 rfl ?_|refine ω5 rfl ?_|refine ω6 ?_|refine ω7 ?_|refine ω8 ?_|refine ⟨rfl,?_⟩|refine ⟨trivial,?_⟩|refine ⟨⟨rfl,Nat.le_of_ble_eq_true rfl⟩,?_⟩|refine ⟨⟨by kernel_rfl,by kernel_rfl⟩,?_⟩|refine ⟨by decide,?_⟩|refine lit_true ?_|refine lit_false ?_))
    cases cx
    · rcases (by omega : K = 0 ∨ K = 1 ∨ K = 2 ∨ K = 3 ∨ K = 4 ∨ K = 5 ∨ K = 6 ∨ K = 7 ∨ K = 8 ∨ K = 9 ∨ K = 10 ∨ K = 11 ∨ K = 12 ∨ K = 13 ∨ K = 14 ∨ K = 15 ∨ K = 16 ∨ K = 17 ∨ K = 18 ∨ K = 19 ∨ K = 20 ∨ K = 21 ∨ K = 22 ∨ K = 23 ∨ K = 24 ∨ K = 25 ∨ K = 26 ∨ K = 27 ∨ K = 28) with rfl | rfl | rfl | rfl | rfl | rfl | rfl | rfl | rfl | rfl | rfl | rfl | rfl | rfl | rfl | rfl | rfl | rfl | rfl | rfl | rfl | rfl | rfl | rfl | rfl | rfl | rfl | rfl | rfl
      · exact absurd rfl wp1
      · (repeat ((conv=>whnf);first|refine ω0 ?_|refine ω1 ?_|refine ω2 ?_|refine ω3 ?_|refine ω4 rfl ?_|refine ω5 rfl ?_|refine ω6 ?_|refine ω7 ?_|refine ω8 ?_|refine ⟨rfl,?_⟩|refine ⟨trivial,?_⟩|refine ⟨⟨rfl,Nat.le_of_ble_eq_true rfl⟩,?_⟩|refine ⟨⟨by kernel_rfl,by kernel_rfl⟩,?_⟩|refine ⟨by decide,?_⟩|refine lit_true ?_|refine lit_false ?_))
        refine aop_tells rfl rfl (word_spec b hb (by omega) (l.getD at' ins0).k (by omega)) ⟨AVle.refl _, le_int wk, trivial⟩ fun nx4 => ?_
        rcases oi with _ | id
        · obtain rfl := i3 rfl
          (repeat ((conv=>whnf);first|refine ω0 ?_|refine ω1 ?_|refine ω2 ?_|refine ω3 ?_|refine ω4 rfl ?_|refine ω5 rfl ?_|refine ω6 ?_|refine ω7 ?_|refine ω8 ?_|refine ⟨rfl,?_⟩|refine ⟨trivial,?_⟩|refine ⟨⟨rfl,Nat.le_of_ble_eq_true rfl⟩,?_⟩|refine ⟨⟨by kernel_rfl,by kernel_rfl⟩,?_⟩|refine ⟨by decide,?_⟩|refine lit_true ?_|refine lit_false ?_))
          refine ⟨oneRow_one rfl, by show (0 + 1) * 8 ≤ _; omega, by dsimp only; omega, ?_⟩
          (repeat ((conv=>whnf);first|refine ω0 ?_|refine ω1 ?_|refine ω2 ?_|refine ω3 ?_|refine ω4 rfl ?_|refine ω5 rfl ?_|refine ω6 ?_|refine ω7 ?_|refine ω8 ?_|refine ⟨rfl,?_⟩|refine ⟨trivial,?_⟩|refine ⟨⟨rfl,Nat.le_of_ble_eq_true rfl⟩,?_⟩|refine ⟨⟨by kernel_rfl,by kernel_rfl⟩,?_⟩|refine ⟨by decide,?_⟩|refine lit_true ?_|refine lit_false ?_))
          exact back (⟨at' + 1, wordL b (l.getD at' ins0).k, x, cells, steps + 1, [] ++ [(l.getD at' ins0).k]⟩, some nx4, _) (hgo _ rfl _ (fun h => by cases h)).1 (hgo _ rfl (some nx4) (fun h => by cases h)).2 (ele_tell _ _ rfl rfl (.cons _ (List.Sublist.refl _)) (List.Sublist.refl _) ⟨rfl, OwnLe.refl _, rfl, ⟨AVle.refl _, le_int hw2, snoc3 (l := []) wk rfl, trivial⟩, rfl, OwnLe.refl _, trivial⟩ ⟨rfl, by rw [c3]; simp, trivial⟩ ⟨AVle.refl _, AVle.refl _, AVle.refl _, AVle.refl _, AVle.refl _, AVle.refl _, AVle.refl _, le_int hw1, trivial⟩)
        · skip
          (repeat ((conv=>whnf);first|refine ω0 ?_|refine ω1 ?_|refine ω2 ?_|refine ω3 ?_|refine ω4 rfl ?_|refine ω5 rfl ?_|refine ω6 ?_|refine ω7 ?_|refine ω8 ?_|refine ⟨rfl,?_⟩|refine ⟨trivial,?_⟩|refine ⟨⟨rfl,Nat.le_of_ble_eq_true rfl⟩,?_⟩|refine ⟨⟨by kernel_rfl,by kernel_rfl⟩,?_⟩|refine ⟨by decide,?_⟩|refine lit_true ?_|refine lit_false ?_))
          refine ⟨oneRow_one rfl, by show (loads.length + 1) * 8 ≤ _; omega, by dsimp only; omega, ?_⟩
          (repeat ((conv=>whnf);first|refine ω0 ?_|refine ω1 ?_|refine ω2 ?_|refine ω3 ?_|refine ω4 rfl ?_|refine ω5 rfl ?_|refine ω6 ?_|refine ω7 ?_|refine ω8 ?_|refine ⟨rfl,?_⟩|refine ⟨trivial,?_⟩|refine ⟨⟨rfl,Nat.le_of_ble_eq_true rfl⟩,?_⟩|refine ⟨⟨by kernel_rfl,by kernel_rfl⟩,?_⟩|refine ⟨by decide,?_⟩|refine lit_true ?_|refine lit_false ?_))
          exact back (⟨at' + 1, wordL b (l.getD at' ins0).k, x, cells, steps + 1, loads ++ [(l.getD at' ins0).k]⟩, some nx4, _) (hgo _ rfl _ (fun h => by cases h)).1 (hgo _ rfl (some nx4) (fun h => by cases h)).2 (ele_tell _ _ rfl rfl (.cons _ (List.Sublist.refl _)) (List.Sublist.refl _) ⟨rfl, OwnLe.refl _, rfl, ⟨AVle.refl _, le_int hw2, snoc3 (l := loads) wk rfl, trivial⟩, rfl, OwnLe.refl _, trivial⟩ ⟨rfl, by rw [c3]; simp, trivial⟩ ⟨AVle.refl _, AVle.refl _, AVle.refl _, AVle.refl _, AVle.refl _, AVle.refl _, AVle.refl _, le_int hw1, trivial⟩)
      · (repeat ((conv=>whnf);first|refine ω0 ?_|refine ω1 ?_|refine ω2 ?_|refine ω3 ?_|refine ω4 rfl ?_|refine ω5 rfl ?_|refine ω6 ?_|refine ω7 ?_|refine ω8 ?_|refine ⟨rfl,?_⟩|refine ⟨trivial,?_⟩|refine ⟨⟨rfl,Nat.le_of_ble_eq_true rfl⟩,?_⟩|refine ⟨⟨by kernel_rfl,by kernel_rfl⟩,?_⟩|refine ⟨by decide,?_⟩|refine lit_true ?_|refine lit_false ?_))
        exact back (⟨at' + 1, (l.getD at' ins0).k, x, cells, steps + 1, loads⟩, oi, _) (hgo _ rfl _ i3).1 (hgo _ rfl (oi) i3).2 (ele_tell _ _ rfl rfl (.cons _ (List.Sublist.refl _)) (List.Sublist.refl _) ⟨rfl, OwnLe.refl _, rfl, ⟨AVle.refl _, le_int hw2, AVle.refl _, trivial⟩, rfl, OwnLe.refl _, trivial⟩ (PmEq.refl _) ⟨AVle.refl _, AVle.refl _, AVle.refl _, AVle.refl _, AVle.refl _, AVle.refl _, AVle.refl _, le_int hw1, trivial⟩)
      · (repeat ((conv=>whnf);first|refine ω0 ?_|refine ω1 ?_|refine ω2 ?_|refine ω3 ?_|refine ω4 rfl ?_|refine ω5 rfl ?_|refine ω6 ?_|refine ω7 ?_|refine ω8 ?_|refine ⟨rfl,?_⟩|refine ⟨trivial,?_⟩|refine ⟨⟨rfl,Nat.le_of_ble_eq_true rfl⟩,?_⟩|refine ⟨⟨by kernel_rfl,by kernel_rfl⟩,?_⟩|refine ⟨by decide,?_⟩|refine lit_true ?_|refine lit_false ?_))
        have h16 : (l.getD at' ins0).k < 16 := by omega
        refine ⟨⟨Int.natCast_nonneg _, Int.ofNat_lt.2 h16⟩, splitO_eq (b := .bp (2, nx + 2) ((l.getD at' ins0).k)) (congrArg (AV.bp (2, nx + 2)) (ix1 c41)) ?_⟩
        (conv => whnf)
        refine ⟨⟨rfl, (by first | omega | (simp only [List.length_map, List.length_set, List.length_cons, List.length_nil, List.length_replicate, List.length_append]; omega))⟩, splitO_eq (b := u32A (cells.getD ((l.getD at' ins0).k) 0)) (getD_map (show (l.getD at' ins0).k < cells.length by omega)) ?_⟩
        (repeat ((conv=>whnf);first|refine ω0 ?_|refine ω1 ?_|refine ω2 ?_|refine ω3 ?_|refine ω4 rfl ?_|refine ω5 rfl ?_|refine ω6 ?_|refine ω7 ?_|refine ω8 ?_|refine ⟨rfl,?_⟩|refine ⟨trivial,?_⟩|refine ⟨⟨rfl,Nat.le_of_ble_eq_true rfl⟩,?_⟩|refine ⟨⟨by kernel_rfl,by kernel_rfl⟩,?_⟩|refine ⟨by decide,?_⟩|refine lit_true ?_|refine lit_false ?_))
        exact back (⟨at' + 1, cells.getD (l.getD at' ins0).k 0, x, cells, steps + 1, loads⟩, oi, _) (hgo _ rfl _ i3).1 (hgo _ rfl (oi) i3).2 (ele_tell _ _ rfl rfl (.cons _ (List.Sublist.refl _)) (List.Sublist.refl _) ⟨rfl, OwnLe.refl _, rfl, ⟨AVle.refl _, le_int hw2, AVle.refl _, trivial⟩, rfl, OwnLe.refl _, trivial⟩ (PmEq.refl _) ⟨AVle.refl _, AVle.refl _, AVle.refl _, AVle.refl _, AVle.refl _, AVle.refl _, AVle.refl _, le_int hw1, trivial⟩)
      · (repeat ((conv=>whnf);first|refine ω0 ?_|refine ω1 ?_|refine ω2 ?_|refine ω3 ?_|refine ω4 rfl ?_|refine ω5 rfl ?_|refine ω6 ?_|refine ω7 ?_|refine ω8 ?_|refine ⟨rfl,?_⟩|refine ⟨trivial,?_⟩|refine ⟨⟨rfl,Nat.le_of_ble_eq_true rfl⟩,?_⟩|refine ⟨⟨by kernel_rfl,by kernel_rfl⟩,?_⟩|refine ⟨by decide,?_⟩|refine lit_true ?_|refine lit_false ?_))
        exact back (⟨at' + 1, 64, x, cells, steps + 1, loads⟩, oi, _) (hgo _ rfl _ i3).1 (hgo _ rfl (oi) i3).2 (ele_tell _ _ rfl rfl (.cons _ (List.Sublist.refl _)) (List.Sublist.refl _) ⟨rfl, OwnLe.refl _, rfl, ⟨AVle.refl _, le_int hw2, AVle.refl _, trivial⟩, rfl, OwnLe.refl _, trivial⟩ (PmEq.refl _) ⟨AVle.refl _, AVle.refl _, AVle.refl _, AVle.refl _, AVle.refl _, AVle.refl _, AVle.refl _, le_int hw1, trivial⟩)
      · (repeat ((conv=>whnf);first|refine ω0 ?_|refine ω1 ?_|refine ω2 ?_|refine ω3 ?_|refine ω4 rfl ?_|refine ω5 rfl ?_|refine ω6 ?_|refine ω7 ?_|refine ω8 ?_|refine ⟨rfl,?_⟩|refine ⟨trivial,?_⟩|refine ⟨⟨rfl,Nat.le_of_ble_eq_true rfl⟩,?_⟩|refine ⟨⟨by kernel_rfl,by kernel_rfl⟩,?_⟩|refine ⟨by decide,?_⟩|refine lit_true ?_|refine lit_false ?_))
        exact back (⟨at' + 1, a, (l.getD at' ins0).k, cells, steps + 1, loads⟩, oi, _) (hgo _ rfl _ i3).1 (hgo _ rfl (oi) i3).2 (ele_tell _ _ rfl rfl (.cons _ (List.Sublist.refl _)) (List.Sublist.refl _) ⟨rfl, OwnLe.refl _, rfl, ⟨AVle.refl _, le_int hw2, AVle.refl _, trivial⟩, rfl, OwnLe.refl _, trivial⟩ (PmEq.refl _) ⟨AVle.refl _, AVle.refl _, AVle.refl _, AVle.refl _, AVle.refl _, AVle.refl _, AVle.refl _, le_int hw1, trivial⟩)
      · (repeat ((conv=>whnf);first|refine ω0 ?_|refine ω1 ?_|refine ω2 ?_|refine ω3 ?_|refine ω4 rfl ?_|refine ω5 rfl ?_|refine ω6 ?_|refine ω7 ?_|refine ω8 ?_|refine ⟨rfl,?_⟩|refine ⟨trivial,?_⟩|refine ⟨⟨rfl,Nat.le_of_ble_eq_true rfl⟩,?_⟩|refine ⟨⟨by kernel_rfl,by kernel_rfl⟩,?_⟩|refine ⟨by decide,?_⟩|refine lit_true ?_|refine lit_false ?_))
        have h16 : (l.getD at' ins0).k < 16 := by omega
        refine ⟨⟨Int.natCast_nonneg _, Int.ofNat_lt.2 h16⟩, splitO_eq (b := .bp (2, nx + 2) ((l.getD at' ins0).k)) (congrArg (AV.bp (2, nx + 2)) (ix1 c41)) ?_⟩
        (conv => whnf)
        refine ⟨⟨rfl, (by first | omega | (simp only [List.length_map, List.length_set, List.length_cons, List.length_nil, List.length_replicate, List.length_append]; omega))⟩, splitO_eq (b := u32A (cells.getD ((l.getD at' ins0).k) 0)) (getD_map (show (l.getD at' ins0).k < cells.length by omega)) ?_⟩
        (repeat ((conv=>whnf);first|refine ω0 ?_|refine ω1 ?_|refine ω2 ?_|refine ω3 ?_|refine ω4 rfl ?_|refine ω5 rfl ?_|refine ω6 ?_|refine ω7 ?_|refine ω8 ?_|refine ⟨rfl,?_⟩|refine ⟨trivial,?_⟩|refine ⟨⟨rfl,Nat.le_of_ble_eq_true rfl⟩,?_⟩|refine ⟨⟨by kernel_rfl,by kernel_rfl⟩,?_⟩|refine ⟨by decide,?_⟩|refine lit_true ?_|refine lit_false ?_))
        exact back (⟨at' + 1, a, cells.getD (l.getD at' ins0).k 0, cells, steps + 1, loads⟩, oi, _) (hgo _ rfl _ i3).1 (hgo _ rfl (oi) i3).2 (ele_tell _ _ rfl rfl (.cons _ (List.Sublist.refl _)) (List.Sublist.refl _) ⟨rfl, OwnLe.refl _, rfl, ⟨AVle.refl _, le_int hw2, AVle.refl _, trivial⟩, rfl, OwnLe.refl _, trivial⟩ (PmEq.refl _) ⟨AVle.refl _, AVle.refl _, AVle.refl _, AVle.refl _, AVle.refl _, AVle.refl _, AVle.refl _, le_int hw1, trivial⟩)
      · (repeat ((conv=>whnf);first|refine ω0 ?_|refine ω1 ?_|refine ω2 ?_|refine ω3 ?_|refine ω4 rfl ?_|refine ω5 rfl ?_|refine ω6 ?_|refine ω7 ?_|refine ω8 ?_|refine ⟨rfl,?_⟩|refine ⟨trivial,?_⟩|refine ⟨⟨rfl,Nat.le_of_ble_eq_true rfl⟩,?_⟩|refine ⟨⟨by kernel_rfl,by kernel_rfl⟩,?_⟩|refine ⟨by decide,?_⟩|refine lit_true ?_|refine lit_false ?_))
        exact back (⟨at' + 1, a, 64, cells, steps + 1, loads⟩, oi, _) (hgo _ rfl _ i3).1 (hgo _ rfl (oi) i3).2 (ele_tell _ _ rfl rfl (.cons _ (List.Sublist.refl _)) (List.Sublist.refl _) ⟨rfl, OwnLe.refl _, rfl, ⟨AVle.refl _, le_int hw2, AVle.refl _, trivial⟩, rfl, OwnLe.refl _, trivial⟩ (PmEq.refl _) ⟨AVle.refl _, AVle.refl _, AVle.refl _, AVle.refl _, AVle.refl _, AVle.refl _, AVle.refl _, le_int hw1, trivial⟩)
      · (repeat ((conv=>whnf);first|refine ω0 ?_|refine ω1 ?_|refine ω2 ?_|refine ω3 ?_|refine ω4 rfl ?_|refine ω5 rfl ?_|refine ω6 ?_|refine ω7 ?_|refine ω8 ?_|refine ⟨rfl,?_⟩|refine ⟨trivial,?_⟩|refine ⟨⟨rfl,Nat.le_of_ble_eq_true rfl⟩,?_⟩|refine ⟨⟨by kernel_rfl,by kernel_rfl⟩,?_⟩|refine ⟨by decide,?_⟩|refine lit_true ?_|refine lit_false ?_))
        have h16 : (l.getD at' ins0).k < 16 := by omega
        refine ⟨⟨Int.natCast_nonneg _, Int.ofNat_lt.2 h16⟩, splitO_eq (b := .bp (2, nx + 2) ((l.getD at' ins0).k)) (congrArg (AV.bp (2, nx + 2)) (ix1 c41)) ?_⟩
        (conv => whnf)
        refine ⟨⟨rfl, (by first | omega | (simp only [List.length_map, List.length_set, List.length_cons, List.length_nil, List.length_replicate, List.length_append]; omega))⟩, ?_⟩
        rw [show splice (cells.map u32A) ((l.getD at' ins0).k) [AV.v (.int .u32 (a : Nat))] = (cells.set ((l.getD at' ins0).k) (a)).map u32A from splice_one (f := u32A) (x := a) (show (l.getD at' ins0).k < cells.length by omega)]
        (repeat ((conv=>whnf);first|refine ω0 ?_|refine ω1 ?_|refine ω2 ?_|refine ω3 ?_|refine ω4 rfl ?_|refine ω5 rfl ?_|refine ω6 ?_|refine ω7 ?_|refine ω8 ?_|refine ⟨rfl,?_⟩|refine ⟨trivial,?_⟩|refine ⟨⟨rfl,Nat.le_of_ble_eq_true rfl⟩,?_⟩|refine ⟨⟨by kernel_rfl,by kernel_rfl⟩,?_⟩|refine ⟨by decide,?_⟩|refine lit_true ?_|refine lit_false ?_))
        exact back (⟨at' + 1, a, x, cells.set (l.getD at' ins0).k a, steps + 1, loads⟩, oi, _) (hgo _ rfl _ i3).1 (hgo _ rfl (oi) i3).2 (ele_tell _ _ rfl rfl (.cons _ (List.Sublist.refl _)) (List.Sublist.refl _) ⟨rfl, OwnLe.refl _, rfl, ⟨AVle.refl _, le_int hw2, AVle.refl _, trivial⟩, rfl, OwnLe.refl _, trivial⟩ (PmEq.refl _) ⟨AVle.refl _, AVle.refl _, AVle.refl _, AVle.refl _, AVle.refl _, AVle.refl _, AVle.refl _, le_int hw1, trivial⟩)
      · (repeat ((conv=>whnf);first|refine ω0 ?_|refine ω1 ?_|refine ω2 ?_|refine ω3 ?_|refine ω4 rfl ?_|refine ω5 rfl ?_|refine ω6 ?_|refine ω7 ?_|refine ω8 ?_|refine ⟨rfl,?_⟩|refine ⟨trivial,?_⟩|refine ⟨⟨rfl,Nat.le_of_ble_eq_true rfl⟩,?_⟩|refine ⟨⟨by kernel_rfl,by kernel_rfl⟩,?_⟩|refine ⟨by decide,?_⟩|refine lit_true ?_|refine lit_false ?_))
        have h16 : (l.getD at' ins0).k < 16 := by omega
        refine ⟨⟨Int.natCast_nonneg _, Int.ofNat_lt.2 h16⟩, splitO_eq (b := .bp (2, nx + 2) ((l.getD at' ins0).k)) (congrArg (AV.bp (2, nx + 2)) (ix1 c41)) ?_⟩
        (conv => whnf)
        refine ⟨⟨rfl, (by first | omega | (simp only [List.length_map, List.length_set, List.length_cons, List.length_nil, List.length_replicate, List.length_append]; omega))⟩, ?_⟩
        rw [show splice (cells.map u32A) ((l.getD at' ins0).k) [AV.v (.int .u32 (x : Nat))] = (cells.set ((l.getD at' ins0).k) (x)).map u32A from splice_one (f := u32A) (x := x) (show (l.getD at' ins0).k < cells.length by omega)]
        (repeat ((conv=>whnf);first|refine ω0 ?_|refine ω1 ?_|refine ω2 ?_|refine ω3 ?_|refine ω4 rfl ?_|refine ω5 rfl ?_|refine ω6 ?_|refine ω7 ?_|refine ω8 ?_|refine ⟨rfl,?_⟩|refine ⟨trivial,?_⟩|refine ⟨⟨rfl,Nat.le_of_ble_eq_true rfl⟩,?_⟩|refine ⟨⟨by kernel_rfl,by kernel_rfl⟩,?_⟩|refine ⟨by decide,?_⟩|refine lit_true ?_|refine lit_false ?_))
        exact back (⟨at' + 1, a, x, cells.set (l.getD at' ins0).k x, steps + 1, loads⟩, oi, _) (hgo _ rfl _ i3).1 (hgo _ rfl (oi) i3).2 (ele_tell _ _ rfl rfl (.cons _ (List.Sublist.refl _)) (List.Sublist.refl _) ⟨rfl, OwnLe.refl _, rfl, ⟨AVle.refl _, le_int hw2, AVle.refl _, trivial⟩, rfl, OwnLe.refl _, trivial⟩ (PmEq.refl _) ⟨AVle.refl _, AVle.refl _, AVle.refl _, AVle.refl _, AVle.refl _, AVle.refl _, AVle.refl _, le_int hw1, trivial⟩)
      · (repeat ((conv=>whnf);first|refine ω0 ?_|refine ω1 ?_|refine ω2 ?_|refine ω3 ?_|refine ω4 rfl ?_|refine ω5 rfl ?_|refine ω6 ?_|refine ω7 ?_|refine ω8 ?_|refine ⟨rfl,?_⟩|refine ⟨trivial,?_⟩|refine ⟨⟨rfl,Nat.le_of_ble_eq_true rfl⟩,?_⟩|refine ⟨⟨by kernel_rfl,by kernel_rfl⟩,?_⟩|refine ⟨by decide,?_⟩|refine lit_true ?_|refine lit_false ?_))
        exact back (⟨at' + 1, a, a, cells, steps + 1, loads⟩, oi, _) (hgo _ rfl _ i3).1 (hgo _ rfl (oi) i3).2 (ele_tell _ _ rfl rfl (.cons _ (List.Sublist.refl _)) (List.Sublist.refl _) ⟨rfl, OwnLe.refl _, rfl, ⟨AVle.refl _, le_int hw2, AVle.refl _, trivial⟩, rfl, OwnLe.refl _, trivial⟩ (PmEq.refl _) ⟨AVle.refl _, AVle.refl _, AVle.refl _, AVle.refl _, AVle.refl _, AVle.refl _, AVle.refl _, le_int hw1, trivial⟩)
      · (repeat ((conv=>whnf);first|refine ω0 ?_|refine ω1 ?_|refine ω2 ?_|refine ω3 ?_|refine ω4 rfl ?_|refine ω5 rfl ?_|refine ω6 ?_|refine ω7 ?_|refine ω8 ?_|refine ⟨rfl,?_⟩|refine ⟨trivial,?_⟩|refine ⟨⟨rfl,Nat.le_of_ble_eq_true rfl⟩,?_⟩|refine ⟨⟨by kernel_rfl,by kernel_rfl⟩,?_⟩|refine ⟨by decide,?_⟩|refine lit_true ?_|refine lit_false ?_))
        exact back (⟨at' + 1, x, x, cells, steps + 1, loads⟩, oi, _) (hgo _ rfl _ i3).1 (hgo _ rfl (oi) i3).2 (ele_tell _ _ rfl rfl (.cons _ (List.Sublist.refl _)) (List.Sublist.refl _) ⟨rfl, OwnLe.refl _, rfl, ⟨AVle.refl _, le_int hw2, AVle.refl _, trivial⟩, rfl, OwnLe.refl _, trivial⟩ (PmEq.refl _) ⟨AVle.refl _, AVle.refl _, AVle.refl _, AVle.refl _, AVle.refl _, AVle.refl _, AVle.refl _, le_int hw1, trivial⟩)
      · (repeat ((conv=>whnf);first|refine ω0 ?_|refine ω1 ?_|refine ω2 ?_|refine ω3 ?_|refine ω4 rfl ?_|refine ω5 rfl ?_|refine ω6 ?_|refine ω7 ?_|refine ω8 ?_|refine ⟨rfl,?_⟩|refine ⟨trivial,?_⟩|refine ⟨⟨rfl,Nat.le_of_ble_eq_true rfl⟩,?_⟩|refine ⟨⟨by kernel_rfl,by kernel_rfl⟩,?_⟩|refine ⟨by decide,?_⟩|refine lit_true ?_|refine lit_false ?_))
        exact back (⟨at' + 1, (4294967296 - a) % 4294967296, x, cells, steps + 1, loads⟩, oi, _) (hgo _ rfl _ i3).1 (hgo _ rfl (oi) i3).2 (ele_tell _ _ rfl rfl (.cons _ (List.Sublist.refl _)) (List.Sublist.refl _) ⟨rfl, OwnLe.refl _, rfl, ⟨AVle.refl _, le_int hw2, AVle.refl _, trivial⟩, rfl, OwnLe.refl _, trivial⟩ (PmEq.refl _) ⟨AVle.refl _, AVle.refl _, AVle.refl _, AVle.refl _, le_int (neg32 ha), AVle.refl _, AVle.refl _, le_int hw1, trivial⟩)
      · (repeat ((conv=>whnf);first|refine ω0 ?_|refine ω1 ?_|refine ω2 ?_|refine ω3 ?_|refine ω4 rfl ?_|refine ω5 rfl ?_|refine ω6 ?_|refine ω7 ?_|refine ω8 ?_|refine ⟨rfl,?_⟩|refine ⟨trivial,?_⟩|refine ⟨⟨rfl,Nat.le_of_ble_eq_true rfl⟩,?_⟩|refine ⟨⟨by kernel_rfl,by kernel_rfl⟩,?_⟩|refine ⟨by decide,?_⟩|refine lit_true ?_|refine lit_false ?_))
        exact back (⟨at' + 1 + (l.getD at' ins0).k, a, x, cells, steps + 1, loads⟩, oi, _) (hgo _ rfl _ i3).1 (hgo _ rfl (oi) i3).2 (ele_tell _ _ rfl rfl (.cons _ (List.Sublist.refl _)) (List.Sublist.refl _) ⟨rfl, OwnLe.refl _, rfl, ⟨AVle.refl _, le_int hw2, AVle.refl _, trivial⟩, rfl, OwnLe.refl _, trivial⟩ (PmEq.refl _) ⟨AVle.refl _, AVle.refl _, AVle.refl _, AVle.refl _, AVle.refl _, AVle.refl _, AVle.refl _, le_int (wrap_two (n := at') (k := (l.getD at' ins0).k) (by omega)), trivial⟩)
      · rw [hover _ _ rfl]
        (repeat ((conv=>whnf);first|refine ω0 ?_|refine ω1 ?_|refine ω2 ?_|refine ω3 ?_|refine ω4 rfl ?_|refine ω5 rfl ?_|refine ω6 ?_|refine ω7 ?_|refine ω8 ?_|refine ⟨rfl,?_⟩|refine ⟨trivial,?_⟩|refine ⟨⟨rfl,Nat.le_of_ble_eq_true rfl⟩,?_⟩|refine ⟨⟨by kernel_rfl,by kernel_rfl⟩,?_⟩|refine ⟨by decide,?_⟩|refine lit_true ?_|refine lit_false ?_))
        refine ret_tells_all rfl ?_ ?_
        · exact ⟨rfl, trivial⟩
        · exact AVle.ags (cs := [_, _, _]) ⟨AVle.refl _, le_int hw2, AVle.os_sl, trivial⟩
      · rw [hover _ _ rfl]
        (repeat ((conv=>whnf);first|refine ω0 ?_|refine ω1 ?_|refine ω2 ?_|refine ω3 ?_|refine ω4 rfl ?_|refine ω5 rfl ?_|refine ω6 ?_|refine ω7 ?_|refine ω8 ?_|refine ⟨rfl,?_⟩|refine ⟨trivial,?_⟩|refine ⟨⟨rfl,Nat.le_of_ble_eq_true rfl⟩,?_⟩|refine ⟨⟨by kernel_rfl,by kernel_rfl⟩,?_⟩|refine ⟨by decide,?_⟩|refine lit_true ?_|refine lit_false ?_))
        refine ret_tells_all rfl ?_ ?_
        · exact ⟨rfl, trivial⟩
        · exact AVle.ags (cs := [_, _, _]) ⟨AVle.refl _, le_int hw2, AVle.os_sl, trivial⟩
      · (repeat ((conv=>whnf);first|refine ω0 ?_|refine ω1 ?_|refine ω2 ?_|refine ω3 ?_|refine ω4 rfl ?_|refine ω5 rfl ?_|refine ω6 ?_|refine ω7 ?_|refine ω8 ?_|refine ⟨rfl,?_⟩|refine ⟨trivial,?_⟩|refine ⟨⟨rfl,Nat.le_of_ble_eq_true rfl⟩,?_⟩|refine ⟨⟨by kernel_rfl,by kernel_rfl⟩,?_⟩|refine ⟨by decide,?_⟩|refine lit_true ?_|refine lit_false ?_))
        exact back (⟨at' + 1, (a + (l.getD at' ins0).k) % 4294967296, x, cells, steps + 1, loads⟩, oi, _) (hgo _ rfl _ i3).1 (hgo _ rfl (oi) i3).2 (ele_tell _ _ rfl rfl (.cons _ (List.Sublist.refl _)) (List.Sublist.refl _) ⟨rfl, OwnLe.refl _, rfl, ⟨AVle.refl _, le_int hw2, AVle.refl _, trivial⟩, rfl, OwnLe.refl _, trivial⟩ (PmEq.refl _) ⟨AVle.refl _, AVle.refl _, AVle.refl _, AVle.refl _, le_int (add32 _ _), AVle.refl _, AVle.refl _, le_int hw1, trivial⟩)
      · (repeat ((conv=>whnf);first|refine ω0 ?_|refine ω1 ?_|refine ω2 ?_|refine ω3 ?_|refine ω4 rfl ?_|refine ω5 rfl ?_|refine ω6 ?_|refine ω7 ?_|refine ω8 ?_|refine ⟨rfl,?_⟩|refine ⟨trivial,?_⟩|refine ⟨⟨rfl,Nat.le_of_ble_eq_true rfl⟩,?_⟩|refine ⟨⟨by kernel_rfl,by kernel_rfl⟩,?_⟩|refine ⟨by decide,?_⟩|refine lit_true ?_|refine lit_false ?_))
        exact back (⟨at' + 1, (a + 4294967296 - (l.getD at' ins0).k) % 4294967296, x, cells, steps + 1, loads⟩, oi, _) (hgo _ rfl _ i3).1 (hgo _ rfl (oi) i3).2 (ele_tell _ _ rfl rfl (.cons _ (List.Sublist.refl _)) (List.Sublist.refl _) ⟨rfl, OwnLe.refl _, rfl, ⟨AVle.refl _, le_int hw2, AVle.refl _, trivial⟩, rfl, OwnLe.refl _, trivial⟩ (PmEq.refl _) ⟨AVle.refl _, AVle.refl _, AVle.refl _, AVle.refl _, le_int (sub32 hk32), AVle.refl _, AVle.refl _, le_int hw1, trivial⟩)
      · (repeat ((conv=>whnf);first|refine ω0 ?_|refine ω1 ?_|refine ω2 ?_|refine ω3 ?_|refine ω4 rfl ?_|refine ω5 rfl ?_|refine ω6 ?_|refine ω7 ?_|refine ω8 ?_|refine ⟨rfl,?_⟩|refine ⟨trivial,?_⟩|refine ⟨⟨rfl,Nat.le_of_ble_eq_true rfl⟩,?_⟩|refine ⟨⟨by kernel_rfl,by kernel_rfl⟩,?_⟩|refine ⟨by decide,?_⟩|refine lit_true ?_|refine lit_false ?_))
        exact back (⟨at' + 1, a * (l.getD at' ins0).k % 4294967296, x, cells, steps + 1, loads⟩, oi, _) (hgo _ rfl _ i3).1 (hgo _ rfl (oi) i3).2 (ele_tell _ _ rfl rfl (.cons _ (List.Sublist.refl _)) (List.Sublist.refl _) ⟨rfl, OwnLe.refl _, rfl, ⟨AVle.refl _, le_int hw2, AVle.refl _, trivial⟩, rfl, OwnLe.refl _, trivial⟩ (PmEq.refl _) ⟨AVle.refl _, AVle.refl _, AVle.refl _, AVle.refl _, le_int (mul32 _ _), AVle.refl _, AVle.refl _, le_int hw1, trivial⟩)
      · (repeat ((conv=>whnf);first|refine ω0 ?_|refine ω1 ?_|refine ω2 ?_|refine ω3 ?_|refine ω4 rfl ?_|refine ω5 rfl ?_|refine ω6 ?_|refine ω7 ?_|refine ω8 ?_|refine ⟨rfl,?_⟩|refine ⟨trivial,?_⟩|refine ⟨⟨rfl,Nat.le_of_ble_eq_true rfl⟩,?_⟩|refine ⟨⟨by kernel_rfl,by kernel_rfl⟩,?_⟩|refine ⟨by decide,?_⟩|refine lit_true ?_|refine lit_false ?_))
        intro c e0; cases c
        · have e0 := fct_b0.1 e0
          have e0 : (l.getD at' ins0).k ≠ 0 := fun h => e0 (by show (((l.getD at' ins0).k : Nat) : Int) = 0; rw [h]; rfl)
          (repeat ((conv=>whnf);first|refine ω0 ?_|refine ω1 ?_|refine ω2 ?_|refine ω3 ?_|refine ω4 rfl ?_|refine ω5 rfl ?_|refine ω6 ?_|refine ω7 ?_|refine ω8 ?_|refine ⟨rfl,?_⟩|refine ⟨trivial,?_⟩|refine ⟨⟨rfl,Nat.le_of_ble_eq_true rfl⟩,?_⟩|refine ⟨⟨by kernel_rfl,by kernel_rfl⟩,?_⟩|refine ⟨by decide,?_⟩|refine lit_true ?_|refine lit_false ?_))
          refine ⟨fun h => e0 (Int.ofNat_inj.1 (show (((l.getD at' ins0).k : Nat) : Int) = ((0 : Nat) : Int) from h)), ?_⟩
          (repeat ((conv=>whnf);first|refine ω0 ?_|refine ω1 ?_|refine ω2 ?_|refine ω3 ?_|refine ω4 rfl ?_|refine ω5 rfl ?_|refine ω6 ?_|refine ω7 ?_|refine ω8 ?_|refine ⟨rfl,?_⟩|refine ⟨trivial,?_⟩|refine ⟨⟨rfl,Nat.le_of_ble_eq_true rfl⟩,?_⟩|refine ⟨⟨by kernel_rfl,by kernel_rfl⟩,?_⟩|refine ⟨by decide,?_⟩|refine lit_true ?_|refine lit_false ?_))
          exact back (⟨at' + 1, a / (l.getD at' ins0).k, x, cells, steps + 1, loads⟩, oi, _) (hgo _ (congrArg (fun o : Option Nat => match o with | some v => ((none : Option Nat), ({ (⟨at' + 1, a, x, cells, steps + 1, loads⟩ : Rn) with a := v } : Rn)) | none => (some 0, (⟨at' + 1, a, x, cells, steps + 1, loads⟩ : Rn))) (reck19 (a := a) e0)) _ i3).1 (hgo _ (congrArg (fun o : Option Nat => match o with | some v => ((none : Option Nat), ({ (⟨at' + 1, a, x, cells, steps + 1, loads⟩ : Rn) with a := v } : Rn)) | none => (some 0, (⟨at' + 1, a, x, cells, steps + 1, loads⟩ : Rn))) (reck19 (a := a) e0)) (oi) i3).2 (ele_tell _ _ rfl rfl (.cons _ (List.Sublist.refl _)) (List.Sublist.refl _) ⟨rfl, OwnLe.refl _, rfl, ⟨AVle.refl _, le_int hw2, AVle.refl _, trivial⟩, rfl, OwnLe.refl _, trivial⟩ (PmEq.refl _) ⟨AVle.refl _, AVle.refl _, AVle.refl _, AVle.refl _, le_int (quo32 ha), AVle.refl _, AVle.refl _, le_int hw1, trivial⟩)
        · have e0 := fct_b1.1 e0
          have e0 : (l.getD at' ins0).k = 0 := Int.ofNat_inj.1 (show (((l.getD at' ins0).k : Nat) : Int) = ((0 : Nat) : Int) from e0)
          rw [hover 0 (⟨at' + 1, a, x, cells, steps + 1, loads⟩ : Rn) (congrArg (fun n => match reckV 19 a n with | some v => ((none : Option Nat), ({ (⟨at' + 1, a, x, cells, steps + 1, loads⟩ : Rn) with a := v } : Rn)) | none => (some 0, (⟨at' + 1, a, x, cells, steps + 1, loads⟩ : Rn))) e0)]
          (repeat ((conv=>whnf);first|refine ω0 ?_|refine ω1 ?_|refine ω2 ?_|refine ω3 ?_|refine ω4 rfl ?_|refine ω5 rfl ?_|refine ω6 ?_|refine ω7 ?_|refine ω8 ?_|refine ⟨rfl,?_⟩|refine ⟨trivial,?_⟩|refine ⟨⟨rfl,Nat.le_of_ble_eq_true rfl⟩,?_⟩|refine ⟨⟨by kernel_rfl,by kernel_rfl⟩,?_⟩|refine ⟨by decide,?_⟩|refine lit_true ?_|refine lit_false ?_))
          refine ret_tells_all rfl ?_ ?_
          · exact ⟨rfl, trivial⟩
          · exact AVle.ags (cs := [_, _, _]) ⟨AVle.refl _, le_int hw2, AVle.os_sl, trivial⟩
      · (repeat ((conv=>whnf);first|refine ω0 ?_|refine ω1 ?_|refine ω2 ?_|refine ω3 ?_|refine ω4 rfl ?_|refine ω5 rfl ?_|refine ω6 ?_|refine ω7 ?_|refine ω8 ?_|refine ⟨rfl,?_⟩|refine ⟨trivial,?_⟩|refine ⟨⟨rfl,Nat.le_of_ble_eq_true rfl⟩,?_⟩|refine ⟨⟨by kernel_rfl,by kernel_rfl⟩,?_⟩|refine ⟨by decide,?_⟩|refine lit_true ?_|refine lit_false ?_))
        exact back (⟨at' + 1, a ||| (l.getD at' ins0).k, x, cells, steps + 1, loads⟩, oi, _) (hgo _ rfl _ i3).1 (hgo _ rfl (oi) i3).2 (ele_tell _ _ rfl rfl (.cons _ (List.Sublist.refl _)) (List.Sublist.refl _) ⟨rfl, OwnLe.refl _, rfl, ⟨AVle.refl _, le_int hw2, AVle.refl _, trivial⟩, rfl, OwnLe.refl _, trivial⟩ (PmEq.refl _) ⟨AVle.refl _, AVle.refl _, AVle.refl _, AVle.refl _, le_int (u32_or' ha hk32), AVle.refl _, AVle.refl _, le_int hw1, trivial⟩)
      · (repeat ((conv=>whnf);first|refine ω0 ?_|refine ω1 ?_|refine ω2 ?_|refine ω3 ?_|refine ω4 rfl ?_|refine ω5 rfl ?_|refine ω6 ?_|refine ω7 ?_|refine ω8 ?_|refine ⟨rfl,?_⟩|refine ⟨trivial,?_⟩|refine ⟨⟨rfl,Nat.le_of_ble_eq_true rfl⟩,?_⟩|refine ⟨⟨by kernel_rfl,by kernel_rfl⟩,?_⟩|refine ⟨by decide,?_⟩|refine lit_true ?_|refine lit_false ?_))
        exact back (⟨at' + 1, a &&& (l.getD at' ins0).k, x, cells, steps + 1, loads⟩, oi, _) (hgo _ rfl _ i3).1 (hgo _ rfl (oi) i3).2 (ele_tell _ _ rfl rfl (.cons _ (List.Sublist.refl _)) (List.Sublist.refl _) ⟨rfl, OwnLe.refl _, rfl, ⟨AVle.refl _, le_int hw2, AVle.refl _, trivial⟩, rfl, OwnLe.refl _, trivial⟩ (PmEq.refl _) ⟨AVle.refl _, AVle.refl _, AVle.refl _, AVle.refl _, le_int (u32_and ha hk32), AVle.refl _, AVle.refl _, le_int hw1, trivial⟩)
      · (repeat ((conv=>whnf);first|refine ω0 ?_|refine ω1 ?_|refine ω2 ?_|refine ω3 ?_|refine ω4 rfl ?_|refine ω5 rfl ?_|refine ω6 ?_|refine ω7 ?_|refine ω8 ?_|refine ⟨rfl,?_⟩|refine ⟨trivial,?_⟩|refine ⟨⟨rfl,Nat.le_of_ble_eq_true rfl⟩,?_⟩|refine ⟨⟨by kernel_rfl,by kernel_rfl⟩,?_⟩|refine ⟨by decide,?_⟩|refine lit_true ?_|refine lit_false ?_))
        refine aop_tells rfl rfl (shiftR_spec a (l.getD at' ins0).k ha hk32 true) ⟨AVle.refl _, AVle.refl _, AVle.refl _, trivial⟩ fun nx4 => ?_
        (repeat ((conv=>whnf);first|refine ω0 ?_|refine ω1 ?_|refine ω2 ?_|refine ω3 ?_|refine ω4 rfl ?_|refine ω5 rfl ?_|refine ω6 ?_|refine ω7 ?_|refine ω8 ?_|refine ⟨rfl,?_⟩|refine ⟨trivial,?_⟩|refine ⟨⟨rfl,Nat.le_of_ble_eq_true rfl⟩,?_⟩|refine ⟨⟨by kernel_rfl,by kernel_rfl⟩,?_⟩|refine ⟨by decide,?_⟩|refine lit_true ?_|refine lit_false ?_))
        exact back (⟨at' + 1, a * 2 ^ ((l.getD at' ins0).k % 32) % 4294967296, x, cells, steps + 1, loads⟩, oi, _) (hgo _ rfl _ i3).1 (hgo _ rfl (oi) i3).2 (ele_tell _ _ rfl rfl (.cons _ (List.Sublist.refl _)) (List.Sublist.refl _) ⟨rfl, OwnLe.refl _, rfl, ⟨AVle.refl _, le_int hw2, AVle.refl _, trivial⟩, rfl, OwnLe.refl _, trivial⟩ (PmEq.refl _) ⟨AVle.refl _, AVle.refl _, AVle.refl _, AVle.refl _, AVle.refl _, AVle.refl _, AVle.refl _, le_int hw1, trivial⟩)
      · (repeat ((conv=>whnf);first|refine ω0 ?_|refine ω1 ?_|refine ω2 ?_|refine ω3 ?_|refine ω4 rfl ?_|refine ω5 rfl ?_|refine ω6 ?_|refine ω7 ?_|refine ω8 ?_|refine ⟨rfl,?_⟩|refine ⟨trivial,?_⟩|refine ⟨⟨rfl,Nat.le_of_ble_eq_true rfl⟩,?_⟩|refine ⟨⟨by kernel_rfl,by kernel_rfl⟩,?_⟩|refine ⟨by decide,?_⟩|refine lit_true ?_|refine lit_false ?_))
        refine aop_tells rfl rfl (shiftR_spec a (l.getD at' ins0).k ha hk32 false) ⟨AVle.refl _, AVle.refl _, AVle.refl _, trivial⟩ fun nx4 => ?_
        (repeat ((conv=>whnf);first|refine ω0 ?_|refine ω1 ?_|refine ω2 ?_|refine ω3 ?_|refine ω4 rfl ?_|refine ω5 rfl ?_|refine ω6 ?_|refine ω7 ?_|refine ω8 ?_|refine ⟨rfl,?_⟩|refine ⟨trivial,?_⟩|refine ⟨⟨rfl,Nat.le_of_ble_eq_true rfl⟩,?_⟩|refine ⟨⟨by kernel_rfl,by kernel_rfl⟩,?_⟩|refine ⟨by decide,?_⟩|refine lit_true ?_|refine lit_false ?_))
        exact back (⟨at' + 1, a / 2 ^ ((l.getD at' ins0).k % 32), x, cells, steps + 1, loads⟩, oi, _) (hgo _ rfl _ i3).1 (hgo _ rfl (oi) i3).2 (ele_tell _ _ rfl rfl (.cons _ (List.Sublist.refl _)) (List.Sublist.refl _) ⟨rfl, OwnLe.refl _, rfl, ⟨AVle.refl _, le_int hw2, AVle.refl _, trivial⟩, rfl, OwnLe.refl _, trivial⟩ (PmEq.refl _) ⟨AVle.refl _, AVle.refl _, AVle.refl _, AVle.refl _, AVle.refl _, AVle.refl _, AVle.refl _, le_int hw1, trivial⟩)
      · (repeat ((conv=>whnf);first|refine ω0 ?_|refine ω1 ?_|refine ω2 ?_|refine ω3 ?_|refine ω4 rfl ?_|refine ω5 rfl ?_|refine ω6 ?_|refine ω7 ?_|refine ω8 ?_|refine ⟨rfl,?_⟩|refine ⟨trivial,?_⟩|refine ⟨⟨rfl,Nat.le_of_ble_eq_true rfl⟩,?_⟩|refine ⟨⟨by kernel_rfl,by kernel_rfl⟩,?_⟩|refine ⟨by decide,?_⟩|refine lit_true ?_|refine lit_false ?_))
        exact back (⟨at' + 1, a ^^^ (l.getD at' ins0).k, x, cells, steps + 1, loads⟩, oi, _) (hgo _ rfl _ i3).1 (hgo _ rfl (oi) i3).2 (ele_tell _ _ rfl rfl (.cons _ (List.Sublist.refl _)) (List.Sublist.refl _) ⟨rfl, OwnLe.refl _, rfl, ⟨AVle.refl _, le_int hw2, AVle.refl _, trivial⟩, rfl, OwnLe.refl _, trivial⟩ (PmEq.refl _) ⟨AVle.refl _, AVle.refl _, AVle.refl _, AVle.refl _, le_int (xor32 ha hk32), AVle.refl _, AVle.refl _, le_int hw1, trivial⟩)
      · (repeat ((conv=>whnf);first|refine ω0 ?_|refine ω1 ?_|refine ω2 ?_|refine ω3 ?_|refine ω4 rfl ?_|refine ω5 rfl ?_|refine ω6 ?_|refine ω7 ?_|refine ω8 ?_|refine ⟨rfl,?_⟩|refine ⟨trivial,?_⟩|refine ⟨⟨rfl,Nat.le_of_ble_eq_true rfl⟩,?_⟩|refine ⟨⟨by kernel_rfl,by kernel_rfl⟩,?_⟩|refine ⟨by decide,?_⟩|refine lit_true ?_|refine lit_false ?_))
        intro c e0; cases c
        · have e0 := fct_b0.1 e0
          have e0 : ¬ (a = (l.getD at' ins0).k) := fun h => e0 (by show (a : Int) = (((l.getD at' ins0).k : Nat) : Int); rw [← h])
          (repeat ((conv=>whnf);first|refine ω0 ?_|refine ω1 ?_|refine ω2 ?_|refine ω3 ?_|refine ω4 rfl ?_|refine ω5 rfl ?_|refine ω6 ?_|refine ω7 ?_|refine ω8 ?_|refine ⟨rfl,?_⟩|refine ⟨trivial,?_⟩|refine ⟨⟨rfl,Nat.le_of_ble_eq_true rfl⟩,?_⟩|refine ⟨⟨by kernel_rfl,by kernel_rfl⟩,?_⟩|refine ⟨by decide,?_⟩|refine lit_true ?_|refine lit_false ?_))
          exact back (⟨at' + 1 + (l.getD at' ins0).jf, a, x, cells, steps + 1, loads⟩, oi, _) (hgo _ (congrArg (fun c : Bool => ((none : Option Nat), ({ (⟨at' + 1, a, x, cells, steps + 1, loads⟩ : Rn) with at' := at' + 1 + if c then (l.getD at' ins0).jt else (l.getD at' ins0).jf } : Rn))) (show branchV 25 a ((l.getD at' ins0).k) = false from decide_eq_false e0)) _ i3).1 (hgo _ (congrArg (fun c : Bool => ((none : Option Nat), ({ (⟨at' + 1, a, x, cells, steps + 1, loads⟩ : Rn) with at' := at' + 1 + if c then (l.getD at' ins0).jt else (l.getD at' ins0).jf } : Rn))) (show branchV 25 a ((l.getD at' ins0).k) = false from decide_eq_false e0)) (oi) i3).2 (ele_tell _ _ rfl rfl (.cons _ (List.Sublist.refl _)) (List.Sublist.refl _) ⟨rfl, OwnLe.refl _, rfl, ⟨AVle.refl _, le_int hw2, AVle.refl _, trivial⟩, rfl, OwnLe.refl _, trivial⟩ (PmEq.refl _) ⟨AVle.refl _, AVle.refl _, AVle.refl _, AVle.refl _, AVle.refl _, AVle.refl _, AVle.refl _, le_int (wrap_two (n := at') (k := (l.getD at' ins0).jf) (by omega)), trivial⟩)
        · have e0 := fct_b1.1 e0
          have e0 : (a = (l.getD at' ins0).k) := Int.ofNat_inj.1 (show (a : Int) = (((l.getD at' ins0).k : Nat) : Int) from e0)
          (repeat ((conv=>whnf);first|refine ω0 ?_|refine ω1 ?_|refine ω2 ?_|refine ω3 ?_|refine ω4 rfl ?_|refine ω5 rfl ?_|refine ω6 ?_|refine ω7 ?_|refine ω8 ?_|refine ⟨rfl,?_⟩|refine ⟨trivial,?_⟩|refine ⟨⟨rfl,Nat.le_of_ble_eq_true rfl⟩,?_⟩|refine ⟨⟨by kernel_rfl,by kernel_rfl⟩,?_⟩|refine ⟨by decide,?_⟩|refine lit_true ?_|refine lit_false ?_))
          exact back (⟨at' + 1 + (l.getD at' ins0).jt, a, x, cells, steps + 1, loads⟩, oi, _) (hgo _ (congrArg (fun c : Bool => ((none : Option Nat), ({ (⟨at' + 1, a, x, cells, steps + 1, loads⟩ : Rn) with at' := at' + 1 + if c then (l.getD at' ins0).jt else (l.getD at' ins0).jf } : Rn))) (show branchV 25 a ((l.getD at' ins0).k) = true from decide_eq_true e0)) _ i3).1 (hgo _ (congrArg (fun c : Bool => ((none : Option Nat), ({ (⟨at' + 1, a, x, cells, steps + 1, loads⟩ : Rn) with at' := at' + 1 + if c then (l.getD at' ins0).jt else (l.getD at' ins0).jf } : Rn))) (show branchV 25 a ((l.getD at' ins0).k) = true from decide_eq_true e0)) (oi) i3).2 (ele_tell _ _ rfl rfl (.cons _ (List.Sublist.refl _)) (List.Sublist.refl _) ⟨rfl, OwnLe.refl _, rfl, ⟨AVle.refl _, le_int hw2, AVle.refl _, trivial⟩, rfl, OwnLe.refl _, trivial⟩ (PmEq.refl _) ⟨AVle.refl _, AVle.refl _, AVle.refl _, AVle.refl _, AVle.refl _, AVle.refl _, AVle.refl _, le_int (wrap_two (n := at') (k := (l.getD at' ins0).jt) (by omega)), trivial⟩)
      · (repeat ((conv=>whnf);first|refine ω0 ?_|refine ω1 ?_|refine ω2 ?_|refine ω3 ?_|refine ω4 rfl ?_|refine ω5 rfl ?_|refine ω6 ?_|refine ω7 ?_|refine ω8 ?_|refine ⟨rfl,?_⟩|refine ⟨trivial,?_⟩|refine ⟨⟨rfl,Nat.le_of_ble_eq_true rfl⟩,?_⟩|refine ⟨⟨by kernel_rfl,by kernel_rfl⟩,?_⟩|refine ⟨by decide,?_⟩|refine lit_true ?_|refine lit_false ?_))
        intro c e0; cases c
        · have e0 := fct_d0.1 e0
          have e0 : ¬ (a > (l.getD at' ins0).k) := fun h => e0 (show (((l.getD at' ins0).k : Nat) : Int) < (a : Int) from Int.ofNat_lt.2 h)
          (repeat ((conv=>whnf);first|refine ω0 ?_|refine ω1 ?_|refine ω2 ?_|refine ω3 ?_|refine ω4 rfl ?_|refine ω5 rfl ?_|refine ω6 ?_|refine ω7 ?_|refine ω8 ?_|refine ⟨rfl,?_⟩|refine ⟨trivial,?_⟩|refine ⟨⟨rfl,Nat.le_of_ble_eq_true rfl⟩,?_⟩|refine ⟨⟨by kernel_rfl,by kernel_rfl⟩,?_⟩|refine ⟨by decide,?_⟩|refine lit_true ?_|refine lit_false ?_))
          exact back (⟨at' + 1 + (l.getD at' ins0).jf, a, x, cells, steps + 1, loads⟩, oi, _) (hgo _ (congrArg (fun c : Bool => ((none : Option Nat), ({ (⟨at' + 1, a, x, cells, steps + 1, loads⟩ : Rn) with at' := at' + 1 + if c then (l.getD at' ins0).jt else (l.getD at' ins0).jf } : Rn))) (show branchV 26 a ((l.getD at' ins0).k) = false from decide_eq_false e0)) _ i3).1 (hgo _ (congrArg (fun c : Bool => ((none : Option Nat), ({ (⟨at' + 1, a, x, cells, steps + 1, loads⟩ : Rn) with at' := at' + 1 + if c then (l.getD at' ins0).jt else (l.getD at' ins0).jf } : Rn))) (show branchV 26 a ((l.getD at' ins0).k) = false from decide_eq_false e0)) (oi) i3).2 (ele_tell _ _ rfl rfl (.cons _ (List.Sublist.refl _)) (List.Sublist.refl _) ⟨rfl, OwnLe.refl _, rfl, ⟨AVle.refl _, le_int hw2, AVle.refl _, trivial⟩, rfl, OwnLe.refl _, trivial⟩ (PmEq.refl _) ⟨AVle.refl _, AVle.refl _, AVle.refl _, AVle.refl _, AVle.refl _, AVle.refl _, AVle.refl _, le_int (wrap_two (n := at') (k := (l.getD at' ins0).jf) (by omega)), trivial⟩)
        · have e0 := fct_d1.1 e0
          have e0 : (a > (l.getD at' ins0).k) := Int.ofNat_lt.1 (show (((l.getD at' ins0).k : Nat) : Int) < (a : Int) from e0)
          (repeat ((conv=>whnf);first|refine ω0 ?_|refine ω1 ?_|refine ω2 ?_|refine ω3 ?_|refine ω4 rfl ?_|refine ω5 rfl ?_|refine ω6 ?_|refine ω7 ?_|refine ω8 ?_|refine ⟨rfl,?_⟩|refine ⟨trivial,?_⟩|refine ⟨⟨rfl,Nat.le_of_ble_eq_true rfl⟩,?_⟩|refine ⟨⟨by kernel_rfl,by kernel_rfl⟩,?_⟩|refine ⟨by decide,?_⟩|refine lit_true ?_|refine lit_false ?_))
          exact back (⟨at' + 1 + (l.getD at' ins0).jt, a, x, cells, steps + 1, loads⟩, oi, _) (hgo _ (congrArg (fun c : Bool => ((none : Option Nat), ({ (⟨at' + 1, a, x, cells, steps + 1, loads⟩ : Rn) with at' := at' + 1 + if c then (l.getD at' ins0).jt else (l.getD at' ins0).jf } : Rn))) (show branchV 26 a ((l.getD at' ins0).k) = true from decide_eq_true e0)) _ i3).1 (hgo _ (congrArg (fun c : Bool => ((none : Option Nat), ({ (⟨at' + 1, a, x, cells, steps + 1, loads⟩ : Rn) with at' := at' + 1 + if c then (l.getD at' ins0).jt else (l.getD at' ins0).jf } : Rn))) (show branchV 26 a ((l.getD at' ins0).k) = true from decide_eq_true e0)) (oi) i3).2 (ele_tell _ _ rfl rfl (.cons _ (List.Sublist.refl _)) (List.Sublist.refl _) ⟨rfl, OwnLe.refl _, rfl, ⟨AVle.refl _, le_int hw2, AVle.refl _, trivial⟩, rfl, OwnLe.refl _, trivial⟩ (PmEq.refl _) ⟨AVle.refl _, AVle.refl _, AVle.refl _, AVle.refl _, AVle.refl _, AVle.refl _, AVle.refl _, le_int (wrap_two (n := at') (k := (l.getD at' ins0).jt) (by omega)), trivial⟩)
      · (repeat ((conv=>whnf);first|refine ω0 ?_|refine ω1 ?_|refine ω2 ?_|refine ω3 ?_|refine ω4 rfl ?_|refine ω5 rfl ?_|refine ω6 ?_|refine ω7 ?_|refine ω8 ?_|refine ⟨rfl,?_⟩|refine ⟨trivial,?_⟩|refine ⟨⟨rfl,Nat.le_of_ble_eq_true rfl⟩,?_⟩|refine ⟨⟨by kernel_rfl,by kernel_rfl⟩,?_⟩|refine ⟨by decide,?_⟩|refine lit_true ?_|refine lit_false ?_))
        intro c e0; cases c
        · have e0 := fct_d0.1 e0
          have e0 : ¬ (a ≥ (l.getD at' ins0).k) := fun h => e0 (show (((l.getD at' ins0).k : Nat) : Int) ≤ (a : Int) from Int.ofNat_le.2 h)
          (repeat ((conv=>whnf);first|refine ω0 ?_|refine ω1 ?_|refine ω2 ?_|refine ω3 ?_|refine ω4 rfl ?_|refine ω5 rfl ?_|refine ω6 ?_|refine ω7 ?_|refine ω8 ?_|refine ⟨rfl,?_⟩|refine ⟨trivial,?_⟩|refine ⟨⟨rfl,Nat.le_of_ble_eq_true rfl⟩,?_⟩|refine ⟨⟨by kernel_rfl,by kernel_rfl⟩,?_⟩|refine ⟨by decide,?_⟩|refine lit_true ?_|refine lit_false ?_))
          exact back (⟨at' + 1 + (l.getD at' ins0).jf, a, x, cells, steps + 1, loads⟩, oi, _) (hgo _ (congrArg (fun c : Bool => ((none : Option Nat), ({ (⟨at' + 1, a, x, cells, steps + 1, loads⟩ : Rn) with at' := at' + 1 + if c then (l.getD at' ins0).jt else (l.getD at' ins0).jf } : Rn))) (show branchV 27 a ((l.getD at' ins0).k) = false from decide_eq_false e0)) _ i3).1 (hgo _ (congrArg (fun c : Bool => ((none : Option Nat), ({ (⟨at' + 1, a, x, cells, steps + 1, loads⟩ : Rn) with at' := at' + 1 + if c then (l.getD at' ins0).jt else (l.getD at' ins0).jf } : Rn))) (show branchV 27 a ((l.getD at' ins0).k) = false from decide_eq_false e0)) (oi) i3).2 (ele_tell _ _ rfl rfl (.cons _ (List.Sublist.refl _)) (List.Sublist.refl _) ⟨rfl, OwnLe.refl _, rfl, ⟨AVle.refl _, le_int hw2, AVle.refl _, trivial⟩, rfl, OwnLe.refl _, trivial⟩ (PmEq.refl _) ⟨AVle.refl _, AVle.refl _, AVle.refl _, AVle.refl _, AVle.refl _, AVle.refl _, AVle.refl _, le_int (wrap_two (n := at') (k := (l.getD at' ins0).jf) (by omega)), trivial⟩)
        · have e0 := fct_d1.1 e0
          have e0 : (a ≥ (l.getD at' ins0).k) := Int.ofNat_le.1 (show (((l.getD at' ins0).k : Nat) : Int) ≤ (a : Int) from e0)
          (repeat ((conv=>whnf);first|refine ω0 ?_|refine ω1 ?_|refine ω2 ?_|refine ω3 ?_|refine ω4 rfl ?_|refine ω5 rfl ?_|refine ω6 ?_|refine ω7 ?_|refine ω8 ?_|refine ⟨rfl,?_⟩|refine ⟨trivial,?_⟩|refine ⟨⟨rfl,Nat.le_of_ble_eq_true rfl⟩,?_⟩|refine ⟨⟨by kernel_rfl,by kernel_rfl⟩,?_⟩|refine ⟨by decide,?_⟩|refine lit_true ?_|refine lit_false ?_))
          exact back (⟨at' + 1 + (l.getD at' ins0).jt, a, x, cells, steps + 1, loads⟩, oi, _) (hgo _ (congrArg (fun c : Bool => ((none : Option Nat), ({ (⟨at' + 1, a, x, cells, steps + 1, loads⟩ : Rn) with at' := at' + 1 + if c then (l.getD at' ins0).jt else (l.getD at' ins0).jf } : Rn))) (show branchV 27 a ((l.getD at' ins0).k) = true from decide_eq_true e0)) _ i3).1 (hgo _ (congrArg (fun c : Bool => ((none : Option Nat), ({ (⟨at' + 1, a, x, cells, steps + 1, loads⟩ : Rn) with at' := at' + 1 + if c then (l.getD at' ins0).jt else (l.getD at' ins0).jf } : Rn))) (show branchV 27 a ((l.getD at' ins0).k) = true from decide_eq_true e0)) (oi) i3).2 (ele_tell _ _ rfl rfl (.cons _ (List.Sublist.refl _)) (List.Sublist.refl _) ⟨rfl, OwnLe.refl _, rfl, ⟨AVle.refl _, le_int hw2, AVle.refl _, trivial⟩, rfl, OwnLe.refl _, trivial⟩ (PmEq.refl _) ⟨AVle.refl _, AVle.refl _, AVle.refl _, AVle.refl _, AVle.refl _, AVle.refl _, AVle.refl _, le_int (wrap_two (n := at') (k := (l.getD at' ins0).jt) (by omega)), trivial⟩)
      · (repeat ((conv=>whnf);first|refine ω0 ?_|refine ω1 ?_|refine ω2 ?_|refine ω3 ?_|refine ω4 rfl ?_|refine ω5 rfl ?_|refine ω6 ?_|refine ω7 ?_|refine ω8 ?_|refine ⟨rfl,?_⟩|refine ⟨trivial,?_⟩|refine ⟨⟨rfl,Nat.le_of_ble_eq_true rfl⟩,?_⟩|refine ⟨⟨by kernel_rfl,by kernel_rfl⟩,?_⟩|refine ⟨by decide,?_⟩|refine lit_true ?_|refine lit_false ?_))
        intro c e0; cases c
        · have e0 := fct_n0.1 e0
          have e1 : bitsI .and .u32 (a : Int) ((l.getD at' ins0).k : Int) = ((a &&& (l.getD at' ins0).k : Nat) : Int) := u32_and ha hk32
          have e0 : ¬ (a &&& (l.getD at' ins0).k ≠ 0) := fun h => h (Int.ofNat_inj.1 (e1.symm.trans e0))
          (repeat ((conv=>whnf);first|refine ω0 ?_|refine ω1 ?_|refine ω2 ?_|refine ω3 ?_|refine ω4 rfl ?_|refine ω5 rfl ?_|refine ω6 ?_|refine ω7 ?_|refine ω8 ?_|refine ⟨rfl,?_⟩|refine ⟨trivial,?_⟩|refine ⟨⟨rfl,Nat.le_of_ble_eq_true rfl⟩,?_⟩|refine ⟨⟨by kernel_rfl,by kernel_rfl⟩,?_⟩|refine ⟨by decide,?_⟩|refine lit_true ?_|refine lit_false ?_))
          exact back (⟨at' + 1 + (l.getD at' ins0).jf, a, x, cells, steps + 1, loads⟩, oi, _) (hgo _ (congrArg (fun c : Bool => ((none : Option Nat), ({ (⟨at' + 1, a, x, cells, steps + 1, loads⟩ : Rn) with at' := at' + 1 + if c then (l.getD at' ins0).jt else (l.getD at' ins0).jf } : Rn))) (show branchV 28 a ((l.getD at' ins0).k) = false from decide_eq_false e0)) _ i3).1 (hgo _ (congrArg (fun c : Bool => ((none : Option Nat), ({ (⟨at' + 1, a, x, cells, steps + 1, loads⟩ : Rn) with at' := at' + 1 + if c then (l.getD at' ins0).jt else (l.getD at' ins0).jf } : Rn))) (show branchV 28 a ((l.getD at' ins0).k) = false from decide_eq_false e0)) (oi) i3).2 (ele_tell _ _ rfl rfl (.cons _ (List.Sublist.refl _)) (List.Sublist.refl _) ⟨rfl, OwnLe.refl _, rfl, ⟨AVle.refl _, le_int hw2, AVle.refl _, trivial⟩, rfl, OwnLe.refl _, trivial⟩ (PmEq.refl _) ⟨AVle.refl _, AVle.refl _, AVle.refl _, AVle.refl _, AVle.refl _, AVle.refl _, AVle.refl _, le_int (wrap_two (n := at') (k := (l.getD at' ins0).jf) (by omega)), trivial⟩)
        · have e0 := fct_n1.1 e0
          have e1 : bitsI .and .u32 (a : Int) ((l.getD at' ins0).k : Int) = ((a &&& (l.getD at' ins0).k : Nat) : Int) := u32_and ha hk32
          have e0 : (a &&& (l.getD at' ins0).k ≠ 0) := fun h => e0 (e1.trans (by rw [h]; rfl))
          (repeat ((conv=>whnf);first|refine ω0 ?_|refine ω1 ?_|refine ω2 ?_|refine ω3 ?_|refine ω4 rfl ?_|refine ω5 rfl ?_|refine ω6 ?_|refine ω7 ?_|refine ω8 ?_|refine ⟨rfl,?_⟩|refine ⟨trivial,?_⟩|refine ⟨⟨rfl,Nat.le_of_ble_eq_true rfl⟩,?_⟩|refine ⟨⟨by kernel_rfl,by kernel_rfl⟩,?_⟩|refine ⟨by decide,?_⟩|refine lit_true ?_|refine lit_false ?_))
          exact back (⟨at' + 1 + (l.getD at' ins0).jt, a, x, cells, steps + 1, loads⟩, oi, _) (hgo _ (congrArg (fun c : Bool => ((none : Option Nat), ({ (⟨at' + 1, a, x, cells, steps + 1, loads⟩ : Rn) with at' := at' + 1 + if c then (l.getD at' ins0).jt else (l.getD at' ins0).jf } : Rn))) (show branchV 28 a ((l.getD at' ins0).k) = true from decide_eq_true e0)) _ i3).1 (hgo _ (congrArg (fun c : Bool => ((none : Option Nat), ({ (⟨at' + 1, a, x, cells, steps + 1, loads⟩ : Rn) with at' := at' + 1 + if c then (l.getD at' ins0).jt else (l.getD at' ins0).jf } : Rn))) (show branchV 28 a ((l.getD at' ins0).k) = true from decide_eq_true e0)) (oi) i3).2 (ele_tell _ _ rfl rfl (.cons _ (List.Sublist.refl _)) (List.Sublist.refl _) ⟨rfl, OwnLe.refl _, rfl, ⟨AVle.refl _, le_int hw2, AVle.refl _, trivial⟩, rfl, OwnLe.refl _, trivial⟩ (PmEq.refl _) ⟨AVle.refl _, AVle.refl _, AVle.refl _, AVle.refl _, AVle.refl _, AVle.refl _, AVle.refl _, le_int (wrap_two (n := at') (k := (l.getD at' ins0).jt) (by omega)), trivial⟩)
    · rcases (by omega : K = 0 ∨ K = 1 ∨ K = 2 ∨ K = 3 ∨ K = 4 ∨ K = 5 ∨ K = 6 ∨ K = 7 ∨ K = 8 ∨ K = 9 ∨ K = 10 ∨ K = 11 ∨ K = 12 ∨ K = 13 ∨ K = 14 ∨ K = 15 ∨ K = 16 ∨ K = 17 ∨ K = 18 ∨ K = 19 ∨ K = 20 ∨ K = 21 ∨ K = 22 ∨ K = 23 ∨ K = 24 ∨ K = 25 ∨ K = 26 ∨ K = 27 ∨ K = 28) with rfl | rfl | rfl | rfl | rfl | rfl | rfl | rfl | rfl | rfl | rfl | rfl | rfl | rfl | rfl | rfl | rfl | rfl | rfl | rfl | rfl | rfl | rfl | rfl | rfl | rfl | rfl | rfl | rfl
      · exact absurd rfl wp1
      · (repeat ((conv=>whnf);first|refine ω0 ?_|refine ω1 ?_|refine ω2 ?_|refine ω3 ?_|refine ω4 rfl ?_|refine ω5 rfl ?_|refine ω6 ?_|refine ω7 ?_|refine ω8 ?_|refine ⟨rfl,?_⟩|refine ⟨trivial,?_⟩|refine ⟨⟨rfl,Nat.le_of_ble_eq_true rfl⟩,?_⟩|refine ⟨⟨by kernel_rfl,by kernel_rfl⟩,?_⟩|refine ⟨by decide,?_⟩|refine lit_true ?_|refine lit_false ?_))
        refine aop_tells rfl rfl (word_spec b hb (by omega) (l.getD at' ins0).k (by omega)) ⟨AVle.refl _, le_int wk, trivial⟩ fun nx4 => ?_
        rcases oi with _ | id
        · obtain rfl := i3 rfl
          (repeat ((conv=>whnf);first|refine ω0 ?_|refine ω1 ?_|refine ω2 ?_|refine ω3 ?_|refine ω4 rfl ?_|refine ω5 rfl ?_|refine ω6 ?_|refine ω7 ?_|refine ω8 ?_|refine ⟨rfl,?_⟩|refine ⟨trivial,?_⟩|refine ⟨⟨rfl,Nat.le_of_ble_eq_true rfl⟩,?_⟩|refine ⟨⟨by kernel_rfl,by kernel_rfl⟩,?_⟩|refine ⟨by decide,?_⟩|refine lit_true ?_|refine lit_false ?_))
          refine ⟨oneRow_one rfl, by show (0 + 1) * 8 ≤ _; omega, by dsimp only; omega, ?_⟩
          (repeat ((conv=>whnf);first|refine ω0 ?_|refine ω1 ?_|refine ω2 ?_|refine ω3 ?_|refine ω4 rfl ?_|refine ω5 rfl ?_|refine ω6 ?_|refine ω7 ?_|refine ω8 ?_|refine ⟨rfl,?_⟩|refine ⟨trivial,?_⟩|refine ⟨⟨rfl,Nat.le_of_ble_eq_true rfl⟩,?_⟩|refine ⟨⟨by kernel_rfl,by kernel_rfl⟩,?_⟩|refine ⟨by decide,?_⟩|refine lit_true ?_|refine lit_false ?_))
          exact back (⟨at' + 1, wordL b (l.getD at' ins0).k, x, cells, steps + 1, [] ++ [(l.getD at' ins0).k]⟩, some nx4, _) (hgo _ rfl _ (fun h => by cases h)).1 (hgo _ rfl (some nx4) (fun h => by cases h)).2 (ele_tell _ _ rfl rfl (.cons _ (List.Sublist.refl _)) (List.Sublist.refl _) ⟨rfl, OwnLe.refl _, rfl, ⟨AVle.refl _, le_int hw2, snoc3 (l := []) wk rfl, trivial⟩, rfl, OwnLe.refl _, trivial⟩ ⟨rfl, by rw [c3]; simp, trivial⟩ ⟨AVle.refl _, AVle.refl _, AVle.refl _, AVle.refl _, AVle.refl _, AVle.refl _, AVle.refl _, le_int hw1, trivial⟩)
        · skip
          (repeat ((conv=>whnf);first|refine ω0 ?_|refine ω1 ?_|refine ω2 ?_|refine ω3 ?_|refine ω4 rfl ?_|refine ω5 rfl ?_|refine ω6 ?_|refine ω7 ?_|refine ω8 ?_|refine ⟨rfl,?_⟩|refine ⟨trivial,?_⟩|refine ⟨⟨rfl,Nat.le_of_ble_eq_true rfl⟩,?_⟩|refine ⟨⟨by kernel_rfl,by kernel_rfl⟩,?_⟩|refine ⟨by decide,?_⟩|refine lit_true ?_|refine lit_false ?_))
          refine ⟨oneRow_one rfl, by show (loads.length + 1) * 8 ≤ _; omega, by dsimp only; omega, ?_⟩
          (repeat ((conv=>whnf);first|refine ω0 ?_|refine ω1 ?_|refine ω2 ?_|refine ω3 ?_|refine ω4 rfl ?_|refine ω5 rfl ?_|refine ω6 ?_|refine ω7 ?_|refine ω8 ?_|refine ⟨rfl,?_⟩|refine ⟨trivial,?_⟩|refine ⟨⟨rfl,Nat.le_of_ble_eq_true rfl⟩,?_⟩|refine ⟨⟨by kernel_rfl,by kernel_rfl⟩,?_⟩|refine ⟨by decide,?_⟩|refine lit_true ?_|refine lit_false ?_))
          exact back (⟨at' + 1, wordL b (l.getD at' ins0).k, x, cells, steps + 1, loads ++ [(l.getD at' ins0).k]⟩, some nx4, _) (hgo _ rfl _ (fun h => by cases h)).1 (hgo _ rfl (some nx4) (fun h => by cases h)).2 (ele_tell _ _ rfl rfl (.cons _ (List.Sublist.refl _)) (List.Sublist.refl _) ⟨rfl, OwnLe.refl _, rfl, ⟨AVle.refl _, le_int hw2, snoc3 (l := loads) wk rfl, trivial⟩, rfl, OwnLe.refl _, trivial⟩ ⟨rfl, by rw [c3]; simp, trivial⟩ ⟨AVle.refl _, AVle.refl _, AVle.refl _, AVle.refl _, AVle.refl _, AVle.refl _, AVle.refl _, le_int hw1, trivial⟩)
      · (repeat ((conv=>whnf);first|refine ω0 ?_|refine ω1 ?_|refine ω2 ?_|refine ω3 ?_|refine ω4 rfl ?_|refine ω5 rfl ?_|refine ω6 ?_|refine ω7 ?_|refine ω8 ?_|refine ⟨rfl,?_⟩|refine ⟨trivial,?_⟩|refine ⟨⟨rfl,Nat.le_of_ble_eq_true rfl⟩,?_⟩|refine ⟨⟨by kernel_rfl,by kernel_rfl⟩,?_⟩|refine ⟨by decide,?_⟩|refine lit_true ?_|refine lit_false ?_))
        exact back (⟨at' + 1, (l.getD at' ins0).k, x, cells, steps + 1, loads⟩, oi, _) (hgo _ rfl _ i3).1 (hgo _ rfl (oi) i3).2 (ele_tell _ _ rfl rfl (.cons _ (List.Sublist.refl _)) (List.Sublist.refl _) ⟨rfl, OwnLe.refl _, rfl, ⟨AVle.refl _, le_int hw2, AVle.refl _, trivial⟩, rfl, OwnLe.refl _, trivial⟩ (PmEq.refl _) ⟨AVle.refl _, AVle.refl _, AVle.refl _, AVle.refl _, AVle.refl _, AVle.refl _, AVle.refl _, le_int hw1, trivial⟩)
      · (repeat ((conv=>whnf);first|refine ω0 ?_|refine ω1 ?_|refine ω2 ?_|refine ω3 ?_|refine ω4 rfl ?_|refine ω5 rfl ?_|refine ω6 ?_|refine ω7 ?_|refine ω8 ?_|refine ⟨rfl,?_⟩|refine ⟨trivial,?_⟩|refine ⟨⟨rfl,Nat.le_of_ble_eq_true rfl⟩,?_⟩|refine ⟨⟨by kernel_rfl,by kernel_rfl⟩,?_⟩|refine ⟨by decide,?_⟩|refine lit_true ?_|refine lit_false ?_))
        have h16 : (l.getD at' ins0).k < 16 := by omega
        refine ⟨⟨Int.natCast_nonneg _, Int.ofNat_lt.2 h16⟩, splitO_eq (b := .bp (2, nx + 2) ((l.getD at' ins0).k)) (congrArg (AV.bp (2, nx + 2)) (ix1 c41)) ?_⟩
        (conv => whnf)
        refine ⟨⟨rfl, (by first | omega | (simp only [List.length_map, List.length_set, List.length_cons, List.length_nil, List.length_replicate, List.length_append]; omega))⟩, splitO_eq (b := u32A (cells.getD ((l.getD at' ins0).k) 0)) (getD_map (show (l.getD at' ins0).k < cells.length by omega)) ?_⟩
        (repeat ((conv=>whnf);first|refine ω0 ?_|refine ω1 ?_|refine ω2 ?_|refine ω3 ?_|refine ω4 rfl ?_|refine ω5 rfl ?_|refine ω6 ?_|refine ω7 ?_|refine ω8 ?_|refine ⟨rfl,?_⟩|refine ⟨trivial,?_⟩|refine ⟨⟨rfl,Nat.le_of_ble_eq_true rfl⟩,?_⟩|refine ⟨⟨by kernel_rfl,by kernel_rfl⟩,?_⟩|refine ⟨by decide,?_⟩|refine lit_true ?_|refine lit_false ?_))
        exact back (⟨at' + 1, cells.getD (l.getD at' ins0).k 0, x, cells, steps + 1, loads⟩, oi, _) (hgo _ rfl _ i3).1 (hgo _ rfl (oi) i3).2 (ele_tell _ _ rfl rfl (.cons _ (List.Sublist.refl _)) (List.Sublist.refl _) ⟨rfl, OwnLe.refl _, rfl, ⟨AVle.refl _, le_int hw2, AVle.refl _, trivial⟩, rfl, OwnLe.refl _, trivial⟩ (PmEq.refl _) ⟨AVle.refl _, AVle.refl _, AVle.refl _, AVle.refl _, AVle.refl _, AVle.refl _, AVle.refl _, le_int hw1, trivial⟩)
      · (repeat ((conv=>whnf);first|refine ω0 ?_|refine ω1 ?_|refine ω2 ?_|refine ω3 ?_|refine ω4 rfl ?_|refine ω5 rfl ?_|refine ω6 ?_|refine ω7 ?_|refine ω8 ?_|refine ⟨rfl,?_⟩|refine ⟨trivial,?_⟩|refine ⟨⟨rfl,Nat.le_of_ble_eq_true rfl⟩,?_⟩|refine ⟨⟨by kernel_rfl,by kernel_rfl⟩,?_⟩|refine ⟨by decide,?_⟩|refine lit_true ?_|refine lit_false ?_))
        exact back (⟨at' + 1, 64, x, cells, steps + 1, loads⟩, oi, _) (hgo _ rfl _ i3).1 (hgo _ rfl (oi) i3).2 (ele_tell _ _ rfl rfl (.cons _ (List.Sublist.refl _)) (List.Sublist.refl _) ⟨rfl, OwnLe.refl _, rfl, ⟨AVle.refl _, le_int hw2, AVle.refl _, trivial⟩, rfl, OwnLe.refl _, trivial⟩ (PmEq.refl _) ⟨AVle.refl _, AVle.refl _, AVle.refl _, AVle.refl _, AVle.refl _, AVle.refl _, AVle.refl _, le_int hw1, trivial⟩)
      · (repeat ((conv=>whnf);first|refine ω0 ?_|refine ω1 ?_|refine ω2 ?_|refine ω3 ?_|refine ω4 rfl ?_|refine ω5 rfl ?_|refine ω6 ?_|refine ω7 ?_|refine ω8 ?_|refine ⟨rfl,?_⟩|refine ⟨trivial,?_⟩|refine ⟨⟨rfl,Nat.le_of_ble_eq_true rfl⟩,?_⟩|refine ⟨⟨by kernel_rfl,by kernel_rfl⟩,?_⟩|refine ⟨by decide,?_⟩|refine lit_true ?_|refine lit_false ?_))
        exact back (⟨at' + 1, a, (l.getD at' ins0).k, cells, steps + 1, loads⟩, oi, _) (hgo _ rfl _ i3).1 (hgo _ rfl (oi) i3).2 (ele_tell _ _ rfl rfl (.cons _ (List.Sublist.refl _)) (List.Sublist.refl _) ⟨rfl, OwnLe.refl _, rfl, ⟨AVle.refl _, le_int hw2, AVle.refl _, trivial⟩, rfl, OwnLe.refl _, trivial⟩ (PmEq.refl _) ⟨AVle.refl _, AVle.refl _, AVle.refl _, AVle.refl _, AVle.refl _, AVle.refl _, AVle.refl _, le_int hw1, trivial⟩)
      · (repeat ((conv=>whnf);first|refine ω0 ?_|refine ω1 ?_|refine ω2 ?_|refine ω3 ?_|refine ω4 rfl ?_|refine ω5 rfl ?_|refine ω6 ?_|refine ω7 ?_|refine ω8 ?_|refine ⟨rfl,?_⟩|refine ⟨trivial,?_⟩|refine ⟨⟨rfl,Nat.le_of_ble_eq_true rfl⟩,?_⟩|refine ⟨⟨by kernel_rfl,by kernel_rfl⟩,?_⟩|refine ⟨by decide,?_⟩|refine lit_true ?_|refine lit_false ?_))
        have h16 : (l.getD at' ins0).k < 16 := by omega
        refine ⟨⟨Int.natCast_nonneg _, Int.ofNat_lt.2 h16⟩, splitO_eq (b := .bp (2, nx + 2) ((l.getD at' ins0).k)) (congrArg (AV.bp (2, nx + 2)) (ix1 c41)) ?_⟩
        (conv => whnf)
        refine ⟨⟨rfl, (by first | omega | (simp only [List.length_map, List.length_set, List.length_cons, List.length_nil, List.length_replicate, List.length_append]; omega))⟩, splitO_eq (b := u32A (cells.getD ((l.getD at' ins0).k) 0)) (getD_map (show (l.getD at' ins0).k < cells.length by omega)) ?_⟩
        (repeat ((conv=>whnf);first|refine ω0 ?_|refine ω1 ?_|refine ω2 ?_|refine ω3 ?_|refine ω4 rfl ?_|refine ω5 rfl ?_|refine ω6 ?_|refine ω7 ?_|refine ω8 ?_|refine ⟨rfl,?_⟩|refine ⟨trivial,?_⟩|refine ⟨⟨rfl,Nat.le_of_ble_eq_true rfl⟩,?_⟩|refine ⟨⟨by kernel_rfl,by kernel_rfl⟩,?_⟩|refine ⟨by decide,?_⟩|refine lit_true ?_|refine lit_false ?_))
        exact back (⟨at' + 1, a, cells.getD (l.getD at' ins0).k 0, cells, steps + 1, loads⟩, oi, _) (hgo _ rfl _ i3).1 (hgo _ rfl (oi) i3).2 (ele_tell _ _ rfl rfl (.cons _ (List.Sublist.refl _)) (List.Sublist.refl _) ⟨rfl, OwnLe.refl _, rfl, ⟨AVle.refl _, le_int hw2, AVle.refl _, trivial⟩, rfl, OwnLe.refl _, trivial⟩ (PmEq.refl _) ⟨AVle.refl _, AVle.refl _, AVle.refl _, AVle.refl _, AVle.refl _, AVle.refl _, AVle.refl _, le_int hw1, trivial⟩)
      · (repeat ((conv=>whnf);first|refine ω0 ?_|refine ω1 ?_|refine ω2 ?_|refine ω3 ?_|refine ω4 rfl ?_|refine ω5 rfl ?_|refine ω6 ?_|refine ω7 ?_|refine ω8 ?_|refine ⟨rfl,?_⟩|refine ⟨trivial,?_⟩|refine ⟨⟨rfl,Nat.le_of_ble_eq_true rfl⟩,?_⟩|refine ⟨⟨by kernel_rfl,by kernel_rfl⟩,?_⟩|refine ⟨by decide,?_⟩|refine lit_true ?_|refine lit_false ?_))
        exact back (⟨at' + 1, a, 64, cells, steps + 1, loads⟩, oi, _) (hgo _ rfl _ i3).1 (hgo _ rfl (oi) i3).2 (ele_tell _ _ rfl rfl (.cons _ (List.Sublist.refl _)) (List.Sublist.refl _) ⟨rfl, OwnLe.refl _, rfl, ⟨AVle.refl _, le_int hw2, AVle.refl _, trivial⟩, rfl, OwnLe.refl _, trivial⟩ (PmEq.refl _) ⟨AVle.refl _, AVle.refl _, AVle.refl _, AVle.refl _, AVle.refl _, AVle.refl _, AVle.refl _, le_int hw1, trivial⟩)
      · (repeat ((conv=>whnf);first|refine ω0 ?_|refine ω1 ?_|refine ω2 ?_|refine ω3 ?_|refine ω4 rfl ?_|refine ω5 rfl ?_|refine ω6 ?_|refine ω7 ?_|refine ω8 ?_|refine ⟨rfl,?_⟩|refine ⟨trivial,?_⟩|refine ⟨⟨rfl,Nat.le_of_ble_eq_true rfl⟩,?_⟩|refine ⟨⟨by kernel_rfl,by kernel_rfl⟩,?_⟩|refine ⟨by decide,?_⟩|refine lit_true ?_|refine lit_false ?_))
        have h16 : (l.getD at' ins0).k < 16 := by omega
        refine ⟨⟨Int.natCast_nonneg _, Int.ofNat_lt.2 h16⟩, splitO_eq (b := .bp (2, nx + 2) ((l.getD at' ins0).k)) (congrArg (AV.bp (2, nx + 2)) (ix1 c41)) ?_⟩
        (conv => whnf)
        refine ⟨⟨rfl, (by first | omega | (simp only [List.length_map, List.length_set, List.length_cons, List.length_nil, List.length_replicate, List.length_append]; omega))⟩, ?_⟩
        rw [show splice (cells.map u32A) ((l.getD at' ins0).k) [AV.v (.int .u32 (a : Nat))] = (cells.set ((l.getD at' ins0).k) (a)).map u32A from splice_one (f := u32A) (x := a) (show (l.getD at' ins0).k < cells.length by omega)]
        (repeat ((conv=>whnf);first|refine ω0 ?_|refine ω1 ?_|refine ω2 ?_|refine ω3 ?_|refine ω4 rfl ?_|refine ω5 rfl ?_|refine ω6 ?_|refine ω7 ?_|refine ω8 ?_|refine ⟨rfl,?_⟩|refine ⟨trivial,?_⟩|refine ⟨⟨rfl,Nat.le_of_ble_eq_true rfl⟩,?_⟩|refine ⟨⟨by kernel_rfl,by kernel_rfl⟩,?_⟩|refine ⟨by decide,?_⟩|refine lit_true ?_|refine lit_false ?_))
        exact back (⟨at' + 1, a, x, cells.set (l.getD at' ins0).k a, steps + 1, loads⟩, oi, _) (hgo _ rfl _ i3).1 (hgo _ rfl (oi) i3).2 (ele_tell _ _ rfl rfl (.cons _ (List.Sublist.refl _)) (List.Sublist.refl _) ⟨rfl, OwnLe.refl _, rfl, ⟨AVle.refl _, le_int hw2, AVle.refl _, trivial⟩, rfl, OwnLe.refl _, trivial⟩ (PmEq.refl _) ⟨AVle.refl _, AVle.refl _, AVle.refl _, AVle.refl _, AVle.refl _, AVle.refl _, AVle.refl _, le_int hw1, trivial⟩)
      · (repeat ((conv=>whnf);first|refine ω0 ?_|refine ω1 ?_|refine ω2 ?_|refine ω3 ?_|refine ω4 rfl ?_|refine ω5 rfl ?_|refine ω6 ?_|refine ω7 ?_|refine ω8 ?_|refine ⟨rfl,?_⟩|refine ⟨trivial,?_⟩|refine ⟨⟨rfl,Nat.le_of_ble_eq_true rfl⟩,?_⟩|refine ⟨⟨by kernel_rfl,by kernel_rfl⟩,?_⟩|refine ⟨by decide,?_⟩|refine lit_true ?_|refine lit_false ?_))
        have h16 : (l.getD at' ins0).k < 16 := by omega
        refine ⟨⟨Int.natCast_nonneg _, Int.ofNat_lt.2 h16⟩, splitO_eq (b := .bp (2, nx + 2) ((l.getD at' ins0).k)) (congrArg (AV.bp (2, nx + 2)) (ix1 c41)) ?_⟩
        (conv => whnf)
        refine ⟨⟨rfl, (by first | omega | (simp only [List.length_map, List.length_set, List.length_cons, List.length_nil, List.length_replicate, List.length_append]; omega))⟩, ?_⟩
        rw [show splice (cells.map u32A) ((l.getD at' ins0).k) [AV.v (.int .u32 (x : Nat))] = (cells.set ((l.getD at' ins0).k) (x)).map u32A from splice_one (f := u32A) (x := x) (show (l.getD at' ins0).k < cells.length by omega)]
        (repeat ((conv=>whnf);first|refine ω0 ?_|refine ω1 ?_|refine ω2 ?_|refine ω3 ?_|refine ω4 rfl ?_|refine ω5 rfl ?_|refine ω6 ?_|refine ω7 ?_|refine ω8 ?_|refine ⟨rfl,?_⟩|refine ⟨trivial,?_⟩|refine ⟨⟨rfl,Nat.le_of_ble_eq_true rfl⟩,?_⟩|refine ⟨⟨by kernel_rfl,by kernel_rfl⟩,?_⟩|refine ⟨by decide,?_⟩|refine lit_true ?_|refine lit_false ?_))
        exact back (⟨at' + 1, a, x, cells.set (l.getD at' ins0).k x, steps + 1, loads⟩, oi, _) (hgo _ rfl _ i3).1 (hgo _ rfl (oi) i3).2 (ele_tell _ _ rfl rfl (.cons _ (List.Sublist.refl _)) (List.Sublist.refl _) ⟨rfl, OwnLe.refl _, rfl, ⟨AVle.refl _, le_int hw2, AVle.refl _, trivial⟩, rfl, OwnLe.refl _, trivial⟩ (PmEq.refl _) ⟨AVle.refl _, AVle.refl _, AVle.refl _, AVle.refl _, AVle.refl _, AVle.refl _, AVle.refl _, le_int hw1, trivial⟩)
      · (repeat ((conv=>whnf);first|refine ω0 ?_|refine ω1 ?_|refine ω2 ?_|refine ω3 ?_|refine ω4 rfl ?_|refine ω5 rfl ?_|refine ω6 ?_|refine ω7 ?_|refine ω8 ?_|refine ⟨rfl,?_⟩|refine ⟨trivial,?_⟩|refine ⟨⟨rfl,Nat.le_of_ble_eq_true rfl⟩,?_⟩|refine ⟨⟨by kernel_rfl,by kernel_rfl⟩,?_⟩|refine ⟨by decide,?_⟩|refine lit_true ?_|refine lit_false ?_))
        exact back (⟨at' + 1, a, a, cells, steps + 1, loads⟩, oi, _) (hgo _ rfl _ i3).1 (hgo _ rfl (oi) i3).2 (ele_tell _ _ rfl rfl (.cons _ (List.Sublist.refl _)) (List.Sublist.refl _) ⟨rfl, OwnLe.refl _, rfl, ⟨AVle.refl _, le_int hw2, AVle.refl _, trivial⟩, rfl, OwnLe.refl _, trivial⟩ (PmEq.refl _) ⟨AVle.refl _, AVle.refl _, AVle.refl _, AVle.refl _, AVle.refl _, AVle.refl _, AVle.refl _, le_int hw1, trivial⟩)
      · (repeat ((conv=>whnf);first|refine ω0 ?_|refine ω1 ?_|refine ω2 ?_|refine ω3 ?_|refine ω4 rfl ?_|refine ω5 rfl ?_|refine ω6 ?_|refine ω7 ?_|refine ω8 ?_|refine ⟨rfl,?_⟩|refine ⟨trivial,?_⟩|refine ⟨⟨rfl,Nat.le_of_ble_eq_true rfl⟩,?_⟩|refine ⟨⟨by kernel_rfl,by kernel_rfl⟩,?_⟩|refine ⟨by decide,?_⟩|refine lit_true ?_|refine lit_false ?_))
        exact back (⟨at' + 1, x, x, cells, steps + 1, loads⟩, oi, _) (hgo _ rfl _ i3).1 (hgo _ rfl (oi) i3).2 (ele_tell _ _ rfl rfl (.cons _ (List.Sublist.refl _)) (List.Sublist.refl _) ⟨rfl, OwnLe.refl _, rfl, ⟨AVle.refl _, le_int hw2, AVle.refl _, trivial⟩, rfl, OwnLe.refl _, trivial⟩ (PmEq.refl _) ⟨AVle.refl _, AVle.refl _, AVle.refl _, AVle.refl _, AVle.refl _, AVle.refl _, AVle.refl _, le_int hw1, trivial⟩)
      · (repeat ((conv=>whnf);first|refine ω0 ?_|refine ω1 ?_|refine ω2 ?_|refine ω3 ?_|refine ω4 rfl ?_|refine ω5 rfl ?_|refine ω6 ?_|refine ω7 ?_|refine ω8 ?_|refine ⟨rfl,?_⟩|refine ⟨trivial,?_⟩|refine ⟨⟨rfl,Nat.le_of_ble_eq_true rfl⟩,?_⟩|refine ⟨⟨by kernel_rfl,by kernel_rfl⟩,?_⟩|refine ⟨by decide,?_⟩|refine lit_true ?_|refine lit_false ?_))
        exact back (⟨at' + 1, (4294967296 - a) % 4294967296, x, cells, steps + 1, loads⟩, oi, _) (hgo _ rfl _ i3).1 (hgo _ rfl (oi) i3).2 (ele_tell _ _ rfl rfl (.cons _ (List.Sublist.refl _)) (List.Sublist.refl _) ⟨rfl, OwnLe.refl _, rfl, ⟨AVle.refl _, le_int hw2, AVle.refl _, trivial⟩, rfl, OwnLe.refl _, trivial⟩ (PmEq.refl _) ⟨AVle.refl _, AVle.refl _, AVle.refl _, AVle.refl _, le_int (neg32 ha), AVle.refl _, AVle.refl _, le_int hw1, trivial⟩)
      · (repeat ((conv=>whnf);first|refine ω0 ?_|refine ω1 ?_|refine ω2 ?_|refine ω3 ?_|refine ω4 rfl ?_|refine ω5 rfl ?_|refine ω6 ?_|refine ω7 ?_|refine ω8 ?_|refine ⟨rfl,?_⟩|refine ⟨trivial,?_⟩|refine ⟨⟨rfl,Nat.le_of_ble_eq_true rfl⟩,?_⟩|refine ⟨⟨by kernel_rfl,by kernel_rfl⟩,?_⟩|refine ⟨by decide,?_⟩|refine lit_true ?_|refine lit_false ?_))
        exact back (⟨at' + 1 + (l.getD at' ins0).k, a, x, cells, steps + 1, loads⟩, oi, _) (hgo _ rfl _ i3).1 (hgo _ rfl (oi) i3).2 (ele_tell _ _ rfl rfl (.cons _ (List.Sublist.refl _)) (List.Sublist.refl _) ⟨rfl, OwnLe.refl _, rfl, ⟨AVle.refl _, le_int hw2, AVle.refl _, trivial⟩, rfl, OwnLe.refl _, trivial⟩ (PmEq.refl _) ⟨AVle.refl _, AVle.refl _, AVle.refl _, AVle.refl _, AVle.refl _, AVle.refl _, AVle.refl _, le_int (wrap_two (n := at') (k := (l.getD at' ins0).k) (by omega)), trivial⟩)
      · rw [hover _ _ rfl]
        (repeat ((conv=>whnf);first|refine ω0 ?_|refine ω1 ?_|refine ω2 ?_|refine ω3 ?_|refine ω4 rfl ?_|refine ω5 rfl ?_|refine ω6 ?_|refine ω7 ?_|refine ω8 ?_|refine ⟨rfl,?_⟩|refine ⟨trivial,?_⟩|refine ⟨⟨rfl,Nat.le_of_ble_eq_true rfl⟩,?_⟩|refine ⟨⟨by kernel_rfl,by kernel_rfl⟩,?_⟩|refine ⟨by decide,?_⟩|refine lit_true ?_|refine lit_false ?_))
        refine ret_tells_all rfl ?_ ?_
        · exact ⟨rfl, trivial⟩
        · exact AVle.ags (cs := [_, _, _]) ⟨AVle.refl _, le_int hw2, AVle.os_sl, trivial⟩
      · rw [hover _ _ rfl]
        (repeat ((conv=>whnf);first|refine ω0 ?_|refine ω1 ?_|refine ω2 ?_|refine ω3 ?_|refine ω4 rfl ?_|refine ω5 rfl ?_|refine ω6 ?_|refine ω7 ?_|refine ω8 ?_|refine ⟨rfl,?_⟩|refine ⟨trivial,?_⟩|refine ⟨⟨rfl,Nat.le_of_ble_eq_true rfl⟩,?_⟩|refine ⟨⟨by kernel_rfl,by kernel_rfl⟩,?_⟩|refine ⟨by decide,?_⟩|refine lit_true ?_|refine lit_false ?_))
        refine ret_tells_all rfl ?_ ?_
        · exact ⟨rfl, trivial⟩
        · exact AVle.ags (cs := [_, _, _]) ⟨AVle.refl _, le_int hw2, AVle.os_sl, trivial⟩
      · (repeat ((conv=>whnf);first|refine ω0 ?_|refine ω1 ?_|refine ω2 ?_|refine ω3 ?_|refine ω4 rfl ?_|refine ω5 rfl ?_|refine ω6 ?_|refine ω7 ?_|refine ω8 ?_|refine ⟨rfl,?_⟩|refine ⟨trivial,?_⟩|refine ⟨⟨rfl,Nat.le_of_ble_eq_true rfl⟩,?_⟩|refine ⟨⟨by kernel_rfl,by kernel_rfl⟩,?_⟩|refine ⟨by decide,?_⟩|refine lit_true ?_|refine lit_false ?_))
        exact back (⟨at' + 1, (a + x) % 4294967296, x, cells, steps + 1, loads⟩, oi, _) (hgo _ rfl _ i3).1 (hgo _ rfl (oi) i3).2 (ele_tell _ _ rfl rfl (.cons _ (List.Sublist.refl _)) (List.Sublist.refl _) ⟨rfl, OwnLe.refl _, rfl, ⟨AVle.refl _, le_int hw2, AVle.refl _, trivial⟩, rfl, OwnLe.refl _, trivial⟩ (PmEq.refl _) ⟨AVle.refl _, AVle.refl _, AVle.refl _, AVle.refl _, le_int (add32 _ _), AVle.refl _, AVle.refl _, le_int hw1, trivial⟩)
      · (repeat ((conv=>whnf);first|refine ω0 ?_|refine ω1 ?_|refine ω2 ?_|refine ω3 ?_|refine ω4 rfl ?_|refine ω5 rfl ?_|refine ω6 ?_|refine ω7 ?_|refine ω8 ?_|refine ⟨rfl,?_⟩|refine ⟨trivial,?_⟩|refine ⟨⟨rfl,Nat.le_of_ble_eq_true rfl⟩,?_⟩|refine ⟨⟨by kernel_rfl,by kernel_rfl⟩,?_⟩|refine ⟨by decide,?_⟩|refine lit_true ?_|refine lit_false ?_))
        exact back (⟨at' + 1, (a + 4294967296 - x) % 4294967296, x, cells, steps + 1, loads⟩, oi, _) (hgo _ rfl _ i3).1 (hgo _ rfl (oi) i3).2 (ele_tell _ _ rfl rfl (.cons _ (List.Sublist.refl _)) (List.Sublist.refl _) ⟨rfl, OwnLe.refl _, rfl, ⟨AVle.refl _, le_int hw2, AVle.refl _, trivial⟩, rfl, OwnLe.refl _, trivial⟩ (PmEq.refl _) ⟨AVle.refl _, AVle.refl _, AVle.refl _, AVle.refl _, le_int (sub32 hx), AVle.refl _, AVle.refl _, le_int hw1, trivial⟩)
      · (repeat ((conv=>whnf);first|refine ω0 ?_|refine ω1 ?_|refine ω2 ?_|refine ω3 ?_|refine ω4 rfl ?_|refine ω5 rfl ?_|refine ω6 ?_|refine ω7 ?_|refine ω8 ?_|refine ⟨rfl,?_⟩|refine ⟨trivial,?_⟩|refine ⟨⟨rfl,Nat.le_of_ble_eq_true rfl⟩,?_⟩|refine ⟨⟨by kernel_rfl,by kernel_rfl⟩,?_⟩|refine ⟨by decide,?_⟩|refine lit_true ?_|refine lit_false ?_))
        exact back (⟨at' + 1, a * x % 4294967296, x, cells, steps + 1, loads⟩, oi, _) (hgo _ rfl _ i3).1 (hgo _ rfl (oi) i3).2 (ele_tell _ _ rfl rfl (.cons _ (List.Sublist.refl _)) (List.Sublist.refl _) ⟨rfl, OwnLe.refl _, rfl, ⟨AVle.refl _, le_int hw2, AVle.refl _, trivial⟩, rfl, OwnLe.refl _, trivial⟩ (PmEq.refl _) ⟨AVle.refl _, AVle.refl _, AVle.refl _, AVle.refl _, le_int (mul32 _ _), AVle.refl _, AVle.refl _, le_int hw1, trivial⟩)
      · (repeat ((conv=>whnf);first|refine ω0 ?_|refine ω1 ?_|refine ω2 ?_|refine ω3 ?_|refine ω4 rfl ?_|refine ω5 rfl ?_|refine ω6 ?_|refine ω7 ?_|refine ω8 ?_|refine ⟨rfl,?_⟩|refine ⟨trivial,?_⟩|refine ⟨⟨rfl,Nat.le_of_ble_eq_true rfl⟩,?_⟩|refine ⟨⟨by kernel_rfl,by kernel_rfl⟩,?_⟩|refine ⟨by decide,?_⟩|refine lit_true ?_|refine lit_false ?_))
        intro c e0; cases c
        · have e0 := fct_b0.1 e0
          have e0 : x ≠ 0 := fun h => e0 (by show ((x : Nat) : Int) = 0; rw [h]; rfl)
          (repeat ((conv=>whnf);first|refine ω0 ?_|refine ω1 ?_|refine ω2 ?_|refine ω3 ?_|refine ω4 rfl ?_|refine ω5 rfl ?_|refine ω6 ?_|refine ω7 ?_|refine ω8 ?_|refine ⟨rfl,?_⟩|refine ⟨trivial,?_⟩|refine ⟨⟨rfl,Nat.le_of_ble_eq_true rfl⟩,?_⟩|refine ⟨⟨by kernel_rfl,by kernel_rfl⟩,?_⟩|refine ⟨by decide,?_⟩|refine lit_true ?_|refine lit_false ?_))
          refine ⟨fun h => e0 (Int.ofNat_inj.1 (show ((x : Nat) : Int) = ((0 : Nat) : Int) from h)), ?_⟩
          (repeat ((conv=>whnf);first|refine ω0 ?_|refine ω1 ?_|refine ω2 ?_|refine ω3 ?_|refine ω4 rfl ?_|refine ω5 rfl ?_|refine ω6 ?_|refine ω7 ?_|refine ω8 ?_|refine ⟨rfl,?_⟩|refine ⟨trivial,?_⟩|refine ⟨⟨rfl,Nat.le_of_ble_eq_true rfl⟩,?_⟩|refine ⟨⟨by kernel_rfl,by kernel_rfl⟩,?_⟩|refine ⟨by decide,?_⟩|refine lit_true ?_|refine lit_false ?_))
          exact back (⟨at' + 1, a / x, x, cells, steps + 1, loads⟩, oi, _) (hgo _ (congrArg (fun o : Option Nat => match o with | some v => ((none : Option Nat), ({ (⟨at' + 1, a, x, cells, steps + 1, loads⟩ : Rn) with a := v } : Rn)) | none => (some 0, (⟨at' + 1, a, x, cells, steps + 1, loads⟩ : Rn))) (reck19 (a := a) e0)) _ i3).1 (hgo _ (congrArg (fun o : Option Nat => match o with | some v => ((none : Option Nat), ({ (⟨at' + 1, a, x, cells, steps + 1, loads⟩ : Rn) with a := v } : Rn)) | none => (some 0, (⟨at' + 1, a, x, cells, steps + 1, loads⟩ : Rn))) (reck19 (a := a) e0)) (oi) i3).2 (ele_tell _ _ rfl rfl (.cons _ (List.Sublist.refl _)) (List.Sublist.refl _) ⟨rfl, OwnLe.refl _, rfl, ⟨AVle.refl _, le_int hw2, AVle.refl _, trivial⟩, rfl, OwnLe.refl _, trivial⟩ (PmEq.refl _) ⟨AVle.refl _, AVle.refl _, AVle.refl _, AVle.refl _, le_int (quo32 ha), AVle.refl _, AVle.refl _, le_int hw1, trivial⟩)
        · have e0 := fct_b1.1 e0
          have e0 : x = 0 := Int.ofNat_inj.1 (show ((x : Nat) : Int) = ((0 : Nat) : Int) from e0)
          rw [hover 0 (⟨at' + 1, a, x, cells, steps + 1, loads⟩ : Rn) (congrArg (fun n => match reckV 19 a n with | some v => ((none : Option Nat), ({ (⟨at' + 1, a, x, cells, steps + 1, loads⟩ : Rn) with a := v } : Rn)) | none => (some 0, (⟨at' + 1, a, x, cells, steps + 1, loads⟩ : Rn))) e0)]
          (repeat ((conv=>whnf);first|refine ω0 ?_|refine ω1 ?_|refine ω2 ?_|refine ω3 ?_|refine ω4 rfl ?_|refine ω5 rfl ?_|refine ω6 ?_|refine ω7 ?_|refine ω8 ?_|refine ⟨rfl,?_⟩|refine ⟨trivial,?_⟩|refine ⟨⟨rfl,Nat.le_of_ble_eq_true rfl⟩,?_⟩|refine ⟨⟨by kernel_rfl,by kernel_rfl⟩,?_⟩|refine ⟨by decide,?_⟩|refine lit_true ?_|refine lit_false ?_))
          refine ret_tells_all rfl ?_ ?_
          · exact ⟨rfl, trivial⟩
          · exact AVle.ags (cs := [_, _, _]) ⟨AVle.refl _, le_int hw2, AVle.os_sl, trivial⟩
      · (repeat ((conv=>whnf);first|refine ω0 ?_|refine ω1 ?_|refine ω2 ?_|refine ω3 ?_|refine ω4 rfl ?_|refine ω5 rfl ?_|refine ω6 ?_|refine ω7 ?_|refine ω8 ?_|refine ⟨rfl,?_⟩|refine ⟨trivial,?_⟩|refine ⟨⟨rfl,Nat.le_of_ble_eq_true rfl⟩,?_⟩|refine ⟨⟨by kernel_rfl,by kernel_rfl⟩,?_⟩|refine ⟨by decide,?_⟩|refine lit_true ?_|refine lit_false ?_))
        exact back (⟨at' + 1, a ||| x, x, cells, steps + 1, loads⟩, oi, _) (hgo _ rfl _ i3).1 (hgo _ rfl (oi) i3).2 (ele_tell _ _ rfl rfl (.cons _ (List.Sublist.refl _)) (List.Sublist.refl _) ⟨rfl, OwnLe.refl _, rfl, ⟨AVle.refl _, le_int hw2, AVle.refl _, trivial⟩, rfl, OwnLe.refl _, trivial⟩ (PmEq.refl _) ⟨AVle.refl _, AVle.refl _, AVle.refl _, AVle.refl _, le_int (u32_or' ha hx), AVle.refl _, AVle.refl _, le_int hw1, trivial⟩)
      · (repeat ((conv=>whnf);first|refine ω0 ?_|refine ω1 ?_|refine ω2 ?_|refine ω3 ?_|refine ω4 rfl ?_|refine ω5 rfl ?_|refine ω6 ?_|refine ω7 ?_|refine ω8 ?_|refine ⟨rfl,?_⟩|refine ⟨trivial,?_⟩|refine ⟨⟨rfl,Nat.le_of_ble_eq_true rfl⟩,?_⟩|refine ⟨⟨by kernel_rfl,by kernel_rfl⟩,?_⟩|refine ⟨by decide,?_⟩|refine lit_true ?_|refine lit_false ?_))
        exact back (⟨at' + 1, a &&& x, x, cells, steps + 1, loads⟩, oi, _) (hgo _ rfl _ i3).1 (hgo _ rfl (oi) i3).2 (ele_tell _ _ rfl rfl (.cons _ (List.Sublist.refl _)) (List.Sublist.refl _) ⟨rfl, OwnLe.refl _, rfl, ⟨AVle.refl _, le_int hw2, AVle.refl _, trivial⟩, rfl, OwnLe.refl _, trivial⟩ (PmEq.refl _) ⟨AVle.refl _, AVle.refl _, AVle.refl _, AVle.refl _, le_int (u32_and ha hx), AVle.refl _, AVle.refl _, le_int hw1, trivial⟩)
      · (repeat ((conv=>whnf);first|refine ω0 ?_|refine ω1 ?_|refine ω2 ?_|refine ω3 ?_|refine ω4 rfl ?_|refine ω5 rfl ?_|refine ω6 ?_|refine ω7 ?_|refine ω8 ?_|refine ⟨rfl,?_⟩|refine ⟨trivial,?_⟩|refine ⟨⟨rfl,Nat.le_of_ble_eq_true rfl⟩,?_⟩|refine ⟨⟨by kernel_rfl,by kernel_rfl⟩,?_⟩|refine ⟨by decide,?_⟩|refine lit_true ?_|refine lit_false ?_))
        refine aop_tells rfl rfl (shiftR_spec a x ha hx true) ⟨AVle.refl _, AVle.refl _, AVle.refl _, trivial⟩ fun nx4 => ?_
        (repeat ((conv=>whnf);first|refine ω0 ?_|refine ω1 ?_|refine ω2 ?_|refine ω3 ?_|refine ω4 rfl ?_|refine ω5 rfl ?_|refine ω6 ?_|refine ω7 ?_|refine ω8 ?_|refine ⟨rfl,?_⟩|refine ⟨trivial,?_⟩|refine ⟨⟨rfl,Nat.le_of_ble_eq_true rfl⟩,?_⟩|refine ⟨⟨by kernel_rfl,by kernel_rfl⟩,?_⟩|refine ⟨by decide,?_⟩|refine lit_true ?_|refine lit_false ?_))
        exact back (⟨at' + 1, a * 2 ^ (x % 32) % 4294967296, x, cells, steps + 1, loads⟩, oi, _) (hgo _ rfl _ i3).1 (hgo _ rfl (oi) i3).2 (ele_tell _ _ rfl rfl (.cons _ (List.Sublist.refl _)) (List.Sublist.refl _) ⟨rfl, OwnLe.refl _, rfl, ⟨AVle.refl _, le_int hw2, AVle.refl _, trivial⟩, rfl, OwnLe.refl _, trivial⟩ (PmEq.refl _) ⟨AVle.refl _, AVle.refl _, AVle.refl _, AVle.refl _, AVle.refl _, AVle.refl _, AVle.refl _, le_int hw1, trivial⟩)
      · (repeat ((conv=>whnf);first|refine ω0 ?_|refine ω1 ?_|refine ω2 ?_|refine ω3 ?_|refine ω4 rfl ?_|refine ω5 rfl ?_|refine ω6 ?_|refine ω7 ?_|refine ω8 ?_|refine ⟨rfl,?_⟩|refine ⟨trivial,?_⟩|refine ⟨⟨rfl,Nat.le_of_ble_eq_true rfl⟩,?_⟩|refine ⟨⟨by kernel_rfl,by kernel_rfl⟩,?_⟩|refine ⟨by decide,?_⟩|refine lit_true ?_|refine lit_false ?_))
        refine aop_tells rfl rfl (shiftR_spec a x ha hx false) ⟨AVle.refl _, AVle.refl _, AVle.refl _, trivial⟩ fun nx4 => ?_
        (repeat ((conv=>whnf);first|refine ω0 ?_|refine ω1 ?_|refine ω2 ?_|refine ω3 ?_|refine ω4 rfl ?_|refine ω5 rfl ?_|refine ω6 ?_|refine ω7 ?_|refine ω8 ?_|refine ⟨rfl,?_⟩|refine ⟨trivial,?_⟩|refine ⟨⟨rfl,Nat.le_of_ble_eq_true rfl⟩,?_⟩|refine ⟨⟨by kernel_rfl,by kernel_rfl⟩,?_⟩|refine ⟨by decide,?_⟩|refine lit_true ?_|refine lit_false ?_))
        exact back (⟨at' + 1, a / 2 ^ (x % 32), x, cells, steps + 1, loads⟩, oi, _) (hgo _ rfl _ i3).1 (hgo _ rfl (oi) i3).2 (ele_tell _ _ rfl rfl (.cons _ (List.Sublist.refl _)) (List.Sublist.refl _) ⟨rfl, OwnLe.refl _, rfl, ⟨AVle.refl _, le_int hw2, AVle.refl _, trivial⟩, rfl, OwnLe.refl _, trivial⟩ (PmEq.refl _) ⟨AVle.refl _, AVle.refl _, AVle.refl _, AVle.refl _, AVle.refl _, AVle.refl _, AVle.refl _, le_int hw1, trivial⟩)
      · (repeat ((conv=>whnf);first|refine ω0 ?_|refine ω1 ?_|refine ω2 ?_|refine ω3 ?_|refine ω4 rfl ?_|refine ω5 rfl ?_|refine ω6 ?_|refine ω7 ?_|refine ω8 ?_|refine ⟨rfl,?_⟩|refine ⟨trivial,?_⟩|refine ⟨⟨rfl,Nat.le_of_ble_eq_true rfl⟩,?_⟩|refine ⟨⟨by kernel_rfl,by kernel_rfl⟩,?_⟩|refine ⟨by decide,?_⟩|refine lit_true ?_|refine lit_false ?_))
        exact back (⟨at' + 1, a ^^^ x, x, cells, steps + 1, loads⟩, oi, _) (hgo _ rfl _ i3).1 (hgo _ rfl (oi) i3).2 (ele_tell _ _ rfl rfl (.cons _ (List.Sublist.refl _)) (List.Sublist.refl _) ⟨rfl, OwnLe.refl _, rfl, ⟨AVle.refl _, le_int hw2, AVle.refl _, trivial⟩, rfl, OwnLe.refl _, trivial⟩ (PmEq.refl _) ⟨AVle.refl _, AVle.refl _, AVle.refl _, AVle.refl _, le_int (xor32 ha hx), AVle.refl _, AVle.refl _, le_int hw1, trivial⟩)
      · (repeat ((conv=>whnf);first|refine ω0 ?_|refine ω1 ?_|refine ω2 ?_|refine ω3 ?_|refine ω4 rfl ?_|refine ω5 rfl ?_|refine ω6 ?_|refine ω7 ?_|refine ω8 ?_|refine ⟨rfl,?_⟩|refine ⟨trivial,?_⟩|refine ⟨⟨rfl,Nat.le_of_ble_eq_true rfl⟩,?_⟩|refine ⟨⟨by kernel_rfl,by kernel_rfl⟩,?_⟩|refine ⟨by decide,?_⟩|refine lit_true ?_|refine lit_false ?_))
        intro c e0; cases c
        · have e0 := fct_b0.1 e0
          have e0 : ¬ (a = x) := fun h => e0 (by show (a : Int) = ((x : Nat) : Int); rw [← h])
          (repeat ((conv=>whnf);first|refine ω0 ?_|refine ω1 ?_|refine ω2 ?_|refine ω3 ?_|refine ω4 rfl ?_|refine ω5 rfl ?_|refine ω6 ?_|refine ω7 ?_|refine ω8 ?_|refine ⟨rfl,?_⟩|refine ⟨trivial,?_⟩|refine ⟨⟨rfl,Nat.le_of_ble_eq_true rfl⟩,?_⟩|refine ⟨⟨by kernel_rfl,by kernel_rfl⟩,?_⟩|refine ⟨by decide,?_⟩|refine lit_true ?_|refine lit_false ?_))
          exact back (⟨at' + 1 + (l.getD at' ins0).jf, a, x, cells, steps + 1, loads⟩, oi, _) (hgo _ (congrArg (fun c : Bool => ((none : Option Nat), ({ (⟨at' + 1, a, x, cells, steps + 1, loads⟩ : Rn) with at' := at' + 1 + if c then (l.getD at' ins0).jt else (l.getD at' ins0).jf } : Rn))) (show branchV 25 a (x) = false from decide_eq_false e0)) _ i3).1 (hgo _ (congrArg (fun c : Bool => ((none : Option Nat), ({ (⟨at' + 1, a, x, cells, steps + 1, loads⟩ : Rn) with at' := at' + 1 + if c then (l.getD at' ins0).jt else (l.getD at' ins0).jf } : Rn))) (show branchV 25 a (x) = false from decide_eq_false e0)) (oi) i3).2 (ele_tell _ _ rfl rfl (.cons _ (List.Sublist.refl _)) (List.Sublist.refl _) ⟨rfl, OwnLe.refl _, rfl, ⟨AVle.refl _, le_int hw2, AVle.refl _, trivial⟩, rfl, OwnLe.refl _, trivial⟩ (PmEq.refl _) ⟨AVle.refl _, AVle.refl _, AVle.refl _, AVle.refl _, AVle.refl _, AVle.refl _, AVle.refl _, le_int (wrap_two (n := at') (k := (l.getD at' ins0).jf) (by omega)), trivial⟩)
        · have e0 := fct_b1.1 e0
          have e0 : (a = x) := Int.ofNat_inj.1 (show (a : Int) = ((x : Nat) : Int) from e0)
          (repeat ((conv=>whnf);first|refine ω0 ?_|refine ω1 ?_|refine ω2 ?_|refine ω3 ?_|refine ω4 rfl ?_|refine ω5 rfl ?_|refine ω6 ?_|refine ω7 ?_|refine ω8 ?_|refine ⟨rfl,?_⟩|refine ⟨trivial,?_⟩|refine ⟨⟨rfl,Nat.le_of_ble_eq_true rfl⟩,?_⟩|refine ⟨⟨by kernel_rfl,by kernel_rfl⟩,?_⟩|refine ⟨by decide,?_⟩|refine lit_true ?_|refine lit_false ?_))
          exact back (⟨at' + 1 + (l.getD at' ins0).jt, a, x, cells, steps + 1, loads⟩, oi, _) (hgo _ (congrArg (fun c : Bool => ((none : Option Nat), ({ (⟨at' + 1, a, x, cells, steps + 1, loads⟩ : Rn) with at' := at' + 1 + if c then (l.getD at' ins0).jt else (l.getD at' ins0).jf } : Rn))) (show branchV 25 a (x) = true from decide_eq_true e0)) _ i3).1 (hgo _ (congrArg (fun c : Bool => ((none : Option Nat), ({ (⟨at' + 1, a, x, cells, steps + 1, loads⟩ : Rn) with at' := at' + 1 + if c then (l.getD at' ins0).jt else (l.getD at' ins0).jf } : Rn))) (show branchV 25 a (x) = true from decide_eq_true e0)) (oi) i3).2 (ele_tell _ _ rfl rfl (.cons _ (List.Sublist.refl _)) (List.Sublist.refl _) ⟨rfl, OwnLe.refl _, rfl, ⟨AVle.refl _, le_int hw2, AVle.refl _, trivial⟩, rfl, OwnLe.refl _, trivial⟩ (PmEq.refl _) ⟨AVle.refl _, AVle.refl _, AVle.refl _, AVle.refl _, AVle.refl _, AVle.refl _, AVle.refl _, le_int (wrap_two (n := at') (k := (l.getD at' ins0).jt) (by omega)), trivial⟩)
      · (repeat ((conv=>whnf);first|refine ω0 ?_|refine ω1 ?_|refine ω2 ?_|refine ω3 ?_|refine ω4 rfl ?_|refine ω5 rfl ?_|refine ω6 ?_|refine ω7 ?_|refine ω8 ?_|refine ⟨rfl,?_⟩|refine ⟨trivial,?_⟩|refine ⟨⟨rfl,Nat.le_of_ble_eq_true rfl⟩,?_⟩|refine ⟨⟨by kernel_rfl,by kernel_rfl⟩,?_⟩|refine ⟨by decide,?_⟩|refine lit_true ?_|refine lit_false ?_))
        intro c e0; cases c
        · have e0 := fct_d0.1 e0
          have e0 : ¬ (a > x) := fun h => e0 (show ((x : Nat) : Int) < (a : Int) from Int.ofNat_lt.2 h)
          (repeat ((conv=>whnf);first|refine ω0 ?_|refine ω1 ?_|refine ω2 ?_|refine ω3 ?_|refine ω4 rfl ?_|refine ω5 rfl ?_|refine ω6 ?_|refine ω7 ?_|refine ω8 ?_|refine ⟨rfl,?_⟩|refine ⟨trivial,?_⟩|refine ⟨⟨rfl,Nat.le_of_ble_eq_true rfl⟩,?_⟩|refine ⟨⟨by kernel_rfl,by kernel_rfl⟩,?_⟩|refine ⟨by decide,?_⟩|refine lit_true ?_|refine lit_false ?_))
          exact back (⟨at' + 1 + (l.getD at' ins0).jf, a, x, cells, steps + 1, loads⟩, oi, _) (hgo _ (congrArg (fun c : Bool => ((none : Option Nat), ({ (⟨at' + 1, a, x, cells, steps + 1, loads⟩ : Rn) with at' := at' + 1 + if c then (l.getD at' ins0).jt else (l.getD at' ins0).jf } : Rn))) (show branchV 26 a (x) = false from decide_eq_false e0)) _ i3).1 (hgo _ (congrArg (fun c : Bool => ((none : Option Nat), ({ (⟨at' + 1, a, x, cells, steps + 1, loads⟩ : Rn) with at' := at' + 1 + if c then (l.getD at' ins0).jt else (l.getD at' ins0).jf } : Rn))) (show branchV 26 a (x) = false from decide_eq_false e0)) (oi) i3).2 (ele_tell _ _ rfl rfl (.cons _ (List.Sublist.refl _)) (List.Sublist.refl _) ⟨rfl, OwnLe.refl _, rfl, ⟨AVle.refl _, le_int hw2, AVle.refl _, trivial⟩, rfl, OwnLe.refl _, trivial⟩ (PmEq.refl _) ⟨AVle.refl _, AVle.refl _, AVle.refl _, AVle.refl _, AVle.refl _, AVle.refl _, AVle.refl _, le_int (wrap_two (n := at') (k := (l.getD at' ins0).jf) (by omega)), trivial⟩)
        · have e0 := fct_d1.1 e0
          have e0 : (a > x) := Int.ofNat_lt.1 (show ((x : Nat) : Int) < (a : Int) from e0)
          (repeat ((conv=>whnf);first|refine ω0 ?_|refine ω1 ?_|refine ω2 ?_|refine ω3 ?_|refine ω4 rfl ?_|refine ω5 rfl ?_|refine ω6 ?_|refine ω7 ?_|refine ω8 ?_|refine ⟨rfl,?_⟩|refine ⟨trivial,?_⟩|refine ⟨⟨rfl,Nat.le_of_ble_eq_true rfl⟩,?_⟩|refine ⟨⟨by kernel_rfl,by kernel_rfl⟩,?_⟩|refine ⟨by decide,?_⟩|refine lit_true ?_|refine lit_false ?_))
          exact back (⟨at' + 1 + (l.getD at' ins0).jt, a, x, cells, steps + 1, loads⟩, oi, _) (hgo _ (congrArg (fun c : Bool => ((none : Option Nat), ({ (⟨at' + 1, a, x, cells, steps + 1, loads⟩ : Rn) with at' := at' + 1 + if c then (l.getD at' ins0).jt else (l.getD at' ins0).jf } : Rn))) (show branchV 26 a (x) = true from decide_eq_true e0)) _ i3).1 (hgo _ (congrArg (fun c : Bool => ((none : Option Nat), ({ (⟨at' + 1, a, x, cells, steps + 1, loads⟩ : Rn) with at' := at' + 1 + if c then (l.getD at' ins0).jt else (l.getD at' ins0).jf } : Rn))) (show branchV 26 a (x) = true from decide_eq_true e0)) (oi) i3).2 (ele_tell _ _ rfl rfl (.cons _ (List.Sublist.refl _)) (List.Sublist.refl _) ⟨rfl, OwnLe.refl _, rfl, ⟨AVle.refl _, le_int hw2, AVle.refl _, trivial⟩, rfl, OwnLe.refl _, trivial⟩ (PmEq.refl _) ⟨AVle.refl _, AVle.refl _, AVle.refl _, AVle.refl _, AVle.refl _, AVle.refl _, AVle.refl _, le_int (wrap_two (n := at') (k := (l.getD at' ins0).jt) (by omega)), trivial⟩)
      · (repeat ((conv=>whnf);first|refine ω0 ?_|refine ω1 ?_|refine ω2 ?_|refine ω3 ?_|refine ω4 rfl ?_|refine ω5 rfl ?_|refine ω6 ?_|refine ω7 ?_|refine ω8 ?_|refine ⟨rfl,?_⟩|refine ⟨trivial,?_⟩|refine ⟨⟨rfl,Nat.le_of_ble_eq_true rfl⟩,?_⟩|refine ⟨⟨by kernel_rfl,by kernel_rfl⟩,?_⟩|refine ⟨by decide,?_⟩|refine lit_true ?_|refine lit_false ?_))
        intro c e0; cases c
        · have e0 := fct_d0.1 e0
          have e0 : ¬ (a ≥ x) := fun h => e0 (show ((x : Nat) : Int) ≤ (a : Int) from Int.ofNat_le.2 h)
          (repeat ((conv=>whnf);first|refine ω0 ?_|refine ω1 ?_|refine ω2 ?_|refine ω3 ?_|refine ω4 rfl ?_|refine ω5 rfl ?_|refine ω6 ?_|refine ω7 ?_|refine ω8 ?_|refine ⟨rfl,?_⟩|refine ⟨trivial,?_⟩|refine ⟨⟨rfl,Nat.le_of_ble_eq_true rfl⟩,?_⟩|refine ⟨⟨by kernel_rfl,by kernel_rfl⟩,?_⟩|refine ⟨by decide,?_⟩|refine lit_true ?_|refine lit_false ?_))
          exact back (⟨at' + 1 + (l.getD at' ins0).jf, a, x, cells, steps + 1, loads⟩, oi, _) (hgo _ (congrArg (fun c : Bool => ((none : Option Nat), ({ (⟨at' + 1, a, x, cells, steps + 1, loads⟩ : Rn) with at' := at' + 1 + if c then (l.getD at' ins0).jt else (l.getD at' ins0).jf } : Rn))) (show branchV 27 a (x) = false from decide_eq_false e0)) _ i3).1 (hgo _ (congrArg (fun c : Bool => ((none : Option Nat), ({ (⟨at' + 1, a, x, cells, steps + 1, loads⟩ : Rn) with at' := at' + 1 + if c then (l.getD at' ins0).jt else (l.getD at' ins0).jf } : Rn))) (show branchV 27 a (x) = false from decide_eq_false e0)) (oi) i3).2 (ele_tell _ _ rfl rfl (.cons _ (List.Sublist.refl _)) (List.Sublist.refl _) ⟨rfl, OwnLe.refl _, rfl, ⟨AVle.refl _, le_int hw2, AVle.refl _, trivial⟩, rfl, OwnLe.refl _, trivial⟩ (PmEq.refl _) ⟨AVle.refl _, AVle.refl _, AVle.refl _, AVle.refl _, AVle.refl _, AVle.refl _, AVle.refl _, le_int (wrap_two (n := at') (k := (l.getD at' ins0).jf) (by omega)), trivial⟩)
        · have e0 := fct_d1.1 e0
          have e0 : (a ≥ x) := Int.ofNat_le.1 (show ((x : Nat) : Int) ≤ (a : Int) from e0)
          (repeat ((conv=>whnf);first|refine ω0 ?_|refine ω1 ?_|refine ω2 ?_|refine ω3 ?_|refine ω4 rfl ?_|refine ω5 rfl ?_|refine ω6 ?_|refine ω7 ?_|refine ω8 ?_|refine ⟨rfl,?_⟩|refine ⟨trivial,?_⟩|refine ⟨⟨rfl,Nat.le_of_ble_eq_true rfl⟩,?_⟩|refine ⟨⟨by kernel_rfl,by kernel_rfl⟩,?_⟩|refine ⟨by decide,?_⟩|refine lit_true ?_|refine lit_false ?_))
          exact back (⟨at' + 1 + (l.getD at' ins0).jt, a, x, cells, steps + 1, loads⟩, oi, _) (hgo _ (congrArg (fun c : Bool => ((none : Option Nat), ({ (⟨at' + 1, a, x, cells, steps + 1, loads⟩ : Rn) with at' := at' + 1 + if c then (l.getD at' ins0).jt else (l.getD at' ins0).jf } : Rn))) (show branchV 27 a (x) = true from decide_eq_true e0)) _ i3).1 (hgo _ (congrArg (fun c : Bool => ((none : Option Nat), ({ (⟨at' + 1, a, x, cells, steps + 1, loads⟩ : Rn) with at' := at' + 1 + if c then (l.getD at' ins0).jt else (l.getD at' ins0).jf } : Rn))) (show branchV 27 a (x) = true from decide_eq_true e0)) (oi) i3).2 (ele_tell _ _ rfl rfl (.cons _ (List.Sublist.refl _)) (List.Sublist.refl _) ⟨rfl, OwnLe.refl _, rfl, ⟨AVle.refl _, le_int hw2, AVle.refl _, trivial⟩, rfl, OwnLe.refl _, trivial⟩ (PmEq.refl _) ⟨AVle.refl _, AVle.refl _, AVle.refl _, AVle.refl _, AVle.refl _, AVle.refl _, AVle.refl _, le_int (wrap_two (n := at') (k := (l.getD at' ins0).jt) (by omega)), trivial⟩)
      · (repeat ((conv=>whnf);first|refine ω0 ?_|refine ω1 ?_|refine ω2 ?_|refine ω3 ?_|refine ω4 rfl ?_|refine ω5 rfl ?_|refine ω6 ?_|refine ω7 ?_|refine ω8 ?_|refine ⟨rfl,?_⟩|refine ⟨trivial,?_⟩|refine ⟨⟨rfl,Nat.le_of_ble_eq_true rfl⟩,?_⟩|refine ⟨⟨by kernel_rfl,by kernel_rfl⟩,?_⟩|refine ⟨by decide,?_⟩|refine lit_true ?_|refine lit_false ?_))
        intro c e0; cases c
        · have e0 := fct_n0.1 e0
          have e1 : bitsI .and .u32 (a : Int) (x : Int) = ((a &&& x : Nat) : Int) := u32_and ha hx
          have e0 : ¬ (a &&& x ≠ 0) := fun h => h (Int.ofNat_inj.1 (e1.symm.trans e0))
          (repeat ((conv=>whnf);first|refine ω0 ?_|refine ω1 ?_|refine ω2 ?_|refine ω3 ?_|refine ω4 rfl ?_|refine ω5 rfl ?_|refine ω6 ?_|refine ω7 ?_|refine ω8 ?_|refine ⟨rfl,?_⟩|refine ⟨trivial,?_⟩|refine ⟨⟨rfl,Nat.le_of_ble_eq_true rfl⟩,?_⟩|refine ⟨⟨by kernel_rfl,by kernel_rfl⟩,?_⟩|refine ⟨by decide,?_⟩|refine lit_true ?_|refine lit_false ?_))
          exact back (⟨at' + 1 + (l.getD at' ins0).jf, a, x, cells, steps + 1, loads⟩, oi, _) (hgo _ (congrArg (fun c : Bool => ((none : Option Nat), ({ (⟨at' + 1, a, x, cells, steps + 1, loads⟩ : Rn) with at' := at' + 1 + if c then (l.getD at' ins0).jt else (l.getD at' ins0).jf } : Rn))) (show branchV 28 a (x) = false from decide_eq_false e0)) _ i3).1 (hgo _ (congrArg (fun c : Bool => ((none : Option Nat), ({ (⟨at' + 1, a, x, cells, steps + 1, loads⟩ : Rn) with at' := at' + 1 + if c then (l.getD at' ins0).jt else (l.getD at' ins0).jf } : Rn))) (show branchV 28 a (x) = false from decide_eq_false e0)) (oi) i3).2 (ele_tell _ _ rfl rfl (.cons _ (List.Sublist.refl _)) (List.Sublist.refl _) ⟨rfl, OwnLe.refl _, rfl, ⟨AVle.refl _, le_int hw2, AVle.refl _, trivial⟩, rfl, OwnLe.refl _, trivial⟩ (PmEq.refl _) ⟨AVle.refl _, AVle.refl _, AVle.refl _, AVle.refl _, AVle.refl _, AVle.refl _, AVle.refl _, le_int (wrap_two (n := at') (k := (l.getD at' ins0).jf) (by omega)), trivial⟩)
        · have e0 := fct_n1.1 e0
          have e1 : bitsI .and .u32 (a : Int) (x : Int) = ((a &&& x : Nat) : Int) := u32_and ha hx
          have e0 : (a &&& x ≠ 0) := fun h => e0 (e1.trans (by rw [h]; rfl))
          (repeat ((conv=>whnf);first|refine ω0 ?_|refine ω1 ?_|refine ω2 ?_|refine ω3 ?_|refine ω4 rfl ?_|refine ω5 rfl ?_|refine ω6 ?_|refine ω7 ?_|refine ω8 ?_|refine ⟨rfl,?_⟩|refine ⟨trivial,?_⟩|refine ⟨⟨rfl,Nat.le_of_ble_eq_true rfl⟩,?_⟩|refine ⟨⟨by kernel_rfl,by kernel_rfl⟩,?_⟩|refine ⟨by decide,?_⟩|refine lit_true ?_|refine lit_false ?_))
          exact back (⟨at' + 1 + (l.getD at' ins0).jt, a, x, cells, steps + 1, loads⟩, oi, _) (hgo _ (congrArg (fun c : Bool => ((none : Option Nat), ({ (⟨at' + 1, a, x, cells, steps + 1, loads⟩ : Rn) with at' := at' + 1 + if c then (l.getD at' ins0).jt else (l.getD at' ins0).jf } : Rn))) (show branchV 28 a (x) = true from decide_eq_true e0)) _ i3).1 (hgo _ (congrArg (fun c : Bool => ((none : Option Nat), ({ (⟨at' + 1, a, x, cells, steps + 1, loads⟩ : Rn) with at' := at' + 1 + if c then (l.getD at' ins0).jt else (l.getD at' ins0).jf } : Rn))) (show branchV 28 a (x) = true from decide_eq_true e0)) (oi) i3).2 (ele_tell _ _ rfl rfl (.cons _ (List.Sublist.refl _)) (List.Sublist.refl _) ⟨rfl, OwnLe.refl _, rfl, ⟨AVle.refl _, le_int hw2, AVle.refl _, trivial⟩, rfl, OwnLe.refl _, trivial⟩ (PmEq.refl _) ⟨AVle.refl _, AVle.refl _, AVle.refl _, AVle.refl _, AVle.refl _, AVle.refl _, AVle.refl _, le_int (wrap_two (n := at') (k := (l.getD at' ins0).jt) (by omega)), trivial⟩)
end Go.Proofs.W

namespace Go.Proofs.W
open Go.Vl
set_option maxRecDepth 100000

theorem decF {p : Prop} [Decidable p] (h : ¬ p) : false = decide p := (decide_eq_false h).symm
theorem decT {p : Prop} [Decidable p] (h : p) : true = decide p := (decide_eq_true h).symm
theorem vsame_spec (v v' : Nat) (s s' : Rn) (hl : s'.loads.length ≤ 1000000) : Tells Try.prog 37 [outA v s, outA v' s'] (boolA (decide (v = v' ∧ s.steps = s'.steps ∧ s.loads = s'.loads))) := by
  obtain ⟨p1, p2, p3, p4, n, L⟩ := s
  obtain ⟨q1, q2, q3, q4, m, M⟩ := s'
  dsimp only at hl ⊢
  refine tells_of_aw Try.func37 rfl rfl fun nx => ?_
  (repeat ((conv=>whnf);first|refine ω0 ?_|refine ω1 ?_|refine ω2 ?_|refine ω3 ?_|refine ω4 rfl ?_|refine ω5 rfl ?_|refine ω6 ?_|refine ω7 ?_|refine ω8 ?_|refine ⟨rfl,?_⟩|refine ⟨trivial,?_⟩|refine ⟨⟨rfl,Nat.le_of_ble_eq_true rfl⟩,?_⟩|refine ⟨⟨by kernel_rfl,by kernel_rfl⟩,?_⟩|refine ⟨by decide,?_⟩|refine lit_true ?_|refine lit_false ?_))
  intro c a1; cases c
  rotate_left
  · have a1 := fct_n1.1 a1
    (repeat ((conv=>whnf);first|refine ω0 ?_|refine ω1 ?_|refine ω2 ?_|refine ω3 ?_|refine ω4 rfl ?_|refine ω5 rfl ?_|refine ω6 ?_|refine ω7 ?_|refine ω8 ?_|refine ⟨rfl,?_⟩|refine ⟨trivial,?_⟩|refine ⟨⟨rfl,Nat.le_of_ble_eq_true rfl⟩,?_⟩|refine ⟨⟨by kernel_rfl,by kernel_rfl⟩,?_⟩|refine ⟨by decide,?_⟩|refine lit_true ?_|refine lit_false ?_))
    exact ret_tells rfl (le_bool (decF (by omega)))
  have a1 := fct_n0.1 a1
  (repeat ((conv=>whnf);first|refine ω0 ?_|refine ω1 ?_|refine ω2 ?_|refine ω3 ?_|refine ω4 rfl ?_|refine ω5 rfl ?_|refine ω6 ?_|refine ω7 ?_|refine ω8 ?_|refine ⟨rfl,?_⟩|refine ⟨trivial,?_⟩|refine ⟨⟨rfl,Nat.le_of_ble_eq_true rfl⟩,?_⟩|refine ⟨⟨by kernel_rfl,by kernel_rfl⟩,?_⟩|refine ⟨by decide,?_⟩|refine lit_true ?_|refine lit_false ?_))
  intro c a2; cases c
  rotate_left
  · have a2 : n ≠ m := fun h => fct_n1.1 a2 (show (n : Int) = m by rw [h])
    (repeat ((conv=>whnf);first|refine ω0 ?_|refine ω1 ?_|refine ω2 ?_|refine ω3 ?_|refine ω4 rfl ?_|refine ω5 rfl ?_|refine ω6 ?_|refine ω7 ?_|refine ω8 ?_|refine ⟨rfl,?_⟩|refine ⟨trivial,?_⟩|refine ⟨⟨rfl,Nat.le_of_ble_eq_true rfl⟩,?_⟩|refine ⟨⟨by kernel_rfl,by kernel_rfl⟩,?_⟩|refine ⟨by decide,?_⟩|refine lit_true ?_|refine lit_false ?_))
    exact ret_tells rfl (le_bool (decF (by omega)))
  have a2 : n = m := Int.ofNat_inj.1 (show (n : Int) = m from fct_n0.1 a2)
  (repeat ((conv=>whnf);first|refine ω0 ?_|refine ω1 ?_|refine ω2 ?_|refine ω3 ?_|refine ω4 rfl ?_|refine ω5 rfl ?_|refine ω6 ?_|refine ω7 ?_|refine ω8 ?_|refine ⟨rfl,?_⟩|refine ⟨trivial,?_⟩|refine ⟨⟨rfl,Nat.le_of_ble_eq_true rfl⟩,?_⟩|refine ⟨⟨by kernel_rfl,by kernel_rfl⟩,?_⟩|refine ⟨by decide,?_⟩|refine lit_true ?_|refine lit_false ?_))
  intro c a3; cases c
  rotate_left
  · have a3 := fct_n1.1 a3
    (repeat ((conv=>whnf);first|refine ω0 ?_|refine ω1 ?_|refine ω2 ?_|refine ω3 ?_|refine ω4 rfl ?_|refine ω5 rfl ?_|refine ω6 ?_|refine ω7 ?_|refine ω8 ?_|refine ⟨rfl,?_⟩|refine ⟨trivial,?_⟩|refine ⟨⟨rfl,Nat.le_of_ble_eq_true rfl⟩,?_⟩|refine ⟨⟨by kernel_rfl,by kernel_rfl⟩,?_⟩|refine ⟨by decide,?_⟩|refine lit_true ?_|refine lit_false ?_))
    exact ret_tells rfl (le_bool (decF (fun h => a3 (show ((L.length : Nat) : Int) = (M.length : Nat) by rw [h.2.2]))))
  have a3 := fct_n0.1 a3
  have hlen : L.length = M.length := Int.ofNat_inj.1 (show ((L.length : Nat) : Int) = (M.length : Nat) from a3)
  (repeat ((conv=>whnf);first|refine ω0 ?_|refine ω1 ?_|refine ω2 ?_|refine ω3 ?_|refine ω4 rfl ?_|refine ω5 rfl ?_|refine ω6 ?_|refine ω7 ?_|refine ω8 ?_|refine ⟨rfl,?_⟩|refine ⟨trivial,?_⟩|refine ⟨⟨rfl,Nat.le_of_ble_eq_true rfl⟩,?_⟩|refine ⟨⟨by kernel_rfl,by kernel_rfl⟩,?_⟩|refine ⟨by decide,?_⟩|refine lit_true ?_|refine lit_false ?_))
  refine aw_loop (fun y : Nat × Nat => mk 45 [(2, .bp (0, nx) 0), (3, .bp (1, nx + 1) 0), (5, int y.1)] ⟨[((1, nx + 1), .c [u32 v', int m, ints M]), ((0, nx), .c [u32 v, int n, ints L])], [], y.2, 2⟩) (fun y => y.1 ≤ M.length ∧ ∀ j, j < y.1 → L.getD j 0 = M.getD j 0) (fun y => M.length - y.1) ?_ ?_
  · exact ⟨(0, nx + 2), ⟨Nat.zero_le _, fun j h => absurd h (Nat.not_lt_zero _)⟩, ele_keep rfl rfl (List.Sublist.refl _) (List.Sublist.refl _) ⟨AVle.refl _, AVle.refl _, AVle.refl _, trivial⟩⟩
  · rintro ⟨i, nx1⟩ ⟨h1, h2⟩
    dsimp only at h1 h2
    (repeat ((conv=>whnf);first|refine ω0 ?_|refine ω1 ?_|refine ω2 ?_|refine ω3 ?_|refine ω4 rfl ?_|refine ω5 rfl ?_|refine ω6 ?_|refine ω7 ?_|refine ω8 ?_|refine ⟨rfl,?_⟩|refine ⟨trivial,?_⟩|refine ⟨⟨rfl,Nat.le_of_ble_eq_true rfl⟩,?_⟩|refine ⟨⟨by kernel_rfl,by kernel_rfl⟩,?_⟩|refine ⟨by decide,?_⟩|refine lit_true ?_|refine lit_false ?_))
    intro c g; cases c
    · have g := not_of g
      dsimp only at g
      obtain rfl : i = M.length := by omega
      (repeat ((conv=>whnf);first|refine ω0 ?_|refine ω1 ?_|refine ω2 ?_|refine ω3 ?_|refine ω4 rfl ?_|refine ω5 rfl ?_|refine ω6 ?_|refine ω7 ?_|refine ω8 ?_|refine ⟨rfl,?_⟩|refine ⟨trivial,?_⟩|refine ⟨⟨rfl,Nat.le_of_ble_eq_true rfl⟩,?_⟩|refine ⟨⟨by kernel_rfl,by kernel_rfl⟩,?_⟩|refine ⟨by decide,?_⟩|refine lit_true ?_|refine lit_false ?_))
      refine ret_tells rfl (le_bool (decT ⟨by omega, by omega, ?_⟩))
      refine List.ext_getElem hlen fun j k1 k2 => ?_
      have := h2 j k2
      simpa [List.getD, k1, k2] using this
    · have g := yes_of g
      dsimp only at g
      have hi : i < M.length := by omega
      (repeat ((conv=>whnf);first|refine ω0 ?_|refine ω1 ?_|refine ω2 ?_|refine ω3 ?_|refine ω4 rfl ?_|refine ω5 rfl ?_|refine ω6 ?_|refine ω7 ?_|refine ω8 ?_|refine ⟨rfl,?_⟩|refine ⟨trivial,?_⟩|refine ⟨⟨rfl,Nat.le_of_ble_eq_true rfl⟩,?_⟩|refine ⟨⟨by kernel_rfl,by kernel_rfl⟩,?_⟩|refine ⟨by decide,?_⟩|refine lit_true ?_|refine lit_false ?_))
      (refine aw_draw 11 ?_ ?_ ?_ ?_; (· kernel_rfl); (· kernel_rfl); (· kernel_rfl))
      (repeat ((conv=>whnf);first|refine ω0 ?_|refine ω1 ?_|refine ω2 ?_|refine ω3 ?_|refine ω4 rfl ?_|refine ω5 rfl ?_|refine ω6 ?_|refine ω7 ?_|refine ω8 ?_|refine ⟨rfl,?_⟩|refine ⟨trivial,?_⟩|refine ⟨⟨rfl,Nat.le_of_ble_eq_true rfl⟩,?_⟩|refine ⟨⟨by kernel_rfl,by kernel_rfl⟩,?_⟩|refine ⟨by decide,?_⟩|refine lit_true ?_|refine lit_false ?_))
      refine ⟨⟨by first | omega | (dsimp only; omega), by first | omega | (dsimp only; omega)⟩, ?_⟩
      (repeat ((conv=>whnf);first|refine ω0 ?_|refine ω1 ?_|refine ω2 ?_|refine ω3 ?_|refine ω4 rfl ?_|refine ω5 rfl ?_|refine ω6 ?_|refine ω7 ?_|refine ω8 ?_|refine ⟨rfl,?_⟩|refine ⟨trivial,?_⟩|refine ⟨⟨rfl,Nat.le_of_ble_eq_true rfl⟩,?_⟩|refine ⟨⟨by kernel_rfl,by kernel_rfl⟩,?_⟩|refine ⟨by decide,?_⟩|refine lit_true ?_|refine lit_false ?_))
      refine ⟨⟨by first | omega | (dsimp only; omega), by first | omega | (dsimp only; omega)⟩, ?_⟩
      (repeat ((conv=>whnf);first|refine ω0 ?_|refine ω1 ?_|refine ω2 ?_|refine ω3 ?_|refine ω4 rfl ?_|refine ω5 rfl ?_|refine ω6 ?_|refine ω7 ?_|refine ω8 ?_|refine ⟨rfl,?_⟩|refine ⟨trivial,?_⟩|refine ⟨⟨rfl,Nat.le_of_ble_eq_true rfl⟩,?_⟩|refine ⟨⟨by kernel_rfl,by kernel_rfl⟩,?_⟩|refine ⟨by decide,?_⟩|refine lit_true ?_|refine lit_false ?_))
      intro c e; cases c
      · have e : L.getD i 0 = M.getD i 0 := Int.ofNat_inj.1 (fct_n0.1 e)
        (repeat ((conv=>whnf);first|refine ω0 ?_|refine ω1 ?_|refine ω2 ?_|refine ω3 ?_|refine ω4 rfl ?_|refine ω5 rfl ?_|refine ω6 ?_|refine ω7 ?_|refine ω8 ?_|refine ⟨rfl,?_⟩|refine ⟨trivial,?_⟩|refine ⟨⟨rfl,Nat.le_of_ble_eq_true rfl⟩,?_⟩|refine ⟨⟨by kernel_rfl,by kernel_rfl⟩,?_⟩|refine ⟨by decide,?_⟩|refine lit_true ?_|refine lit_false ?_))
        refine back (i + 1, _) ⟨(by first | omega | (dsimp only at *; omega) | (simp; done) | (simp; omega)), fun j hj => ?_⟩ (by first | omega | (dsimp only at *; omega) | (simp; done) | (simp; omega)) (ele_keep rfl rfl (List.Sublist.refl _) (List.Sublist.refl _) ⟨AVle.refl _, AVle.refl _, le_int (wrap_succ (by first | omega | (dsimp only at *; omega) | (simp; done) | (simp; omega))), trivial⟩)
        rcases Nat.lt_or_ge j i with h | h
        · exact h2 j h
        · obtain rfl : j = i := by omega
          exact e
      · have e : L.getD i 0 ≠ M.getD i 0 := fun h => fct_n1.1 e (by show ((L.getD i 0 : Nat) : Int) = ((M.getD i 0 : Nat) : Int); rw [h])
        (repeat ((conv=>whnf);first|refine ω0 ?_|refine ω1 ?_|refine ω2 ?_|refine ω3 ?_|refine ω4 rfl ?_|refine ω5 rfl ?_|refine ω6 ?_|refine ω7 ?_|refine ω8 ?_|refine ⟨rfl,?_⟩|refine ⟨trivial,?_⟩|refine ⟨⟨rfl,Nat.le_of_ble_eq_true rfl⟩,?_⟩|refine ⟨⟨by kernel_rfl,by kernel_rfl⟩,?_⟩|refine ⟨by decide,?_⟩|refine lit_true ?_|refine lit_false ?_))
        exact ret_tells rfl (le_bool (decF (fun h => e (by rw [h.2.2]))))
end Go.Proofs.W

namespace Go.Proofs.W
open Go.Vl
set_option maxRecDepth 100000

theorem outA_zero : AVle (.ag [u32 0, int 0, .os 0 0 (fun _ => .any) none]) (outA 0 rn0) := AVle.ags (cs := [_, _, _]) ⟨AVle.refl _, AVle.refl _, AVle.os_sl0, trivial⟩
theorem vsame_true {v : Nat} {s : Rn} (hl : s.loads.length ≤ 1000000) : Tells Try.prog 37 [outA v s, outA v s] (boolA true) := by
  have h := vsame_spec v v s s hl
  rwa [decide_eq_true ⟨rfl, rfl, rfl⟩] at h
theorem b5 : Try.prog.bytesOf 5 = 1 := by kernel_rfl
theorem le_copy (b : List Nat) (i : Vl.Id) : AVle (.os 1 (0 + b.length) (appF 0 (fun _ => .any) fun k => u8 (b.getD k 0 : Nat)) (some i)) (bytesA b) := by
  rw [Nat.zero_add]
  exact AVle.os_sl.trans (AVle.sl_fun fun k hk => by show (bif Nat.blt k 0 then _ else u8 (b.getD (k - 0) 0 : Nat)) = _; rw [show Nat.blt k 0 = false by cases k <;> rfl]; rfl)
set_option maxHeartbeats 2000000 in
theorem vmruns_A (l : List Ins) (hok : okL l) (hl : l.length ≤ maxLen) (b : List Nat) (hb : okB b) (hbl : b.length ≤ maxLen) (hc : (checkI l).2 ≠ 0) : PCall Try.prog 8 [inss l, bytesA b] (fun r => r = .v (.bool true)) := by
  refine pcall_of_aw Try.func8 rfl rfl fun nx => ?_
  (repeat ((conv=>whnf);first|refine ω0 ?_|refine ω1 ?_|refine ω2 ?_|refine ω3 ?_|refine ω4 rfl ?_|refine ω5 rfl ?_|refine ω6 ?_|refine ω7 ?_|refine ω8 ?_|refine ⟨rfl,?_⟩|refine ⟨trivial,?_⟩|refine ⟨⟨rfl,Nat.le_of_ble_eq_true rfl⟩,?_⟩|refine ⟨⟨by kernel_rfl,by kernel_rfl⟩,?_⟩|refine ⟨by decide,?_⟩|refine lit_true ?_|refine lit_false ?_))
  intro c h1; cases c
  rotate_left
  · (repeat ((conv=>whnf);first|refine ω0 ?_|refine ω1 ?_|refine ω2 ?_|refine ω3 ?_|refine ω4 rfl ?_|refine ω5 rfl ?_|refine ω6 ?_|refine ω7 ?_|refine ω8 ?_|refine ⟨rfl,?_⟩|refine ⟨trivial,?_⟩|refine ⟨⟨rfl,Nat.le_of_ble_eq_true rfl⟩,?_⟩|refine ⟨⟨by kernel_rfl,by kernel_rfl⟩,?_⟩|refine ⟨by decide,?_⟩|refine lit_true ?_|refine lit_false ?_))
    exact ret_bool rfl rfl
  have h1 := not_of h1
  have hl2 : l.length ≤ 200 := by omega
  (repeat ((conv=>whnf);first|refine ω0 ?_|refine ω1 ?_|refine ω2 ?_|refine ω3 ?_|refine ω4 rfl ?_|refine ω5 rfl ?_|refine ω6 ?_|refine ω7 ?_|refine ω8 ?_|refine ⟨rfl,?_⟩|refine ⟨trivial,?_⟩|refine ⟨⟨rfl,Nat.le_of_ble_eq_true rfl⟩,?_⟩|refine ⟨⟨by kernel_rfl,by kernel_rfl⟩,?_⟩|refine ⟨by decide,?_⟩|refine lit_true ?_|refine lit_false ?_))
  intro c h2; cases c
  rotate_left
  · (repeat ((conv=>whnf);first|refine ω0 ?_|refine ω1 ?_|refine ω2 ?_|refine ω3 ?_|refine ω4 rfl ?_|refine ω5 rfl ?_|refine ω6 ?_|refine ω7 ?_|refine ω8 ?_|refine ⟨rfl,?_⟩|refine ⟨trivial,?_⟩|refine ⟨⟨rfl,Nat.le_of_ble_eq_true rfl⟩,?_⟩|refine ⟨⟨by kernel_rfl,by kernel_rfl⟩,?_⟩|refine ⟨by decide,?_⟩|refine lit_true ?_|refine lit_false ?_))
    exact ret_bool rfl rfl
  have h2 := not_of h2
  have hb2 : b.length ≤ 100 := by omega
  (repeat ((conv=>whnf);first|refine ω0 ?_|refine ω1 ?_|refine ω2 ?_|refine ω3 ?_|refine ω4 rfl ?_|refine ω5 rfl ?_|refine ω6 ?_|refine ω7 ?_|refine ω8 ?_|refine ⟨rfl,?_⟩|refine ⟨trivial,?_⟩|refine ⟨⟨rfl,Nat.le_of_ble_eq_true rfl⟩,?_⟩|refine ⟨⟨by kernel_rfl,by kernel_rfl⟩,?_⟩|refine ⟨by decide,?_⟩|refine lit_true ?_|refine lit_false ?_))
  refine aop_tells rfl rfl (all6_spec l (by omega)) ⟨AVle.refl _, trivial⟩ fun nx1 => ?_
  have hvm := vmrun_spec l hok (by omega) b hb (by omega)
  have hck := checkR_spec l hok (by omega)
  have hnew := new_spec l hok (by omega)
  rw [show vmI l b = ((checkI l).2, (0, rn0)) by unfold vmI; rw [if_pos hc]] at hvm
  dsimp only at hvm
  rw [show newA l = .tup [.v (.pointer none), int (checkI l).2] by unfold newA; rw [if_neg hc]] at hnew
  (repeat ((conv=>whnf);first|refine ω0 ?_|refine ω1 ?_|refine ω2 ?_|refine ω3 ?_|refine ω4 rfl ?_|refine ω5 rfl ?_|refine ω6 ?_|refine ω7 ?_|refine ω8 ?_|refine ⟨rfl,?_⟩|refine ⟨trivial,?_⟩|refine ⟨⟨rfl,Nat.le_of_ble_eq_true rfl⟩,?_⟩|refine ⟨⟨by kernel_rfl,by kernel_rfl⟩,?_⟩|refine ⟨by decide,?_⟩|refine lit_true ?_|refine lit_false ?_))
  refine appK_intro (fun h => ?_) (fun h => ?_)
  · obtain rfl : b = [] := List.length_eq_zero_iff.1 h
    (repeat ((conv=>whnf);first|refine ω0 ?_|refine ω1 ?_|refine ω2 ?_|refine ω3 ?_|refine ω4 rfl ?_|refine ω5 rfl ?_|refine ω6 ?_|refine ω7 ?_|refine ω8 ?_|refine ⟨rfl,?_⟩|refine ⟨trivial,?_⟩|refine ⟨⟨rfl,Nat.le_of_ble_eq_true rfl⟩,?_⟩|refine ⟨⟨by kernel_rfl,by kernel_rfl⟩,?_⟩|refine ⟨by decide,?_⟩|refine lit_true ?_|refine lit_false ?_))
    refine aop_tells rfl rfl hvm ⟨AVle.refl _, AVle.os_sl0, trivial⟩ fun nx2 => ?_
    (repeat ((conv=>whnf);first|refine ω0 ?_|refine ω1 ?_|refine ω2 ?_|refine ω3 ?_|refine ω4 rfl ?_|refine ω5 rfl ?_|refine ω6 ?_|refine ω7 ?_|refine ω8 ?_|refine ⟨rfl,?_⟩|refine ⟨trivial,?_⟩|refine ⟨⟨rfl,Nat.le_of_ble_eq_true rfl⟩,?_⟩|refine ⟨⟨by kernel_rfl,by kernel_rfl⟩,?_⟩|refine ⟨by decide,?_⟩|refine lit_true ?_|refine lit_false ?_))
    refine aop_tells rfl rfl hck ⟨AVle.refl _, trivial⟩ fun nx3 => ?_
    (repeat ((conv=>whnf);first|refine ω0 ?_|refine ω1 ?_|refine ω2 ?_|refine ω3 ?_|refine ω4 rfl ?_|refine ω5 rfl ?_|refine ω6 ?_|refine ω7 ?_|refine ω8 ?_|refine ⟨rfl,?_⟩|refine ⟨trivial,?_⟩|refine ⟨⟨rfl,Nat.le_of_ble_eq_true rfl⟩,?_⟩|refine ⟨⟨by kernel_rfl,by kernel_rfl⟩,?_⟩|refine ⟨by decide,?_⟩|refine lit_true ?_|refine lit_false ?_))
    intro c h3; cases c
    · exact absurd (fct_n0.1 h3) (fun h => hc (Int.ofNat_inj.1 h))
    (repeat ((conv=>whnf);first|refine ω0 ?_|refine ω1 ?_|refine ω2 ?_|refine ω3 ?_|refine ω4 rfl ?_|refine ω5 rfl ?_|refine ω6 ?_|refine ω7 ?_|refine ω8 ?_|refine ⟨rfl,?_⟩|refine ⟨trivial,?_⟩|refine ⟨⟨rfl,Nat.le_of_ble_eq_true rfl⟩,?_⟩|refine ⟨⟨by kernel_rfl,by kernel_rfl⟩,?_⟩|refine ⟨by decide,?_⟩|refine lit_true ?_|refine lit_false ?_))
    refine aop_tells rfl rfl (all6_spec l (by omega)) ⟨AVle.refl _, trivial⟩ fun nx4 => ?_
    (repeat ((conv=>whnf);first|refine ω0 ?_|refine ω1 ?_|refine ω2 ?_|refine ω3 ?_|refine ω4 rfl ?_|refine ω5 rfl ?_|refine ω6 ?_|refine ω7 ?_|refine ω8 ?_|refine ⟨rfl,?_⟩|refine ⟨trivial,?_⟩|refine ⟨⟨rfl,Nat.le_of_ble_eq_true rfl⟩,?_⟩|refine ⟨⟨by kernel_rfl,by kernel_rfl⟩,?_⟩|refine ⟨by decide,?_⟩|refine lit_true ?_|refine lit_false ?_))
    refine aop_tells rfl rfl hnew ⟨AVle.refl _, trivial⟩ fun nx5 => ?_
    (repeat ((conv=>whnf);first|refine ω0 ?_|refine ω1 ?_|refine ω2 ?_|refine ω3 ?_|refine ω4 rfl ?_|refine ω5 rfl ?_|refine ω6 ?_|refine ω7 ?_|refine ω8 ?_|refine ⟨rfl,?_⟩|refine ⟨trivial,?_⟩|refine ⟨⟨rfl,Nat.le_of_ble_eq_true rfl⟩,?_⟩|refine ⟨⟨by kernel_rfl,by kernel_rfl⟩,?_⟩|refine ⟨by decide,?_⟩|refine lit_true ?_|refine lit_false ?_))
    (intro c hc; obtain rfl : c = true := hc.trans (beq_self_eq_true _); (repeat ((conv=>whnf);first|refine ω0 ?_|refine ω1 ?_|refine ω2 ?_|refine ω3 ?_|refine ω4 rfl ?_|refine ω5 rfl ?_|refine ω6 ?_|refine ω7 ?_|refine ω8 ?_|refine ⟨rfl,?_⟩|refine ⟨trivial,?_⟩|refine ⟨⟨rfl,Nat.le_of_ble_eq_true rfl⟩,?_⟩|refine ⟨⟨by kernel_rfl,by kernel_rfl⟩,?_⟩|refine ⟨by decide,?_⟩|refine lit_true ?_|refine lit_false ?_)))
    refine aop_tells rfl rfl (vsame_true (v := 0) (s := rn0) (by decide)) ⟨AVle.refl _, outA_zero, trivial⟩ fun nx6 => ?_
    (repeat ((conv=>whnf);first|refine ω0 ?_|refine ω1 ?_|refine ω2 ?_|refine ω3 ?_|refine ω4 rfl ?_|refine ω5 rfl ?_|refine ω6 ?_|refine ω7 ?_|refine ω8 ?_|refine ⟨rfl,?_⟩|refine ⟨trivial,?_⟩|refine ⟨⟨rfl,Nat.le_of_ble_eq_true rfl⟩,?_⟩|refine ⟨⟨by kernel_rfl,by kernel_rfl⟩,?_⟩|refine ⟨by decide,?_⟩|refine lit_true ?_|refine lit_false ?_))
    intro c hc2
    have hc3 : c = true := by rw [hc2]; exact beq_iff_eq.2 rfl
    subst hc3
    (repeat ((conv=>whnf);first|refine ω0 ?_|refine ω1 ?_|refine ω2 ?_|refine ω3 ?_|refine ω4 rfl ?_|refine ω5 rfl ?_|refine ω6 ?_|refine ω7 ?_|refine ω8 ?_|refine ⟨rfl,?_⟩|refine ⟨trivial,?_⟩|refine ⟨⟨rfl,Nat.le_of_ble_eq_true rfl⟩,?_⟩|refine ⟨⟨by kernel_rfl,by kernel_rfl⟩,?_⟩|refine ⟨by decide,?_⟩|refine lit_true ?_|refine lit_false ?_))
    refine aop_tells rfl rfl awake6_spec trivial fun nx7 => ?_
    (repeat ((conv=>whnf);first|refine ω0 ?_|refine ω1 ?_|refine ω2 ?_|refine ω3 ?_|refine ω4 rfl ?_|refine ω5 rfl ?_|refine ω6 ?_|refine ω7 ?_|refine ω8 ?_|refine ⟨rfl,?_⟩|refine ⟨trivial,?_⟩|refine ⟨⟨rfl,Nat.le_of_ble_eq_true rfl⟩,?_⟩|refine ⟨⟨by kernel_rfl,by kernel_rfl⟩,?_⟩|refine ⟨by decide,?_⟩|refine lit_true ?_|refine lit_false ?_))
    exact ret_bool rfl rfl
  · (repeat ((conv=>whnf);first|refine ω0 ?_|refine ω1 ?_|refine ω2 ?_|refine ω3 ?_|refine ω4 rfl ?_|refine ω5 rfl ?_|refine ω6 ?_|refine ω7 ?_|refine ω8 ?_|refine ⟨rfl,?_⟩|refine ⟨trivial,?_⟩|refine ⟨⟨rfl,Nat.le_of_ble_eq_true rfl⟩,?_⟩|refine ⟨⟨by kernel_rfl,by kernel_rfl⟩,?_⟩|refine ⟨by decide,?_⟩|refine lit_true ?_|refine lit_false ?_))
    refine ⟨fun _ _ => rfl, by rw [b5]; omega, by omega, ?_⟩
    (repeat ((conv=>whnf);first|refine ω0 ?_|refine ω1 ?_|refine ω2 ?_|refine ω3 ?_|refine ω4 rfl ?_|refine ω5 rfl ?_|refine ω6 ?_|refine ω7 ?_|refine ω8 ?_|refine ⟨rfl,?_⟩|refine ⟨trivial,?_⟩|refine ⟨⟨rfl,Nat.le_of_ble_eq_true rfl⟩,?_⟩|refine ⟨⟨by kernel_rfl,by kernel_rfl⟩,?_⟩|refine ⟨by decide,?_⟩|refine lit_true ?_|refine lit_false ?_))
    refine aop_tells rfl rfl hvm ⟨AVle.refl _, le_copy b _, trivial⟩ fun nx2 => ?_
    (repeat ((conv=>whnf);first|refine ω0 ?_|refine ω1 ?_|refine ω2 ?_|refine ω3 ?_|refine ω4 rfl ?_|refine ω5 rfl ?_|refine ω6 ?_|refine ω7 ?_|refine ω8 ?_|refine ⟨rfl,?_⟩|refine ⟨trivial,?_⟩|refine ⟨⟨rfl,Nat.le_of_ble_eq_true rfl⟩,?_⟩|refine ⟨⟨by kernel_rfl,by kernel_rfl⟩,?_⟩|refine ⟨by decide,?_⟩|refine lit_true ?_|refine lit_false ?_))
    refine aop_tells rfl rfl hck ⟨AVle.refl _, trivial⟩ fun nx3 => ?_
    (repeat ((conv=>whnf);first|refine ω0 ?_|refine ω1 ?_|refine ω2 ?_|refine ω3 ?_|refine ω4 rfl ?_|refine ω5 rfl ?_|refine ω6 ?_|refine ω7 ?_|refine ω8 ?_|refine ⟨rfl,?_⟩|refine ⟨trivial,?_⟩|refine ⟨⟨rfl,Nat.le_of_ble_eq_true rfl⟩,?_⟩|refine ⟨⟨by kernel_rfl,by kernel_rfl⟩,?_⟩|refine ⟨by decide,?_⟩|refine lit_true ?_|refine lit_false ?_))
    intro c h3; cases c
    · exact absurd (fct_n0.1 h3) (fun h => hc (Int.ofNat_inj.1 h))
    (repeat ((conv=>whnf);first|refine ω0 ?_|refine ω1 ?_|refine ω2 ?_|refine ω3 ?_|refine ω4 rfl ?_|refine ω5 rfl ?_|refine ω6 ?_|refine ω7 ?_|refine ω8 ?_|refine ⟨rfl,?_⟩|refine ⟨trivial,?_⟩|refine ⟨⟨rfl,Nat.le_of_ble_eq_true rfl⟩,?_⟩|refine ⟨⟨by kernel_rfl,by kernel_rfl⟩,?_⟩|refine ⟨by decide,?_⟩|refine lit_true ?_|refine lit_false ?_))
    refine aop_tells rfl rfl (all6_spec l (by omega)) ⟨AVle.refl _, trivial⟩ fun nx4 => ?_
    (repeat ((conv=>whnf);first|refine ω0 ?_|refine ω1 ?_|refine ω2 ?_|refine ω3 ?_|refine ω4 rfl ?_|refine ω5 rfl ?_|refine ω6 ?_|refine ω7 ?_|refine ω8 ?_|refine ⟨rfl,?_⟩|refine ⟨trivial,?_⟩|refine ⟨⟨rfl,Nat.le_of_ble_eq_true rfl⟩,?_⟩|refine ⟨⟨by kernel_rfl,by kernel_rfl⟩,?_⟩|refine ⟨by decide,?_⟩|refine lit_true ?_|refine lit_false ?_))
    refine aop_tells rfl rfl hnew ⟨AVle.refl _, trivial⟩ fun nx5 => ?_
    (repeat ((conv=>whnf);first|refine ω0 ?_|refine ω1 ?_|refine ω2 ?_|refine ω3 ?_|refine ω4 rfl ?_|refine ω5 rfl ?_|refine ω6 ?_|refine ω7 ?_|refine ω8 ?_|refine ⟨rfl,?_⟩|refine ⟨trivial,?_⟩|refine ⟨⟨rfl,Nat.le_of_ble_eq_true rfl⟩,?_⟩|refine ⟨⟨by kernel_rfl,by kernel_rfl⟩,?_⟩|refine ⟨by decide,?_⟩|refine lit_true ?_|refine lit_false ?_))
    (intro c hc; obtain rfl : c = true := hc.trans (beq_self_eq_true _); (repeat ((conv=>whnf);first|refine ω0 ?_|refine ω1 ?_|refine ω2 ?_|refine ω3 ?_|refine ω4 rfl ?_|refine ω5 rfl ?_|refine ω6 ?_|refine ω7 ?_|refine ω8 ?_|refine ⟨rfl,?_⟩|refine ⟨trivial,?_⟩|refine ⟨⟨rfl,Nat.le_of_ble_eq_true rfl⟩,?_⟩|refine ⟨⟨by kernel_rfl,by kernel_rfl⟩,?_⟩|refine ⟨by decide,?_⟩|refine lit_true ?_|refine lit_false ?_)))
    refine aop_tells rfl rfl (vsame_true (v := 0) (s := rn0) (by decide)) ⟨AVle.refl _, outA_zero, trivial⟩ fun nx6 => ?_
    (repeat ((conv=>whnf);first|refine ω0 ?_|refine ω1 ?_|refine ω2 ?_|refine ω3 ?_|refine ω4 rfl ?_|refine ω5 rfl ?_|refine ω6 ?_|refine ω7 ?_|refine ω8 ?_|refine ⟨rfl,?_⟩|refine ⟨trivial,?_⟩|refine ⟨⟨rfl,Nat.le_of_ble_eq_true rfl⟩,?_⟩|refine ⟨⟨by kernel_rfl,by kernel_rfl⟩,?_⟩|refine ⟨by decide,?_⟩|refine lit_true ?_|refine lit_false ?_))
    intro c hc2
    have hc3 : c = true := by rw [hc2]; exact beq_iff_eq.2 rfl
    subst hc3
    (repeat ((conv=>whnf);first|refine ω0 ?_|refine ω1 ?_|refine ω2 ?_|refine ω3 ?_|refine ω4 rfl ?_|refine ω5 rfl ?_|refine ω6 ?_|refine ω7 ?_|refine ω8 ?_|refine ⟨rfl,?_⟩|refine ⟨trivial,?_⟩|refine ⟨⟨rfl,Nat.le_of_ble_eq_true rfl⟩,?_⟩|refine ⟨⟨by kernel_rfl,by kernel_rfl⟩,?_⟩|refine ⟨by decide,?_⟩|refine lit_true ?_|refine lit_false ?_))
    refine aop_tells rfl rfl awake6_spec trivial fun nx7 => ?_
    (repeat ((conv=>whnf);first|refine ω0 ?_|refine ω1 ?_|refine ω2 ?_|refine ω3 ?_|refine ω4 rfl ?_|refine ω5 rfl ?_|refine ω6 ?_|refine ω7 ?_|refine ω8 ?_|refine ⟨rfl,?_⟩|refine ⟨trivial,?_⟩|refine ⟨⟨rfl,Nat.le_of_ble_eq_true rfl⟩,?_⟩|refine ⟨⟨by kernel_rfl,by kernel_rfl⟩,?_⟩|refine ⟨by decide,?_⟩|refine lit_true ?_|refine lit_false ?_))
    exact ret_bool rfl rfl
set_option maxHeartbeats 2000000 in
theorem vmruns_B (l : List Ins) (hok : okL l) (hl : l.length ≤ maxLen) (b : List Nat) (hb : okB b) (hbl : b.length ≤ maxLen) (hc : (checkI l).2 = 0) (hlen : b.length < 64) : PCall Try.prog 8 [inss l, bytesA b] (fun r => r = .v (.bool true)) := by
  refine pcall_of_aw Try.func8 rfl rfl fun nx => ?_
  (repeat ((conv=>whnf);first|refine ω0 ?_|refine ω1 ?_|refine ω2 ?_|refine ω3 ?_|refine ω4 rfl ?_|refine ω5 rfl ?_|refine ω6 ?_|refine ω7 ?_|refine ω8 ?_|refine ⟨rfl,?_⟩|refine ⟨trivial,?_⟩|refine ⟨⟨rfl,Nat.le_of_ble_eq_true rfl⟩,?_⟩|refine ⟨⟨by kernel_rfl,by kernel_rfl⟩,?_⟩|refine ⟨by decide,?_⟩|refine lit_true ?_|refine lit_false ?_))
  intro c h1; cases c
  rotate_left
  · (repeat ((conv=>whnf);first|refine ω0 ?_|refine ω1 ?_|refine ω2 ?_|refine ω3 ?_|refine ω4 rfl ?_|refine ω5 rfl ?_|refine ω6 ?_|refine ω7 ?_|refine ω8 ?_|refine ⟨rfl,?_⟩|refine ⟨trivial,?_⟩|refine ⟨⟨rfl,Nat.le_of_ble_eq_true rfl⟩,?_⟩|refine ⟨⟨by kernel_rfl,by kernel_rfl⟩,?_⟩|refine ⟨by decide,?_⟩|refine lit_true ?_|refine lit_false ?_))
    exact ret_bool rfl rfl
  have h1 := not_of h1
  have hl2 : l.length ≤ 200 := by omega
  (repeat ((conv=>whnf);first|refine ω0 ?_|refine ω1 ?_|refine ω2 ?_|refine ω3 ?_|refine ω4 rfl ?_|refine ω5 rfl ?_|refine ω6 ?_|refine ω7 ?_|refine ω8 ?_|refine ⟨rfl,?_⟩|refine ⟨trivial,?_⟩|refine ⟨⟨rfl,Nat.le_of_ble_eq_true rfl⟩,?_⟩|refine ⟨⟨by kernel_rfl,by kernel_rfl⟩,?_⟩|refine ⟨by decide,?_⟩|refine lit_true ?_|refine lit_false ?_))
  intro c h2; cases c
  rotate_left
  · (repeat ((conv=>whnf);first|refine ω0 ?_|refine ω1 ?_|refine ω2 ?_|refine ω3 ?_|refine ω4 rfl ?_|refine ω5 rfl ?_|refine ω6 ?_|refine ω7 ?_|refine ω8 ?_|refine ⟨rfl,?_⟩|refine ⟨trivial,?_⟩|refine ⟨⟨rfl,Nat.le_of_ble_eq_true rfl⟩,?_⟩|refine ⟨⟨by kernel_rfl,by kernel_rfl⟩,?_⟩|refine ⟨by decide,?_⟩|refine lit_true ?_|refine lit_false ?_))
    exact ret_bool rfl rfl
  have h2 := not_of h2
  have hb2 : b.length ≤ 100 := by omega
  (repeat ((conv=>whnf);first|refine ω0 ?_|refine ω1 ?_|refine ω2 ?_|refine ω3 ?_|refine ω4 rfl ?_|refine ω5 rfl ?_|refine ω6 ?_|refine ω7 ?_|refine ω8 ?_|refine ⟨rfl,?_⟩|refine ⟨trivial,?_⟩|refine ⟨⟨rfl,Nat.le_of_ble_eq_true rfl⟩,?_⟩|refine ⟨⟨by kernel_rfl,by kernel_rfl⟩,?_⟩|refine ⟨by decide,?_⟩|refine lit_true ?_|refine lit_false ?_))
  refine aop_tells rfl rfl (all6_spec l (by omega)) ⟨AVle.refl _, trivial⟩ fun nx1 => ?_
  have hvm := vmrun_spec l hok (by omega) b hb (by omega)
  have hck := checkR_spec l hok (by omega)
  have hnew := new_spec l hok (by omega)
  rw [show vmI l b = (2, (0, rn0)) by unfold vmI; rw [if_neg (by omega), if_pos hlen]] at hvm
  dsimp only at hvm
  skip
  (repeat ((conv=>whnf);first|refine ω0 ?_|refine ω1 ?_|refine ω2 ?_|refine ω3 ?_|refine ω4 rfl ?_|refine ω5 rfl ?_|refine ω6 ?_|refine ω7 ?_|refine ω8 ?_|refine ⟨rfl,?_⟩|refine ⟨trivial,?_⟩|refine ⟨⟨rfl,Nat.le_of_ble_eq_true rfl⟩,?_⟩|refine ⟨⟨by kernel_rfl,by kernel_rfl⟩,?_⟩|refine ⟨by decide,?_⟩|refine lit_true ?_|refine lit_false ?_))
  refine appK_intro (fun h => ?_) (fun h => ?_)
  · obtain rfl : b = [] := List.length_eq_zero_iff.1 h
    (repeat ((conv=>whnf);first|refine ω0 ?_|refine ω1 ?_|refine ω2 ?_|refine ω3 ?_|refine ω4 rfl ?_|refine ω5 rfl ?_|refine ω6 ?_|refine ω7 ?_|refine ω8 ?_|refine ⟨rfl,?_⟩|refine ⟨trivial,?_⟩|refine ⟨⟨rfl,Nat.le_of_ble_eq_true rfl⟩,?_⟩|refine ⟨⟨by kernel_rfl,by kernel_rfl⟩,?_⟩|refine ⟨by decide,?_⟩|refine lit_true ?_|refine lit_false ?_))
    refine aop_tells rfl rfl hvm ⟨AVle.refl _, AVle.os_sl0, trivial⟩ fun nx2 => ?_
    (repeat ((conv=>whnf);first|refine ω0 ?_|refine ω1 ?_|refine ω2 ?_|refine ω3 ?_|refine ω4 rfl ?_|refine ω5 rfl ?_|refine ω6 ?_|refine ω7 ?_|refine ω8 ?_|refine ⟨rfl,?_⟩|refine ⟨trivial,?_⟩|refine ⟨⟨rfl,Nat.le_of_ble_eq_true rfl⟩,?_⟩|refine ⟨⟨by kernel_rfl,by kernel_rfl⟩,?_⟩|refine ⟨by decide,?_⟩|refine lit_true ?_|refine lit_false ?_))
    refine aop_tells rfl rfl hck ⟨AVle.refl _, trivial⟩ fun nx3 => ?_
    (repeat ((conv=>whnf);first|refine ω0 ?_|refine ω1 ?_|refine ω2 ?_|refine ω3 ?_|refine ω4 rfl ?_|refine ω5 rfl ?_|refine ω6 ?_|refine ω7 ?_|refine ω8 ?_|refine ⟨rfl,?_⟩|refine ⟨trivial,?_⟩|refine ⟨⟨rfl,Nat.le_of_ble_eq_true rfl⟩,?_⟩|refine ⟨⟨by kernel_rfl,by kernel_rfl⟩,?_⟩|refine ⟨by decide,?_⟩|refine lit_true ?_|refine lit_false ?_))
    rw [hc]
    (repeat ((conv=>whnf);first|refine ω0 ?_|refine ω1 ?_|refine ω2 ?_|refine ω3 ?_|refine ω4 rfl ?_|refine ω5 rfl ?_|refine ω6 ?_|refine ω7 ?_|refine ω8 ?_|refine ⟨rfl,?_⟩|refine ⟨trivial,?_⟩|refine ⟨⟨rfl,Nat.le_of_ble_eq_true rfl⟩,?_⟩|refine ⟨⟨by kernel_rfl,by kernel_rfl⟩,?_⟩|refine ⟨by decide,?_⟩|refine lit_true ?_|refine lit_false ?_))
    refine aop_tells rfl rfl (vsame_true (v := 0) (s := rn0) (by decide)) ⟨AVle.refl _, outA_zero, trivial⟩ fun nx6 => ?_
    (repeat ((conv=>whnf);first|refine ω0 ?_|refine ω1 ?_|refine ω2 ?_|refine ω3 ?_|refine ω4 rfl ?_|refine ω5 rfl ?_|refine ω6 ?_|refine ω7 ?_|refine ω8 ?_|refine ⟨rfl,?_⟩|refine ⟨trivial,?_⟩|refine ⟨⟨rfl,Nat.le_of_ble_eq_true rfl⟩,?_⟩|refine ⟨⟨by kernel_rfl,by kernel_rfl⟩,?_⟩|refine ⟨by decide,?_⟩|refine lit_true ?_|refine lit_false ?_))
    refine aop_tells rfl rfl awake6_spec trivial fun nx7 => ?_
    (repeat ((conv=>whnf);first|refine ω0 ?_|refine ω1 ?_|refine ω2 ?_|refine ω3 ?_|refine ω4 rfl ?_|refine ω5 rfl ?_|refine ω6 ?_|refine ω7 ?_|refine ω8 ?_|refine ⟨rfl,?_⟩|refine ⟨trivial,?_⟩|refine ⟨⟨rfl,Nat.le_of_ble_eq_true rfl⟩,?_⟩|refine ⟨⟨by kernel_rfl,by kernel_rfl⟩,?_⟩|refine ⟨by decide,?_⟩|refine lit_true ?_|refine lit_false ?_))
    exact ret_bool rfl rfl
  · (repeat ((conv=>whnf);first|refine ω0 ?_|refine ω1 ?_|refine ω2 ?_|refine ω3 ?_|refine ω4 rfl ?_|refine ω5 rfl ?_|refine ω6 ?_|refine ω7 ?_|refine ω8 ?_|refine ⟨rfl,?_⟩|refine ⟨trivial,?_⟩|refine ⟨⟨rfl,Nat.le_of_ble_eq_true rfl⟩,?_⟩|refine ⟨⟨by kernel_rfl,by kernel_rfl⟩,?_⟩|refine ⟨by decide,?_⟩|refine lit_true ?_|refine lit_false ?_))
    refine ⟨fun _ _ => rfl, by rw [b5]; omega, by omega, ?_⟩
    (repeat ((conv=>whnf);first|refine ω0 ?_|refine ω1 ?_|refine ω2 ?_|refine ω3 ?_|refine ω4 rfl ?_|refine ω5 rfl ?_|refine ω6 ?_|refine ω7 ?_|refine ω8 ?_|refine ⟨rfl,?_⟩|refine ⟨trivial,?_⟩|refine ⟨⟨rfl,Nat.le_of_ble_eq_true rfl⟩,?_⟩|refine ⟨⟨by kernel_rfl,by kernel_rfl⟩,?_⟩|refine ⟨by decide,?_⟩|refine lit_true ?_|refine lit_false ?_))
    refine aop_tells rfl rfl hvm ⟨AVle.refl _, le_copy b _, trivial⟩ fun nx2 => ?_
    (repeat ((conv=>whnf);first|refine ω0 ?_|refine ω1 ?_|refine ω2 ?_|refine ω3 ?_|refine ω4 rfl ?_|refine ω5 rfl ?_|refine ω6 ?_|refine ω7 ?_|refine ω8 ?_|refine ⟨rfl,?_⟩|refine ⟨trivial,?_⟩|refine ⟨⟨rfl,Nat.le_of_ble_eq_true rfl⟩,?_⟩|refine ⟨⟨by kernel_rfl,by kernel_rfl⟩,?_⟩|refine ⟨by decide,?_⟩|refine lit_true ?_|refine lit_false ?_))
    refine aop_tells rfl rfl hck ⟨AVle.refl _, trivial⟩ fun nx3 => ?_
    (repeat ((conv=>whnf);first|refine ω0 ?_|refine ω1 ?_|refine ω2 ?_|refine ω3 ?_|refine ω4 rfl ?_|refine ω5 rfl ?_|refine ω6 ?_|refine ω7 ?_|refine ω8 ?_|refine ⟨rfl,?_⟩|refine ⟨trivial,?_⟩|refine ⟨⟨rfl,Nat.le_of_ble_eq_true rfl⟩,?_⟩|refine ⟨⟨by kernel_rfl,by kernel_rfl⟩,?_⟩|refine ⟨by decide,?_⟩|refine lit_true ?_|refine lit_false ?_))
    rw [hc]
    (repeat ((conv=>whnf);first|refine ω0 ?_|refine ω1 ?_|refine ω2 ?_|refine ω3 ?_|refine ω4 rfl ?_|refine ω5 rfl ?_|refine ω6 ?_|refine ω7 ?_|refine ω8 ?_|refine ⟨rfl,?_⟩|refine ⟨trivial,?_⟩|refine ⟨⟨rfl,Nat.le_of_ble_eq_true rfl⟩,?_⟩|refine ⟨⟨by kernel_rfl,by kernel_rfl⟩,?_⟩|refine ⟨by decide,?_⟩|refine lit_true ?_|refine lit_false ?_))
    (intro c hc; obtain rfl : c = true := hc.trans (by first | exact decide_eq_true (by omega) | (simp; omega)); (repeat ((conv=>whnf);first|refine ω0 ?_|refine ω1 ?_|refine ω2 ?_|refine ω3 ?_|refine ω4 rfl ?_|refine ω5 rfl ?_|refine ω6 ?_|refine ω7 ?_|refine ω8 ?_|refine ⟨rfl,?_⟩|refine ⟨trivial,?_⟩|refine ⟨⟨rfl,Nat.le_of_ble_eq_true rfl⟩,?_⟩|refine ⟨⟨by kernel_rfl,by kernel_rfl⟩,?_⟩|refine ⟨by decide,?_⟩|refine lit_true ?_|refine lit_false ?_)))
    refine aop_tells rfl rfl (vsame_true (v := 0) (s := rn0) (by decide)) ⟨AVle.refl _, outA_zero, trivial⟩ fun nx6 => ?_
    (repeat ((conv=>whnf);first|refine ω0 ?_|refine ω1 ?_|refine ω2 ?_|refine ω3 ?_|refine ω4 rfl ?_|refine ω5 rfl ?_|refine ω6 ?_|refine ω7 ?_|refine ω8 ?_|refine ⟨rfl,?_⟩|refine ⟨trivial,?_⟩|refine ⟨⟨rfl,Nat.le_of_ble_eq_true rfl⟩,?_⟩|refine ⟨⟨by kernel_rfl,by kernel_rfl⟩,?_⟩|refine ⟨by decide,?_⟩|refine lit_true ?_|refine lit_false ?_))
    refine aop_tells rfl rfl awake6_spec trivial fun nx7 => ?_
    (repeat ((conv=>whnf);first|refine ω0 ?_|refine ω1 ?_|refine ω2 ?_|refine ω3 ?_|refine ω4 rfl ?_|refine ω5 rfl ?_|refine ω6 ?_|refine ω7 ?_|refine ω8 ?_|refine ⟨rfl,?_⟩|refine ⟨trivial,?_⟩|refine ⟨⟨rfl,Nat.le_of_ble_eq_true rfl⟩,?_⟩|refine ⟨⟨by kernel_rfl,by kernel_rfl⟩,?_⟩|refine ⟨by decide,?_⟩|refine lit_true ?_|refine lit_false ?_))
    exact ret_bool rfl rfl
set_option maxHeartbeats 2000000 in
theorem vmruns_C (l : List Ins) (hok : okL l) (hl : l.length ≤ maxLen) (b : List Nat) (hb : okB b) (hbl : b.length ≤ maxLen) (hc : (checkI l).2 = 0) (hlen : 64 < b.length) : PCall Try.prog 8 [inss l, bytesA b] (fun r => r = .v (.bool true)) := by
  refine pcall_of_aw Try.func8 rfl rfl fun nx => ?_
  (repeat ((conv=>whnf);first|refine ω0 ?_|refine ω1 ?_|refine ω2 ?_|refine ω3 ?_|refine ω4 rfl ?_|refine ω5 rfl ?_|refine ω6 ?_|refine ω7 ?_|refine ω8 ?_|refine ⟨rfl,?_⟩|refine ⟨trivial,?_⟩|refine ⟨⟨rfl,Nat.le_of_ble_eq_true rfl⟩,?_⟩|refine ⟨⟨by kernel_rfl,by kernel_rfl⟩,?_⟩|refine ⟨by decide,?_⟩|refine lit_true ?_|refine lit_false ?_))
  intro c h1; cases c
  rotate_left
  · (repeat ((conv=>whnf);first|refine ω0 ?_|refine ω1 ?_|refine ω2 ?_|refine ω3 ?_|refine ω4 rfl ?_|refine ω5 rfl ?_|refine ω6 ?_|refine ω7 ?_|refine ω8 ?_|refine ⟨rfl,?_⟩|refine ⟨trivial,?_⟩|refine ⟨⟨rfl,Nat.le_of_ble_eq_true rfl⟩,?_⟩|refine ⟨⟨by kernel_rfl,by kernel_rfl⟩,?_⟩|refine ⟨by decide,?_⟩|refine lit_true ?_|refine lit_false ?_))
    exact ret_bool rfl rfl
  have h1 := not_of h1
  have hl2 : l.length ≤ 200 := by omega
  (repeat ((conv=>whnf);first|refine ω0 ?_|refine ω1 ?_|refine ω2 ?_|refine ω3 ?_|refine ω4 rfl ?_|refine ω5 rfl ?_|refine ω6 ?_|refine ω7 ?_|refine ω8 ?_|refine ⟨rfl,?_⟩|refine ⟨trivial,?_⟩|refine ⟨⟨rfl,Nat.le_of_ble_eq_true rfl⟩,?_⟩|refine ⟨⟨by kernel_rfl,by kernel_rfl⟩,?_⟩|refine ⟨by decide,?_⟩|refine lit_true ?_|refine lit_false ?_))
  intro c h2; cases c
  rotate_left
  · (repeat ((conv=>whnf);first|refine ω0 ?_|refine ω1 ?_|refine ω2 ?_|refine ω3 ?_|refine ω4 rfl ?_|refine ω5 rfl ?_|refine ω6 ?_|refine ω7 ?_|refine ω8 ?_|refine ⟨rfl,?_⟩|refine ⟨trivial,?_⟩|refine ⟨⟨rfl,Nat.le_of_ble_eq_true rfl⟩,?_⟩|refine ⟨⟨by kernel_rfl,by kernel_rfl⟩,?_⟩|refine ⟨by decide,?_⟩|refine lit_true ?_|refine lit_false ?_))
    exact ret_bool rfl rfl
  have h2 := not_of h2
  have hb2 : b.length ≤ 100 := by omega
  (repeat ((conv=>whnf);first|refine ω0 ?_|refine ω1 ?_|refine ω2 ?_|refine ω3 ?_|refine ω4 rfl ?_|refine ω5 rfl ?_|refine ω6 ?_|refine ω7 ?_|refine ω8 ?_|refine ⟨rfl,?_⟩|refine ⟨trivial,?_⟩|refine ⟨⟨rfl,Nat.le_of_ble_eq_true rfl⟩,?_⟩|refine ⟨⟨by kernel_rfl,by kernel_rfl⟩,?_⟩|refine ⟨by decide,?_⟩|refine lit_true ?_|refine lit_false ?_))
  refine aop_tells rfl rfl (all6_spec l (by omega)) ⟨AVle.refl _, trivial⟩ fun nx1 => ?_
  have hvm := vmrun_spec l hok (by omega) b hb (by omega)
  have hck := checkR_spec l hok (by omega)
  have hnew := new_spec l hok (by omega)
  rw [show vmI l b = (3, (0, rn0)) by unfold vmI; rw [if_neg (by omega), if_neg (by omega), if_pos hlen]] at hvm
  dsimp only at hvm
  skip
  (repeat ((conv=>whnf);first|refine ω0 ?_|refine ω1 ?_|refine ω2 ?_|refine ω3 ?_|refine ω4 rfl ?_|refine ω5 rfl ?_|refine ω6 ?_|refine ω7 ?_|refine ω8 ?_|refine ⟨rfl,?_⟩|refine ⟨trivial,?_⟩|refine ⟨⟨rfl,Nat.le_of_ble_eq_true rfl⟩,?_⟩|refine ⟨⟨by kernel_rfl,by kernel_rfl⟩,?_⟩|refine ⟨by decide,?_⟩|refine lit_true ?_|refine lit_false ?_))
  refine appK_intro (fun h => ?_) (fun h => ?_)
  · obtain rfl : b = [] := List.length_eq_zero_iff.1 h
    (repeat ((conv=>whnf);first|refine ω0 ?_|refine ω1 ?_|refine ω2 ?_|refine ω3 ?_|refine ω4 rfl ?_|refine ω5 rfl ?_|refine ω6 ?_|refine ω7 ?_|refine ω8 ?_|refine ⟨rfl,?_⟩|refine ⟨trivial,?_⟩|refine ⟨⟨rfl,Nat.le_of_ble_eq_true rfl⟩,?_⟩|refine ⟨⟨by kernel_rfl,by kernel_rfl⟩,?_⟩|refine ⟨by decide,?_⟩|refine lit_true ?_|refine lit_false ?_))
    refine aop_tells rfl rfl hvm ⟨AVle.refl _, AVle.os_sl0, trivial⟩ fun nx2 => ?_
    (repeat ((conv=>whnf);first|refine ω0 ?_|refine ω1 ?_|refine ω2 ?_|refine ω3 ?_|refine ω4 rfl ?_|refine ω5 rfl ?_|refine ω6 ?_|refine ω7 ?_|refine ω8 ?_|refine ⟨rfl,?_⟩|refine ⟨trivial,?_⟩|refine ⟨⟨rfl,Nat.le_of_ble_eq_true rfl⟩,?_⟩|refine ⟨⟨by kernel_rfl,by kernel_rfl⟩,?_⟩|refine ⟨by decide,?_⟩|refine lit_true ?_|refine lit_false ?_))
    refine aop_tells rfl rfl hck ⟨AVle.refl _, trivial⟩ fun nx3 => ?_
    (repeat ((conv=>whnf);first|refine ω0 ?_|refine ω1 ?_|refine ω2 ?_|refine ω3 ?_|refine ω4 rfl ?_|refine ω5 rfl ?_|refine ω6 ?_|refine ω7 ?_|refine ω8 ?_|refine ⟨rfl,?_⟩|refine ⟨trivial,?_⟩|refine ⟨⟨rfl,Nat.le_of_ble_eq_true rfl⟩,?_⟩|refine ⟨⟨by kernel_rfl,by kernel_rfl⟩,?_⟩|refine ⟨by decide,?_⟩|refine lit_true ?_|refine lit_false ?_))
    exact absurd hlen (by decide)
  · (repeat ((conv=>whnf);first|refine ω0 ?_|refine ω1 ?_|refine ω2 ?_|refine ω3 ?_|refine ω4 rfl ?_|refine ω5 rfl ?_|refine ω6 ?_|refine ω7 ?_|refine ω8 ?_|refine ⟨rfl,?_⟩|refine ⟨trivial,?_⟩|refine ⟨⟨rfl,Nat.le_of_ble_eq_true rfl⟩,?_⟩|refine ⟨⟨by kernel_rfl,by kernel_rfl⟩,?_⟩|refine ⟨by decide,?_⟩|refine lit_true ?_|refine lit_false ?_))
    refine ⟨fun _ _ => rfl, by rw [b5]; omega, by omega, ?_⟩
    (repeat ((conv=>whnf);first|refine ω0 ?_|refine ω1 ?_|refine ω2 ?_|refine ω3 ?_|refine ω4 rfl ?_|refine ω5 rfl ?_|refine ω6 ?_|refine ω7 ?_|refine ω8 ?_|refine ⟨rfl,?_⟩|refine ⟨trivial,?_⟩|refine ⟨⟨rfl,Nat.le_of_ble_eq_true rfl⟩,?_⟩|refine ⟨⟨by kernel_rfl,by kernel_rfl⟩,?_⟩|refine ⟨by decide,?_⟩|refine lit_true ?_|refine lit_false ?_))
    refine aop_tells rfl rfl hvm ⟨AVle.refl _, le_copy b _, trivial⟩ fun nx2 => ?_
    (repeat ((conv=>whnf);first|refine ω0 ?_|refine ω1 ?_|refine ω2 ?_|refine ω3 ?_|refine ω4 rfl ?_|refine ω5 rfl ?_|refine ω6 ?_|refine ω7 ?_|refine ω8 ?_|refine ⟨rfl,?_⟩|refine ⟨trivial,?_⟩|refine ⟨⟨rfl,Nat.le_of_ble_eq_true rfl⟩,?_⟩|refine ⟨⟨by kernel_rfl,by kernel_rfl⟩,?_⟩|refine ⟨by decide,?_⟩|refine lit_true ?_|refine lit_false ?_))
    refine aop_tells rfl rfl hck ⟨AVle.refl _, trivial⟩ fun nx3 => ?_
    (repeat ((conv=>whnf);first|refine ω0 ?_|refine ω1 ?_|refine ω2 ?_|refine ω3 ?_|refine ω4 rfl ?_|refine ω5 rfl ?_|refine ω6 ?_|refine ω7 ?_|refine ω8 ?_|refine ⟨rfl,?_⟩|refine ⟨trivial,?_⟩|refine ⟨⟨rfl,Nat.le_of_ble_eq_true rfl⟩,?_⟩|refine ⟨⟨by kernel_rfl,by kernel_rfl⟩,?_⟩|refine ⟨by decide,?_⟩|refine lit_true ?_|refine lit_false ?_))
    rw [hc]
    (repeat ((conv=>whnf);first|refine ω0 ?_|refine ω1 ?_|refine ω2 ?_|refine ω3 ?_|refine ω4 rfl ?_|refine ω5 rfl ?_|refine ω6 ?_|refine ω7 ?_|refine ω8 ?_|refine ⟨rfl,?_⟩|refine ⟨trivial,?_⟩|refine ⟨⟨rfl,Nat.le_of_ble_eq_true rfl⟩,?_⟩|refine ⟨⟨by kernel_rfl,by kernel_rfl⟩,?_⟩|refine ⟨by decide,?_⟩|refine lit_true ?_|refine lit_false ?_))
    (intro c hc; obtain rfl : c = false := hc.trans (by first | exact decide_eq_false (by omega) | (simp; omega)); (repeat ((conv=>whnf);first|refine ω0 ?_|refine ω1 ?_|refine ω2 ?_|refine ω3 ?_|refine ω4 rfl ?_|refine ω5 rfl ?_|refine ω6 ?_|refine ω7 ?_|refine ω8 ?_|refine ⟨rfl,?_⟩|refine ⟨trivial,?_⟩|refine ⟨⟨rfl,Nat.le_of_ble_eq_true rfl⟩,?_⟩|refine ⟨⟨by kernel_rfl,by kernel_rfl⟩,?_⟩|refine ⟨by decide,?_⟩|refine lit_true ?_|refine lit_false ?_)))
    (intro c hc; obtain rfl : c = true := hc.trans (by first | exact decide_eq_true (by omega) | (simp; omega)); (repeat ((conv=>whnf);first|refine ω0 ?_|refine ω1 ?_|refine ω2 ?_|refine ω3 ?_|refine ω4 rfl ?_|refine ω5 rfl ?_|refine ω6 ?_|refine ω7 ?_|refine ω8 ?_|refine ⟨rfl,?_⟩|refine ⟨trivial,?_⟩|refine ⟨⟨rfl,Nat.le_of_ble_eq_true rfl⟩,?_⟩|refine ⟨⟨by kernel_rfl,by kernel_rfl⟩,?_⟩|refine ⟨by decide,?_⟩|refine lit_true ?_|refine lit_false ?_)))
    refine aop_tells rfl rfl (vsame_true (v := 0) (s := rn0) (by decide)) ⟨AVle.refl _, outA_zero, trivial⟩ fun nx6 => ?_
    (repeat ((conv=>whnf);first|refine ω0 ?_|refine ω1 ?_|refine ω2 ?_|refine ω3 ?_|refine ω4 rfl ?_|refine ω5 rfl ?_|refine ω6 ?_|refine ω7 ?_|refine ω8 ?_|refine ⟨rfl,?_⟩|refine ⟨trivial,?_⟩|refine ⟨⟨rfl,Nat.le_of_ble_eq_true rfl⟩,?_⟩|refine ⟨⟨by kernel_rfl,by kernel_rfl⟩,?_⟩|refine ⟨by decide,?_⟩|refine lit_true ?_|refine lit_false ?_))
    refine aop_tells rfl rfl awake6_spec trivial fun nx7 => ?_
    (repeat ((conv=>whnf);first|refine ω0 ?_|refine ω1 ?_|refine ω2 ?_|refine ω3 ?_|refine ω4 rfl ?_|refine ω5 rfl ?_|refine ω6 ?_|refine ω7 ?_|refine ω8 ?_|refine ⟨rfl,?_⟩|refine ⟨trivial,?_⟩|refine ⟨⟨rfl,Nat.le_of_ble_eq_true rfl⟩,?_⟩|refine ⟨⟨by kernel_rfl,by kernel_rfl⟩,?_⟩|refine ⟨by decide,?_⟩|refine lit_true ?_|refine lit_false ?_))
    exact ret_bool rfl rfl
set_option maxHeartbeats 2000000 in
theorem vmruns_D (l : List Ins) (hok : okL l) (hl : l.length ≤ maxLen) (b : List Nat) (hb : okB b) (hbl : b.length ≤ maxLen) (hc : (checkI l).2 = 0) (h64 : b.length = 64) : PCall Try.prog 8 [inss l, bytesA b] (fun r => r = .v (.bool true)) := by
  refine pcall_of_aw Try.func8 rfl rfl fun nx => ?_
  (repeat ((conv=>whnf);first|refine ω0 ?_|refine ω1 ?_|refine ω2 ?_|refine ω3 ?_|refine ω4 rfl ?_|refine ω5 rfl ?_|refine ω6 ?_|refine ω7 ?_|refine ω8 ?_|refine ⟨rfl,?_⟩|refine ⟨trivial,?_⟩|refine ⟨⟨rfl,Nat.le_of_ble_eq_true rfl⟩,?_⟩|refine ⟨⟨by kernel_rfl,by kernel_rfl⟩,?_⟩|refine ⟨by decide,?_⟩|refine lit_true ?_|refine lit_false ?_))
  intro c h1; cases c
  rotate_left
  · (repeat ((conv=>whnf);first|refine ω0 ?_|refine ω1 ?_|refine ω2 ?_|refine ω3 ?_|refine ω4 rfl ?_|refine ω5 rfl ?_|refine ω6 ?_|refine ω7 ?_|refine ω8 ?_|refine ⟨rfl,?_⟩|refine ⟨trivial,?_⟩|refine ⟨⟨rfl,Nat.le_of_ble_eq_true rfl⟩,?_⟩|refine ⟨⟨by kernel_rfl,by kernel_rfl⟩,?_⟩|refine ⟨by decide,?_⟩|refine lit_true ?_|refine lit_false ?_))
    exact ret_bool rfl rfl
  have h1 := not_of h1
  have hl2 : l.length ≤ 200 := by omega
  (repeat ((conv=>whnf);first|refine ω0 ?_|refine ω1 ?_|refine ω2 ?_|refine ω3 ?_|refine ω4 rfl ?_|refine ω5 rfl ?_|refine ω6 ?_|refine ω7 ?_|refine ω8 ?_|refine ⟨rfl,?_⟩|refine ⟨trivial,?_⟩|refine ⟨⟨rfl,Nat.le_of_ble_eq_true rfl⟩,?_⟩|refine ⟨⟨by kernel_rfl,by kernel_rfl⟩,?_⟩|refine ⟨by decide,?_⟩|refine lit_true ?_|refine lit_false ?_))
  intro c h2; cases c
  rotate_left
  · (repeat ((conv=>whnf);first|refine ω0 ?_|refine ω1 ?_|refine ω2 ?_|refine ω3 ?_|refine ω4 rfl ?_|refine ω5 rfl ?_|refine ω6 ?_|refine ω7 ?_|refine ω8 ?_|refine ⟨rfl,?_⟩|refine ⟨trivial,?_⟩|refine ⟨⟨rfl,Nat.le_of_ble_eq_true rfl⟩,?_⟩|refine ⟨⟨by kernel_rfl,by kernel_rfl⟩,?_⟩|refine ⟨by decide,?_⟩|refine lit_true ?_|refine lit_false ?_))
    exact ret_bool rfl rfl
  have h2 := not_of h2
  have hb2 : b.length ≤ 100 := by omega
  (repeat ((conv=>whnf);first|refine ω0 ?_|refine ω1 ?_|refine ω2 ?_|refine ω3 ?_|refine ω4 rfl ?_|refine ω5 rfl ?_|refine ω6 ?_|refine ω7 ?_|refine ω8 ?_|refine ⟨rfl,?_⟩|refine ⟨trivial,?_⟩|refine ⟨⟨rfl,Nat.le_of_ble_eq_true rfl⟩,?_⟩|refine ⟨⟨by kernel_rfl,by kernel_rfl⟩,?_⟩|refine ⟨by decide,?_⟩|refine lit_true ?_|refine lit_false ?_))
  refine aop_tells rfl rfl (all6_spec l (by omega)) ⟨AVle.refl _, trivial⟩ fun nx1 => ?_
  have hvm := vmrun_spec l hok (by omega) b hb (by omega)
  have hck := checkR_spec l hok (by omega)
  have hnew := new_spec l hok (by omega)
  rw [show vmI l b = (0, runI b l) by unfold vmI; rw [if_neg (by omega), if_neg (by omega), if_neg (by omega)]] at hvm
  dsimp only at hvm
  have hR : Right l := check_iff.1 hc
  have hle2 : (runI b l).2.loads.length ≤ 1000000 := by have := (runI_ends (b := b) hR.1).2; omega
  (repeat ((conv=>whnf);first|refine ω0 ?_|refine ω1 ?_|refine ω2 ?_|refine ω3 ?_|refine ω4 rfl ?_|refine ω5 rfl ?_|refine ω6 ?_|refine ω7 ?_|refine ω8 ?_|refine ⟨rfl,?_⟩|refine ⟨trivial,?_⟩|refine ⟨⟨rfl,Nat.le_of_ble_eq_true rfl⟩,?_⟩|refine ⟨⟨by kernel_rfl,by kernel_rfl⟩,?_⟩|refine ⟨by decide,?_⟩|refine lit_true ?_|refine lit_false ?_))
  refine appK_intro (fun h => ?_) (fun h => ?_)
  · obtain rfl : b = [] := List.length_eq_zero_iff.1 h
    (repeat ((conv=>whnf);first|refine ω0 ?_|refine ω1 ?_|refine ω2 ?_|refine ω3 ?_|refine ω4 rfl ?_|refine ω5 rfl ?_|refine ω6 ?_|refine ω7 ?_|refine ω8 ?_|refine ⟨rfl,?_⟩|refine ⟨trivial,?_⟩|refine ⟨⟨rfl,Nat.le_of_ble_eq_true rfl⟩,?_⟩|refine ⟨⟨by kernel_rfl,by kernel_rfl⟩,?_⟩|refine ⟨by decide,?_⟩|refine lit_true ?_|refine lit_false ?_))
    refine aop_tells rfl rfl hvm ⟨AVle.refl _, AVle.os_sl0, trivial⟩ fun nx2 => ?_
    (repeat ((conv=>whnf);first|refine ω0 ?_|refine ω1 ?_|refine ω2 ?_|refine ω3 ?_|refine ω4 rfl ?_|refine ω5 rfl ?_|refine ω6 ?_|refine ω7 ?_|refine ω8 ?_|refine ⟨rfl,?_⟩|refine ⟨trivial,?_⟩|refine ⟨⟨rfl,Nat.le_of_ble_eq_true rfl⟩,?_⟩|refine ⟨⟨by kernel_rfl,by kernel_rfl⟩,?_⟩|refine ⟨by decide,?_⟩|refine lit_true ?_|refine lit_false ?_))
    refine aop_tells rfl rfl hck ⟨AVle.refl _, trivial⟩ fun nx3 => ?_
    (repeat ((conv=>whnf);first|refine ω0 ?_|refine ω1 ?_|refine ω2 ?_|refine ω3 ?_|refine ω4 rfl ?_|refine ω5 rfl ?_|refine ω6 ?_|refine ω7 ?_|refine ω8 ?_|refine ⟨rfl,?_⟩|refine ⟨trivial,?_⟩|refine ⟨⟨rfl,Nat.le_of_ble_eq_true rfl⟩,?_⟩|refine ⟨⟨by kernel_rfl,by kernel_rfl⟩,?_⟩|refine ⟨by decide,?_⟩|refine lit_true ?_|refine lit_false ?_))
    exact absurd h64 (by decide)
  · (repeat ((conv=>whnf);first|refine ω0 ?_|refine ω1 ?_|refine ω2 ?_|refine ω3 ?_|refine ω4 rfl ?_|refine ω5 rfl ?_|refine ω6 ?_|refine ω7 ?_|refine ω8 ?_|refine ⟨rfl,?_⟩|refine ⟨trivial,?_⟩|refine ⟨⟨rfl,Nat.le_of_ble_eq_true rfl⟩,?_⟩|refine ⟨⟨by kernel_rfl,by kernel_rfl⟩,?_⟩|refine ⟨by decide,?_⟩|refine lit_true ?_|refine lit_false ?_))
    refine ⟨fun _ _ => rfl, by rw [b5]; omega, by omega, ?_⟩
    (repeat ((conv=>whnf);first|refine ω0 ?_|refine ω1 ?_|refine ω2 ?_|refine ω3 ?_|refine ω4 rfl ?_|refine ω5 rfl ?_|refine ω6 ?_|refine ω7 ?_|refine ω8 ?_|refine ⟨rfl,?_⟩|refine ⟨trivial,?_⟩|refine ⟨⟨rfl,Nat.le_of_ble_eq_true rfl⟩,?_⟩|refine ⟨⟨by kernel_rfl,by kernel_rfl⟩,?_⟩|refine ⟨by decide,?_⟩|refine lit_true ?_|refine lit_false ?_))
    refine aop_tells rfl rfl hvm ⟨AVle.refl _, le_copy b _, trivial⟩ fun nx2 => ?_
    (repeat ((conv=>whnf);first|refine ω0 ?_|refine ω1 ?_|refine ω2 ?_|refine ω3 ?_|refine ω4 rfl ?_|refine ω5 rfl ?_|refine ω6 ?_|refine ω7 ?_|refine ω8 ?_|refine ⟨rfl,?_⟩|refine ⟨trivial,?_⟩|refine ⟨⟨rfl,Nat.le_of_ble_eq_true rfl⟩,?_⟩|refine ⟨⟨by kernel_rfl,by kernel_rfl⟩,?_⟩|refine ⟨by decide,?_⟩|refine lit_true ?_|refine lit_false ?_))
    refine aop_tells rfl rfl hck ⟨AVle.refl _, trivial⟩ fun nx3 => ?_
    (repeat ((conv=>whnf);first|refine ω0 ?_|refine ω1 ?_|refine ω2 ?_|refine ω3 ?_|refine ω4 rfl ?_|refine ω5 rfl ?_|refine ω6 ?_|refine ω7 ?_|refine ω8 ?_|refine ⟨rfl,?_⟩|refine ⟨trivial,?_⟩|refine ⟨⟨rfl,Nat.le_of_ble_eq_true rfl⟩,?_⟩|refine ⟨⟨by kernel_rfl,by kernel_rfl⟩,?_⟩|refine ⟨by decide,?_⟩|refine lit_true ?_|refine lit_false ?_))
    rw [hc]
    (repeat ((conv=>whnf);first|refine ω0 ?_|refine ω1 ?_|refine ω2 ?_|refine ω3 ?_|refine ω4 rfl ?_|refine ω5 rfl ?_|refine ω6 ?_|refine ω7 ?_|refine ω8 ?_|refine ⟨rfl,?_⟩|refine ⟨trivial,?_⟩|refine ⟨⟨rfl,Nat.le_of_ble_eq_true rfl⟩,?_⟩|refine ⟨⟨by kernel_rfl,by kernel_rfl⟩,?_⟩|refine ⟨by decide,?_⟩|refine lit_true ?_|refine lit_false ?_))
    (intro c hc; obtain rfl : c = false := hc.trans (by first | exact decide_eq_false (by omega) | (simp; omega)); (repeat ((conv=>whnf);first|refine ω0 ?_|refine ω1 ?_|refine ω2 ?_|refine ω3 ?_|refine ω4 rfl ?_|refine ω5 rfl ?_|refine ω6 ?_|refine ω7 ?_|refine ω8 ?_|refine ⟨rfl,?_⟩|refine ⟨trivial,?_⟩|refine ⟨⟨rfl,Nat.le_of_ble_eq_true rfl⟩,?_⟩|refine ⟨⟨by kernel_rfl,by kernel_rfl⟩,?_⟩|refine ⟨by decide,?_⟩|refine lit_true ?_|refine lit_false ?_)))
    (intro c hc; obtain rfl : c = false := hc.trans (by first | exact decide_eq_false (by omega) | (simp; omega)); (repeat ((conv=>whnf);first|refine ω0 ?_|refine ω1 ?_|refine ω2 ?_|refine ω3 ?_|refine ω4 rfl ?_|refine ω5 rfl ?_|refine ω6 ?_|refine ω7 ?_|refine ω8 ?_|refine ⟨rfl,?_⟩|refine ⟨trivial,?_⟩|refine ⟨⟨rfl,Nat.le_of_ble_eq_true rfl⟩,?_⟩|refine ⟨⟨by kernel_rfl,by kernel_rfl⟩,?_⟩|refine ⟨by decide,?_⟩|refine lit_true ?_|refine lit_false ?_)))
    (refine aw_draw 13 ?_ ?_ ?_ ?_; (· kernel_rfl); (· kernel_rfl); (· kernel_rfl))
    (repeat ((conv=>whnf);first|refine ω0 ?_|refine ω1 ?_|refine ω2 ?_|refine ω3 ?_|refine ω4 rfl ?_|refine ω5 rfl ?_|refine ω6 ?_|refine ω7 ?_|refine ω8 ?_|refine ⟨rfl,?_⟩|refine ⟨trivial,?_⟩|refine ⟨⟨rfl,Nat.le_of_ble_eq_true rfl⟩,?_⟩|refine ⟨⟨by kernel_rfl,by kernel_rfl⟩,?_⟩|refine ⟨by decide,?_⟩|refine lit_true ?_|refine lit_false ?_))
    refine ex_yields (yields_tells rfl rfl (refrun_spec l hok hR b hb h64) ⟨AVle.refl _, AVle.refl _, trivial⟩ (noid_out _ _)) ?_
    (repeat ((conv=>whnf);first|refine ω0 ?_|refine ω1 ?_|refine ω2 ?_|refine ω3 ?_|refine ω4 rfl ?_|refine ω5 rfl ?_|refine ω6 ?_|refine ω7 ?_|refine ω8 ?_|refine ⟨rfl,?_⟩|refine ⟨trivial,?_⟩|refine ⟨⟨rfl,Nat.le_of_ble_eq_true rfl⟩,?_⟩|refine ⟨⟨by kernel_rfl,by kernel_rfl⟩,?_⟩|refine ⟨by decide,?_⟩|refine lit_true ?_|refine lit_false ?_))
    refine ex_yields (yields_tells rfl rfl (vsame_true (v := (runI b l).1) (s := (runI b l).2) hle2) ⟨AVle.refl _, AVle.refl _, trivial⟩ (NoId.v _)) ?_
    (repeat ((conv=>whnf);first|refine ω0 ?_|refine ω1 ?_|refine ω2 ?_|refine ω3 ?_|refine ω4 rfl ?_|refine ω5 rfl ?_|refine ω6 ?_|refine ω7 ?_|refine ω8 ?_|refine ⟨rfl,?_⟩|refine ⟨trivial,?_⟩|refine ⟨⟨rfl,Nat.le_of_ble_eq_true rfl⟩,?_⟩|refine ⟨⟨by kernel_rfl,by kernel_rfl⟩,?_⟩|refine ⟨by decide,?_⟩|refine lit_true ?_|refine lit_false ?_))
    refine ex_yields (yields_tells rfl rfl awake6_spec trivial (NoId.v _)) ?_
    (repeat ((conv=>whnf);first|refine ω0 ?_|refine ω1 ?_|refine ω2 ?_|refine ω3 ?_|refine ω4 rfl ?_|refine ω5 rfl ?_|refine ω6 ?_|refine ω7 ?_|refine ω8 ?_|refine ⟨rfl,?_⟩|refine ⟨trivial,?_⟩|refine ⟨⟨rfl,Nat.le_of_ble_eq_true rfl⟩,?_⟩|refine ⟨⟨by kernel_rfl,by kernel_rfl⟩,?_⟩|refine ⟨by decide,?_⟩|refine lit_true ?_|refine lit_false ?_))
    exact ret_bool rfl rfl
theorem vmruns_spec (l : List Ins) (hok : okL l) (hl : l.length ≤ maxLen) (b : List Nat) (hb : okB b) (hbl : b.length ≤ maxLen) : PCall Try.prog 8 [inss l, bytesA b] (fun r => r = .v (.bool true)) := by
  by_cases hc : (checkI l).2 = 0
  · rcases Nat.lt_trichotomy b.length 64 with h | h | h
    · exact vmruns_B l hok hl b hb hbl hc h
    · exact vmruns_D l hok hl b hb hbl hc h
    · exact vmruns_C l hok hl b hb hbl hc h
  · exact vmruns_A l hok hl b hb hbl hc
end Go.Proofs.W
