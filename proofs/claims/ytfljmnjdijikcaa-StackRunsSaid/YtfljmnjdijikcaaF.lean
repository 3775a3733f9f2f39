import Derived.Test.YtfljmnjdijikcaaE
import Derived.Test.YtfljmnjdijikcaaD
import Derived.Test.YtfljmnjdijikcaaC
set_option linter.unusedVariables false
set_option linter.unusedSimpArgs false
namespace Go.Proofs.W
open Go.Vl
set_option maxRecDepth 100000

def refB (s0 s1 s2 : Nat) (s : Rn) (oi : Option Nat) : List (Vl.Id × Own) := [((2, s2), .c (s.cells.map u32A)), ((1, s1), .c [u32 0, int s.steps, .os 1 s.loads.length (natF s.loads) (nmN 3 oi)]), ((0, s0), .c [u32 0, int 0, .os 0 0 (fun _ => .any) none])]
theorem c41 : Try.prog.cellsOf 30 = 1 := by kernel_rfl
theorem snoc3 {l : List Nat} {x : Int} {v s c : Nat} {f' : Nat → AV} (hx : x = (v : Nat)) (hf : f' 0 = int x) : AVle (.os 1 (l.length + 1) (appF l.length (natF l) f') (some (c, s))) (.os 1 (l ++ [v]).length (natF (l ++ [v])) (some (3, s))) :=
  (snoc_row hx hf).trans (AVle.os_nm rfl)
theorem neg32 {a : Nat} (ha : a < 4294967296) : IntKind.u32.wrap (0 - (a : Int)) = (((4294967296 - a) % 4294967296 : Nat) : Int) := by
  show (0 - (a : Int)) % 4294967296 = _
  omega
theorem xor_eq (a n : Nat) : (a ||| n) - (a &&& n) = a ^^^ n := by
  have key : ∀ k a n : Nat, a < 2 ^ k → n < 2 ^ k → (a ||| n) = (a ^^^ n) + (a &&& n) := by
    intro k
    induction k with
    | zero => intro a n ha hn; obtain rfl : a = 0 := by omega
              obtain rfl : n = 0 := by omega
              rfl
    | succ k ih =>
      intro a n ha hn
      have h := ih (a / 2) (n / 2) (by rw [Nat.pow_succ] at ha; omega) (by rw [Nat.pow_succ] at hn; omega)
      have e1 : (a ||| n) / 2 = a / 2 ||| n / 2 := by simpa using Nat.or_div_two_pow (a := a) (b := n) (n := 1)
      have e2 : (a ^^^ n) / 2 = a / 2 ^^^ n / 2 := by simpa using Nat.xor_div_two_pow (a := a) (b := n) (n := 1)
      have e3 : (a &&& n) / 2 = a / 2 &&& n / 2 := by simpa using Nat.and_div_two_pow (a := a) (b := n) (n := 1)
      have m1 : (a ||| n) % 2 = max (a % 2) (n % 2) := by
        have := Nat.or_mod_two_pow (a := a) (b := n) (n := 1)
        simp only [Nat.pow_one] at this
        rw [this]
        have ha2 : a % 2 = 0 ∨ a % 2 = 1 := by omega
        have hn2 : n % 2 = 0 ∨ n % 2 = 1 := by omega
        rcases ha2 with h1 | h1 <;> rcases hn2 with h2 | h2 <;> rw [h1, h2] <;> rfl
      have m2 : (a ^^^ n) % 2 + (a &&& n) % 2 = max (a % 2) (n % 2) := by
        have q1 := Nat.xor_mod_two_pow (a := a) (b := n) (n := 1)
        have q2 := Nat.and_mod_two_pow (a := a) (b := n) (n := 1)
        simp only [Nat.pow_one] at q1 q2
        rw [q1, q2]
        have ha2 : a % 2 = 0 ∨ a % 2 = 1 := by omega
        have hn2 : n % 2 = 0 ∨ n % 2 = 1 := by omega
        rcases ha2 with h1 | h1 <;> rcases hn2 with h2 | h2 <;> rw [h1, h2] <;> rfl
      omega
  have := key (a + n + 1) a n (by have := @Nat.lt_two_pow_self (a + n + 1); omega) (by have := @Nat.lt_two_pow_self (a + n + 1); omega)
  omega
theorem xor32 {a n : Nat} (ha : a < 4294967296) (hn : n < 4294967296) : IntKind.u32.wrap (bitsI .or .u32 (a : Int) n - bitsI .and .u32 (a : Int) n) = ((a ^^^ n : Nat) : Int) := by
  rw [u32_or' ha hn, u32_and ha hn]
  have h1 := xor_eq a n
  have h2 : a &&& n ≤ a ||| n := Nat.le_trans Nat.and_le_left Nat.left_le_or
  have h3 : a ^^^ n < 4294967296 := Nat.xor_lt_two_pow (n := 32) ha hn
  rw [show ((a ||| n : Nat) : Int) - ((a &&& n : Nat) : Int) = ((a ^^^ n : Nat) : Int) by omega]
  exact w32_id h3
theorem reck19 {a n : Nat} (h : n ≠ 0) : reckV 19 a n = some (a / n) := by simp [reckV, h]
set_option maxHeartbeats 16000000 in
theorem refrun_spec (l : List Ins) (hok : okL l) (hR : Right l) (b : List Nat) (hb : okB b) (hbl : b.length = 64) : Tells Try.prog 38 [inss l, bytesA b] (outA (runI b l).1 (runI b l).2) := by
  have hf := hR.1
  have hle := hf.le
  have hpos := hf.pos
  refine tells_of_aw Try.func38 rfl rfl fun nx => ?_
  (repeat ((conv=>whnf);first|refine ω0 ?_|refine ω1 ?_|refine ω2 ?_|refine ω3 ?_|refine ω4 rfl ?_|refine ω5 rfl ?_|refine ω6 ?_|refine ω7 ?_|refine ω8 ?_|refine ⟨rfl,?_⟩|refine ⟨trivial,?_⟩|refine ⟨⟨rfl,Nat.le_of_ble_eq_true rfl⟩,?_⟩|refine ⟨⟨by kernel_rfl,by kernel_rfl⟩,?_⟩|refine ⟨by decide,?_⟩|refine lit_true ?_|refine lit_false ?_))
  refine aw_loop (fun y : Rn × Option Nat × Nat => mk 207 [(0, inss l), (1, bytesA b), (4, .bp (0, nx) 0), (5, .bp (1, nx + 1) 0), (6, u32 y.1.a), (7, u32 y.1.x), (8, .bp (2, nx + 2) 0), (9, int y.1.at')] ⟨refB nx (nx + 1) (nx + 2) y.1 y.2.1, pmOf (nmN 3 y.2.1) (y.1.loads.length * 1), y.2.2, 4⟩)
    (fun y => RnI b l y.1 y.2.1) (fun y => l.length - y.1.at') ?_ ?_
  · exact ⟨(rn0, none, nx + 3), ⟨hpos, rn0_ok, fun _ => rfl, Nat.le_refl _, Nat.le_refl _, rfl⟩, ele_tell _ _ rfl rfl (List.Sublist.refl _) .slnil ⟨rfl, OwnLe.refl _, rfl, ⟨AVle.refl _, AVle.refl _, AVle.os_nil, trivial⟩, rfl, OwnLe.refl _, trivial⟩ trivial ⟨AVle.refl _, AVle.refl _, AVle.refl _, AVle.refl _, AVle.refl _, AVle.refl _, AVle.refl _, AVle.refl _, trivial⟩⟩
  · rintro ⟨⟨at', a, x, cells, steps, loads⟩, oi, nx2⟩ hI
    obtain ⟨i1, i2, i3, i4, i5, i6⟩ := hI
    dsimp only at i1 i3 i4 i5 i6
    have ha : a < 4294967296 := i2.a
    have hx : x < 4294967296 := i2.x
    have hcl : cells.length = 16 := i2.n
    have hki : (l.getD at' ins0).ok := hok.get i1
    have hw := hf.ok at' i1
    obtain ⟨wp1, wp2, wp3, wp4⟩ := wrong_parts hw
    have hof := refof_spec (l.getD at' ins0).code hki.1
    have hK29 := kof_le (l.getD at' ins0).code
    have hw1 : IntKind.i64.wrap ((at' : Int) + 1) = ((at' + 1 : Nat) : Int) := wrap_succ (by omega)
    have hw2 : IntKind.i64.wrap ((steps : Int) + 1) = ((steps + 1 : Nat) : Int) := wrap_succ (by omega)
    have hok1 : Rn.ok ⟨at' + 1, a, x, cells, steps + 1, loads⟩ := ⟨i2.a, i2.x, i2.n, i2.c⟩
    have hstep : stepV b l ⟨at', a, x, cells, steps, loads⟩ = doV b (l.getD at' ins0) ⟨at' + 1, a, x, cells, steps + 1, loads⟩ := rfl
    have hdok := doV_ok hb hki hok1
    have hdl := doV_loads (b := b) (i := l.getD at' ins0) (s := ⟨at' + 1, a, x, cells, steps + 1, loads⟩)
    have hgo : ∀ s', doV b (l.getD at' ins0) ⟨at' + 1, a, x, cells, steps + 1, loads⟩ = (none, s') → ∀ oi' : Option Nat, (oi' = none → s'.loads = []) → RnI b l s' oi' ∧ l.length - s'.at' < l.length - at' := fun s' hd oi' ho => by
      rw [← hstep] at hd hdok hdl
      obtain ⟨n1, n2⟩ := stepV_next hd
      obtain ⟨n3, n4⟩ := nexts_lt hf i1 _ n1
      rw [hd] at hdok hdl
      dsimp only at n2 n3 hdl hdok
      refine ⟨⟨n4, hdok, ho, by omega, by omega, ?_⟩, by omega⟩
      rw [← i6]
      obtain ⟨m, hm⟩ : ∃ m, l.length - at' = m + 1 := ⟨l.length - at' - 1, by omega⟩
      rw [hm, runV, hd]
      dsimp only
      exact (runV_more hf (l.length - s'.at') m s' n4 (by omega) (by omega)).symm
    have hover : ∀ v s', doV b (l.getD at' ins0) ⟨at' + 1, a, x, cells, steps + 1, loads⟩ = (some v, s') → runI b l = (v, s') := fun v s' hd => by
      rw [← hstep] at hd
      rw [← i6]
      obtain ⟨m, hm⟩ : ∃ m, l.length - at' = m + 1 := ⟨l.length - at' - 1, by omega⟩
      rw [hm, runV, hd]
    clear hdok hdl
    have halt : ∀ s : Rn, altV (l.getD at' ins0) s = if (kof (l.getD at' ins0).code).2 then s.x else (l.getD at' ins0).k := fun s => rfl
    unfold doV at hgo hover
    simp only [halt] at hgo hover
    clear halt
    have hk32 : (l.getD at' ins0).k < 4294967296 := hki.2.2.2
    have hjt : (l.getD at' ins0).jt < 256 := hki.2.1
    have hjf : (l.getD at' ins0).jf < 256 := hki.2.2.1
    have wk : IntKind.i64.wrap ((l.getD at' ins0).k : Int) = ((l.getD at' ins0).k : Nat) := wrap_id (by omega) (by omega)
    have wjt : IntKind.i64.wrap ((l.getD at' ins0).jt : Int) = ((l.getD at' ins0).jt : Nat) := wrap_id (by omega) (by omega)
    have wjf : IntKind.i64.wrap ((l.getD at' ins0).jf : Int) = ((l.getD at' ins0).jf : Nat) := wrap_id (by omega) (by omega)
    generalize (kof (l.getD at' ins0).code).1 = K at *
    generalize (kof (l.getD at' ins0).code).2 = z at *
    (repeat ((conv=>whnf);first|refine ω0 ?_|refine ω1 ?_|refine ω2 ?_|refine ω3 ?_|refine ω4 rfl ?_|refine ω5 rfl ?_|refine ω6 ?_|refine ω7 ?_|refine ω8 ?_|refine ⟨rfl,?_⟩|refine ⟨trivial,?_⟩|refine ⟨⟨rfl,Nat.le_of_ble_eq_true rfl⟩,?_⟩|refine ⟨⟨by kernel_rfl,by kernel_rfl⟩,?_⟩|refine ⟨by decide,?_⟩|refine lit_true ?_|refine lit_false ?_))
    intro c g1; cases c
    · exact absurd (not_of g1) (by dsimp only; omega)
    (repeat ((conv=>whnf);first|refine ω0 ?_|refine ω1 ?_|refine ω2 ?_|refine ω3 ?_|refine ω4 rfl ?_|refine ω5 rfl ?_|refine ω6 ?_|refine ω7 ?_|refine ω8 ?_|refine ⟨rfl,?_⟩|refine ⟨trivial,?_⟩|refine ⟨⟨rfl,Nat.le_of_ble_eq_true rfl⟩,?_⟩|refine ⟨⟨by kernel_rfl,by kernel_rfl⟩,?_⟩|refine ⟨by decide,?_⟩|refine lit_true ?_|refine lit_false ?_))
    refine ⟨⟨by first | omega | (dsimp only; omega), by first | omega | (dsimp only; omega)⟩, ?_⟩
    (repeat ((conv=>whnf);first|refine ω0 ?_|refine ω1 ?_|refine ω2 ?_|refine ω3 ?_|refine ω4 rfl ?_|refine ω5 rfl ?_|refine ω6 ?_|refine ω7 ?_|refine ω8 ?_|refine ⟨rfl,?_⟩|refine ⟨trivial,?_⟩|refine ⟨⟨rfl,Nat.le_of_ble_eq_true rfl⟩,?_⟩|refine ⟨⟨by kernel_rfl,by kernel_rfl⟩,?_⟩|refine ⟨by decide,?_⟩|refine lit_true ?_|refine lit_false ?_))
    refine aop_tells rfl rfl hof ⟨AVle.refl _, trivial⟩ fun nx3 => ?_
    (repeat ((conv=>whnf);first|refine ω0 ?_|refine ω1 ?_|refine ω2 ?_|refine ω3 ?_|refine ω4 rfl ?_|refine ω5 rfl ?_|refine ω6 ?_|refine ω7 ?_|refine ω8 ?_|refine ⟨rfl,?_⟩|refine ⟨trivial,?_⟩|refine ⟨⟨rfl,Nat.le_of_ble_eq_true rfl⟩,?_⟩|refine ⟨⟨by kernel_rfl,by kernel_rfl⟩,?_⟩|refine ⟨by decide,?_⟩|refine lit_true ?_|refine lit_false ?_))
    intro cx hx
    obtain rfl : cx = z := hx
    (repeat ((conv=>whnf);first|refine ω0 ?_|refine ω1 ?_|refine ω2 ?_|refine ω3 ?_|refine ω4 rfl ?_|refine ω5 rfl ?_|refine ω6 ?_|refine ω7 ?_|refine ω8 ?_|refine ⟨rfl,?_⟩|refine ⟨trivial,?_⟩|refine ⟨⟨rfl,Nat.le_of_ble_eq_true rfl⟩,?_⟩|refine ⟨⟨by kernel_rfl,by kernel_rfl⟩,?_⟩|refine ⟨by decide,?_⟩|refine lit_true ?_|refine lit_false ?_))
    (refine aw_draw 6 ?_ ?_ ?_ ?_; (· kernel_rfl); (· kernel_rfl); (· kernel_rfl))
    (repeat ((conv=>whnf);first|refine ω0 ?_|refine ω1 ?_|refine ω2 ?_|refine ω3 ?_|refine ω4 rfl ?_|refine ω5 rfl ?_|refine ω6 ?_|refine ω7 ?_|refine ω8 ?_|refine ⟨rfl,?_⟩|refine ⟨trivial,?_⟩|refine ⟨⟨rfl,Nat.le_of_ble_eq_true rfl⟩,?_⟩|refine ⟨⟨by kernel_rfl,by kernel_rfl⟩,?_⟩|refine ⟨by decide,?_⟩|refine lit_true ?_|refine lit_false ?_))
    cases cx
    · rcases (by omega : K = 0 ∨ K = 1 ∨ K = 2 ∨ K = 3 ∨ K = 4 ∨ K = 5 ∨ K = 6 ∨ K = 7 ∨ K = 8 ∨ K = 9 ∨ K = 10 ∨ K = 11 ∨ K = 12 ∨ K = 13 ∨ K = 14 ∨ K = 15 ∨ K = 16 ∨ K = 17 ∨ K = 18 ∨ K = 19 ∨ K = 20 ∨ K = 21 ∨ K = 22 ∨ K = 23 ∨ K = 24 ∨ K = 25 ∨ K = 26 ∨ K = 27 ∨ K = 28) with rfl | rfl | rfl | rfl | rfl | rfl | rfl | rfl | rfl | rfl | rfl | rfl | rfl | rfl | rfl | rfl | rfl | rfl | rfl | rfl | rfl | rfl | rfl | rfl | rfl | rfl | rfl | rfl | rfl
      · exact absurd rfl wp1
      · (repeat ((conv=>whnf);first|refine ω0 ?_|refine ω1 ?_|refine ω2 ?_|refine ω3 ?_|refine ω4 rfl ?_|refine ω5 rfl ?_|refine ω6 ?_|refine ω7 ?_|refine ω8 ?_|refine ⟨rfl,?_⟩|refine ⟨trivial,?_⟩|refine ⟨⟨rfl,Nat.le_of_ble_eq_true rfl⟩,?_⟩|refine ⟨⟨by kernel_rfl,by kernel_rfl⟩,?_⟩|refine ⟨by decide,?_⟩|refine lit_true ?_|refine lit_false ?_))
        refine aop_tells rfl rfl (word_spec b hb (by omega) (l.getD at' ins0).k (by omega)) ⟨AVle.refl _, le_int wk, trivial⟩ fun nx4 => ?_
        rcases oi with _ | id
        · obtain rfl := i3 rfl
          (repeat ((conv=>whnf);first|refine ω0 ?_|refine ω1 ?_|refine ω2 ?_|refine ω3 ?_|refine ω4 rfl ?_|refine ω5 rfl ?_|refine ω6 ?_|refine ω7 ?_|refine ω8 ?_|refine ⟨rfl,?_⟩|refine ⟨trivial,?_⟩|refine ⟨⟨rfl,Nat.le_of_ble_eq_true rfl⟩,?_⟩|refine ⟨⟨by kernel_rfl,by kernel_rfl⟩,?_⟩|refine ⟨by decide,?_⟩|refine lit_true ?_|refine lit_false ?_))
          refine ⟨oneRow_one rfl, by show (0 + 1) * 8 ≤ _; omega, by dsimp only; omega, ?_⟩
          (repeat ((conv=>whnf);first|refine ω0 ?_|refine ω1 ?_|refine ω2 ?_|refine ω3 ?_|refine ω4 rfl ?_|refine ω5 rfl ?_|refine ω6 ?_|refine ω7 ?_|refine ω8 ?_|refine ⟨rfl,?_⟩|refine ⟨trivial,?_⟩|refine ⟨⟨rfl,Nat.le_of_ble_eq_true rfl⟩,?_⟩|refine ⟨⟨by kernel_rfl,by kernel_rfl⟩,?_⟩|refine ⟨by decide,?_⟩|refine lit_true ?_|refine lit_false ?_))
          exact back (⟨at' + 1, wordL b (l.getD at' ins0).k, x, cells, steps + 1, [] ++ [(l.getD at' ins0).k]⟩, some nx4, _) (hgo _ rfl _ (fun h => by cases h)).1 (hgo _ rfl (some nx4) (fun h => by cases h)).2 (ele_tell _ _ rfl rfl (.cons _ (List.Sublist.refl _)) (List.Sublist.refl _) ⟨rfl, OwnLe.refl _, rfl, ⟨AVle.refl _, le_int hw2, snoc3 (l := []) wk rfl, trivial⟩, rfl, OwnLe.refl _, trivial⟩ ⟨rfl, by rw [c3]; simp, trivial⟩ ⟨AVle.refl _, AVle.refl _, AVle.refl _, AVle.refl _, AVle.refl _, AVle.refl _, AVle.refl _, le_int hw1, trivial⟩)
        · skip
          (repeat ((conv=>whnf);first|refine ω0 ?_|refine ω1 ?_|refine ω2 ?_|refine ω3 ?_|refine ω4 rfl ?_|refine ω5 rfl ?_|refine ω6 ?_|refine ω7 ?_|refine ω8 ?_|refine ⟨rfl,?_⟩|refine ⟨trivial,?_⟩|refine ⟨⟨rfl,Nat.le_of_ble_eq_true rfl⟩,?_⟩|refine ⟨⟨by kernel_rfl,by kernel_rfl⟩,?_⟩|refine ⟨by decide,?_⟩|refine lit_true ?_|refine lit_false ?_))
          refine ⟨oneRow_one rfl, by show (loads.length + 1) * 8 ≤ _; omega, by dsimp only; omega, ?_⟩
          (repeat ((conv=>whnf);first|refine ω0 ?_|refine ω1 ?_|refine ω2 ?_|refine ω3 ?_|refine ω4 rfl ?_|refine ω5 rfl ?_|refine ω6 ?_|refine ω7 ?_|refine ω8 ?_|refine ⟨rfl,?_⟩|refine ⟨trivial,?_⟩|refine ⟨⟨rfl,Nat.le_of_ble_eq_true rfl⟩,?_⟩|refine ⟨⟨by kernel_rfl,by kernel_rfl⟩,?_⟩|refine ⟨by decide,?_⟩|refine lit_true ?_|refine lit_false ?_))
          exact back (⟨at' + 1, wordL b (l.getD at' ins0).k, x, cells, steps + 1, loads ++ [(l.getD at' ins0).k]⟩, some nx4, _) (hgo _ rfl _ (fun h => by cases h)).1 (hgo _ rfl (some nx4) (fun h => by cases h)).2 (ele_tell _ _ rfl rfl (.cons _ (List.Sublist.refl _)) (List.Sublist.refl _) ⟨rfl, OwnLe.refl _, rfl, ⟨AVle.refl _, le_int hw2, snoc3 (l := loads) wk rfl, trivial⟩, rfl, OwnLe.refl _, trivial⟩ ⟨rfl, by rw [c3]; simp, trivial⟩ ⟨AVle.refl _, AVle.refl _, AVle.refl _, AVle.refl _, AVle.refl _, AVle.refl _, AVle.refl _, le_int hw1, trivial⟩)
      · (repeat ((conv=>whnf);first|refine ω0 ?_|refine ω1 ?_|refine ω2 ?_|refine ω3 ?_|refine ω4 rfl ?_|refine ω5 rfl ?_|refine ω6 ?_|refine ω7 ?_|refine ω8 ?_|refine ⟨rfl,?_⟩|refine ⟨trivial,?_⟩|refine ⟨⟨rfl,Nat.le_of_ble_eq_true rfl⟩,?_⟩|refine ⟨⟨by kernel_rfl,by kernel_rfl⟩,?_⟩|refine ⟨by decide,?_⟩|refine lit_true ?_|refine lit_false ?_))
        exact back (⟨at' + 1, (l.getD at' ins0).k, x, cells, steps + 1, loads⟩, oi, _) (hgo _ rfl _ i3).1 (hgo _ rfl (oi) i3).2 (ele_tell _ _ rfl rfl (.cons _ (List.Sublist.refl _)) (List.Sublist.refl _) ⟨rfl, OwnLe.refl _, rfl, ⟨AVle.refl _, le_int hw2, AVle.refl _, trivial⟩, rfl, OwnLe.refl _, trivial⟩ (PmEq.refl _) ⟨AVle.refl _, AVle.refl _, AVle.refl _, AVle.refl _, AVle.refl _, AVle.refl _, AVle.refl _, le_int hw1, trivial⟩)
      · (repeat ((conv=>whnf);first|refine ω0 ?_|refine ω1 ?_|refine ω2 ?_|refine ω3 ?_|refine ω4 rfl ?_|refine ω5 rfl ?_|refine ω6 ?_|refine ω7 ?_|refine ω8 ?_|refine ⟨rfl,?_⟩|refine ⟨trivial,?_⟩|refine ⟨⟨rfl,Nat.le_of_ble_eq_true rfl⟩,?_⟩|refine ⟨⟨by kernel_rfl,by kernel_rfl⟩,?_⟩|refine ⟨by decide,?_⟩|refine lit_true ?_|refine lit_false ?_))
        have h16 : (l.getD at' ins0).k < 16 := by omega
        refine ⟨⟨Int.natCast_nonneg _, Int.ofNat_lt.2 h16⟩, splitO_eq (b := .bp (2, nx + 2) ((l.getD at' ins0).k)) (congrArg (AV.bp (2, nx + 2)) (ix1 c41)) ?_⟩
        (conv => whnf)
        refine ⟨⟨rfl, (by first | omega | (simp only [List.length_map, List.length_set, List.length_cons, List.length_nil, List.length_replicate, List.length_append]; omega))⟩, splitO_eq (b := u32A (cells.getD ((l.getD at' ins0).k) 0)) (getD_map (show (l.getD at' ins0).k < cells.length by omega)) ?_⟩
        (repeat ((conv=>whnf);first|refine ω0 ?_|refine ω1 ?_|refine ω2 ?_|refine ω3 ?_|refine ω4 rfl ?_|refine ω5 rfl ?_|refine ω6 ?_|refine ω7 ?_|refine ω8 ?_|refine ⟨rfl,?_⟩|refine ⟨trivial,?_⟩|refine ⟨⟨rfl,Nat.le_of_ble_eq_true rfl⟩,?_⟩|refine ⟨⟨by kernel_rfl,by kernel_rfl⟩,?_⟩|refine ⟨by decide,?_⟩|refine lit_true ?_|refine lit_false ?_))
        exact back (⟨at' + 1, cells.getD (l.getD at' ins0).k 0, x, cells, steps + 1, loads⟩, oi, _) (hgo _ rfl _ i3).1 (hgo _ rfl (oi) i3).2 (ele_tell _ _ rfl rfl (.cons _ (List.Sublist.refl _)) (List.Sublist.refl _) ⟨rfl, OwnLe.refl _, rfl, ⟨AVle.refl _, le_int hw2, AVle.refl _, trivial⟩, rfl, OwnLe.refl _, trivial⟩ (PmEq.refl _) ⟨AVle.refl _, AVle.refl _, AVle.refl _, AVle.refl _, AVle.refl _, AVle.refl _, AVle.refl _, le_int hw1, trivial⟩)
      · (repeat ((conv=>whnf);first|refine ω0 ?_|refine ω1 ?_|refine ω2 ?_|refine ω3 ?_|refine ω4 rfl ?_|refine ω5 rfl ?_|refine ω6 ?_|refine ω7 ?_|refine ω8 ?_|refine ⟨rfl,?_⟩|refine ⟨trivial,?_⟩|refine ⟨⟨rfl,Nat.le_of_ble_eq_true rfl⟩,?_⟩|refine ⟨⟨by kernel_rfl,by kernel_rfl⟩,?_⟩|refine ⟨by decide,?_⟩|refine lit_true ?_|refine lit_false ?_))
        exact back (⟨at' + 1, 64, x, cells, steps + 1, loads⟩, oi, _) (hgo _ rfl _ i3).1 (hgo _ rfl (oi) i3).2 (ele_tell _ _ rfl rfl (.cons _ (List.Sublist.refl _)) (List.Sublist.refl _) ⟨rfl, OwnLe.refl _, rfl, ⟨AVle.refl _, le_int hw2, AVle.refl _, trivial⟩, rfl, OwnLe.refl _, trivial⟩ (PmEq.refl _) ⟨AVle.refl _, AVle.refl _, AVle.refl _, AVle.refl _, AVle.refl _, AVle.refl _, AVle.refl _, le_int hw1, trivial⟩)
      · (repeat ((conv=>whnf);first|refine ω0 ?_|refine ω1 ?_|refine ω2 ?_|refine ω3 ?_|refine ω4 rfl ?_|refine ω5 rfl ?_|refine ω6 ?_|refine ω7 ?_|refine ω8 ?_|refine ⟨rfl,?_⟩|refine ⟨trivial,?_⟩|refine ⟨⟨rfl,Nat.le_of_ble_eq_true rfl⟩,?_⟩|refine ⟨⟨by kernel_rfl,by kernel_rfl⟩,?_⟩|refine ⟨by decide,?_⟩|refine lit_true ?_|refine lit_false ?_))
        exact back (⟨at' + 1, a, (l.getD at' ins0).k, cells, steps + 1, loads⟩, oi, _) (hgo _ rfl _ i3).1 (hgo _ rfl (oi) i3).2 (ele_tell _ _ rfl rfl (.cons _ (List.Sublist.refl _)) (List.Sublist.refl _) ⟨rfl, OwnLe.refl _, rfl, ⟨AVle.refl _, le_int hw2, AVle.refl _, trivial⟩, rfl, OwnLe.refl _, trivial⟩ (PmEq.refl _) ⟨AVle.refl _, AVle.refl _, AVle.refl _, AVle.refl _, AVle.refl _, AVle.refl _, AVle.refl _, le_int hw1, trivial⟩)
      · (repeat ((conv=>whnf);first|refine ω0 ?_|refine ω1 ?_|refine ω2 ?_|refine ω3 ?_|refine ω4 rfl ?_|refine ω5 rfl ?_|refine ω6 ?_|refine ω7 ?_|refine ω8 ?_|refine ⟨rfl,?_⟩|refine ⟨trivial,?_⟩|refine ⟨⟨rfl,Nat.le_of_ble_eq_true rfl⟩,?_⟩|refine ⟨⟨by kernel_rfl,by kernel_rfl⟩,?_⟩|refine ⟨by decide,?_⟩|refine lit_true ?_|refine lit_false ?_))
        have h16 : (l.getD at' ins0).k < 16 := by omega
        refine ⟨⟨Int.natCast_nonneg _, Int.ofNat_lt.2 h16⟩, splitO_eq (b := .bp (2, nx + 2) ((l.getD at' ins0).k)) (congrArg (AV.bp (2, nx + 2)) (ix1 c41)) ?_⟩
        (conv => whnf)
        refine ⟨⟨rfl, (by first | omega | (simp only [List.length_map, List.length_set, List.length_cons, List.length_nil, List.length_replicate, List.length_append]; omega))⟩, splitO_eq (b := u32A (cells.getD ((l.getD at' ins0).k) 0)) (getD_map (show (l.getD at' ins0).k < cells.length by omega)) ?_⟩
        (repeat ((conv=>whnf);first|refine ω0 ?_|refine ω1 ?_|refine ω2 ?_|refine ω3 ?_|refine ω4 rfl ?_|refine ω5 rfl ?_|refine ω6 ?_|refine ω7 ?_|refine ω8 ?_|refine ⟨rfl,?_⟩|refine ⟨trivial,?_⟩|refine ⟨⟨rfl,Nat.le_of_ble_eq_true rfl⟩,?_⟩|refine ⟨⟨by kernel_rfl,by kernel_rfl⟩,?_⟩|refine ⟨by decide,?_⟩|refine lit_true ?_|refine lit_false ?_))
        exact back (⟨at' + 1, a, cells.getD (l.getD at' ins0).k 0, cells, steps + 1, loads⟩, oi, _) (hgo _ rfl _ i3).1 (hgo _ rfl (oi) i3).2 (ele_tell _ _ rfl rfl (.cons _ (List.Sublist.refl _)) (List.Sublist.refl _) ⟨rfl, OwnLe.refl _, rfl, ⟨AVle.refl _, le_int hw2, AVle.refl _, trivial⟩, rfl, OwnLe.refl _, trivial⟩ (PmEq.refl _) ⟨AVle.refl _, AVle.refl _, AVle.refl _, AVle.refl _, AVle.refl _, AVle.refl _, AVle.refl _, le_int hw1, trivial⟩)
      · (repeat ((conv=>whnf);first|refine ω0 ?_|refine ω1 ?_|refine ω2 ?_|refine ω3 ?_|refine ω4 rfl ?_|refine ω5 rfl ?_|refine ω6 ?_|refine ω7 ?_|refine ω8 ?_|refine ⟨rfl,?_⟩|refine ⟨trivial,?_⟩|refine ⟨⟨rfl,Nat.le_of_ble_eq_true rfl⟩,?_⟩|refine ⟨⟨by kernel_rfl,by kernel_rfl⟩,?_⟩|refine ⟨by decide,?_⟩|refine lit_true ?_|refine lit_false ?_))
        exact back (⟨at' + 1, a, 64, cells, steps + 1, loads⟩, oi, _) (hgo _ rfl _ i3).1 (hgo _ rfl (oi) i3).2 (ele_tell _ _ rfl rfl (.cons _ (List.Sublist.refl _)) (List.Sublist.refl _) ⟨rfl, OwnLe.refl _, rfl, ⟨AVle.refl _, le_int hw2, AVle.refl _, trivial⟩, rfl, OwnLe.refl _, trivial⟩ (PmEq.refl _) ⟨AVle.refl _, AVle.refl _, AVle.refl _, AVle.refl _, AVle.refl _, AVle.refl _, AVle.refl _, le_int hw1, trivial⟩)
      · (repeat ((conv=>whnf);first|refine ω0 ?_|refine ω1 ?_|refine ω2 ?_|refine ω3 ?_|refine ω4 rfl ?_|refine ω5 rfl ?_|refine ω6 ?_|refine ω7 ?_|refine ω8 ?_|refine ⟨rfl,?_⟩|refine ⟨trivial,?_⟩|refine ⟨⟨rfl,Nat.le_of_ble_eq_true rfl⟩,?_⟩|refine ⟨⟨by kernel_rfl,by kernel_rfl⟩,?_⟩|refine ⟨by decide,?_⟩|refine lit_true ?_|refine lit_false ?_))
        have h16 : (l.getD at' ins0).k < 16 := by omega
        refine ⟨⟨Int.natCast_nonneg _, Int.ofNat_lt.2 h16⟩, splitO_eq (b := .bp (2, nx + 2) ((l.getD at' ins0).k)) (congrArg (AV.bp (2, nx + 2)) (ix1 c41)) ?_⟩
        (conv => whnf)
        refine ⟨⟨rfl, (by first | omega | (simp only [List.length_map, List.length_set, List.length_cons, List.length_nil, List.length_replicate, List.length_append]; omega))⟩, ?_⟩
        rw [show splice (cells.map u32A) ((l.getD at' ins0).k) [AV.v (.int .u32 (a : Nat))] = (cells.set ((l.getD at' ins0).k) (a)).map u32A from splice_one (f := u32A) (x := a) (show (l.getD at' ins0).k < cells.length by omega)]
        (repeat ((conv=>whnf);first|refine ω0 ?_|refine ω1 ?_|refine ω2 ?_|refine ω3 ?_|refine ω4 rfl ?_|refine ω5 rfl ?_|refine ω6 ?_|refine ω7 ?_|refine ω8 ?_|refine ⟨rfl,?_⟩|refine ⟨trivial,?_⟩|refine ⟨⟨rfl,Nat.le_of_ble_eq_true rfl⟩,?_⟩|refine ⟨⟨by kernel_rfl,by kernel_rfl⟩,?_⟩|refine ⟨by decide,?_⟩|refine lit_true ?_|refine lit_false ?_))
        exact back (⟨at' + 1, a, x, cells.set (l.getD at' ins0).k a, steps + 1, loads⟩, oi, _) (hgo _ rfl _ i3).1 (hgo _ rfl (oi) i3).2 (ele_tell _ _ rfl rfl (.cons _ (List.Sublist.refl _)) (List.Sublist.refl _) ⟨rfl, OwnLe.refl _, rfl, ⟨AVle.refl _, le_int hw2, AVle.refl _, trivial⟩, rfl, OwnLe.refl _, trivial⟩ (PmEq.refl _) ⟨AVle.refl _, AVle.refl _, AVle.refl _, AVle.refl _, AVle.refl _, AVle.refl _, AVle.refl _, le_int hw1, trivial⟩)
      · (repeat ((conv=>whnf);first|refine ω0 ?_|refine ω1 ?_|refine ω2 ?_|refine ω3 ?_|refine ω4 rfl ?_|refine ω5 rfl ?_|refine ω6 ?_|refine ω7 ?_|refine ω8 ?_|refine ⟨rfl,?_⟩|refine ⟨trivial,?_⟩|refine ⟨⟨rfl,Nat.le_of_ble_eq_true rfl⟩,?_⟩|refine ⟨⟨by kernel_rfl,by kernel_rfl⟩,?_⟩|refine ⟨by decide,?_⟩|refine lit_true ?_|refine lit_false ?_))
        have h16 : (l.getD at' ins0).k < 16 := by omega
        refine ⟨⟨Int.natCast_nonneg _, Int.ofNat_lt.2 h16⟩, splitO_eq (b := .bp (2, nx + 2) ((l.getD at' ins0).k)) (congrArg (AV.bp (2, nx + 2)) (ix1 c41)) ?_⟩
        (conv => whnf)
        refine ⟨⟨rfl, (by first | omega | (simp only [List.length_map, List.length_set, List.length_cons, List.length_nil, List.length_replicate, List.length_append]; omega))⟩, ?_⟩
        rw [show splice (cells.map u32A) ((l.getD at' ins0).k) [AV.v (.int .u32 (x : Nat))] = (cells.set ((l.getD at' ins0).k) (x)).map u32A from splice_one (f := u32A) (x := x) (show (l.getD at' ins0).k < cells.length by omega)]
        (repeat ((conv=>whnf);first|refine ω0 ?_|refine ω1 ?_|refine ω2 ?_|refine ω3 ?_|refine ω4 rfl ?_|refine ω5 rfl ?_|refine ω6 ?_|refine ω7 ?_|refine ω8 ?_|refine ⟨rfl,?_⟩|refine ⟨trivial,?_⟩|refine ⟨⟨rfl,Nat.le_of_ble_eq_true rfl⟩,?_⟩|refine ⟨⟨by kernel_rfl,by kernel_rfl⟩,?_⟩|refine ⟨by decide,?_⟩|refine lit_true ?_|refine lit_false ?_))
        exact back (⟨at' + 1, a, x, cells.set (l.getD at' ins0).k x, steps + 1, loads⟩, oi, _) (hgo _ rfl _ i3).1 (hgo _ rfl (oi) i3).2 (ele_tell _ _ rfl rfl (.cons _ (List.Sublist.refl _)) (List.Sublist.refl _) ⟨rfl, OwnLe.refl _, rfl, ⟨AVle.refl _, le_int hw2, AVle.refl _, trivial⟩, rfl, OwnLe.refl _, trivial⟩ (PmEq.refl _) ⟨AVle.refl _, AVle.refl _, AVle.refl _, AVle.refl _, AVle.refl _, AVle.refl _, AVle.refl _, le_int hw1, trivial⟩)
      · (repeat ((conv=>whnf);first|refine ω0 ?_|refine ω1 ?_|refine ω2 ?_|refine ω3 ?_|refine ω4 rfl ?_|refine ω5 rfl ?_|refine ω6 ?_|refine ω7 ?_|refine ω8 ?_|refine ⟨rfl,?_⟩|refine ⟨trivial,?_⟩|refine ⟨⟨rfl,Nat.le_of_ble_eq_true rfl⟩,?_⟩|refine ⟨⟨by kernel_rfl,by kernel_rfl⟩,?_⟩|refine ⟨by decide,?_⟩|refine lit_true ?_|refine lit_false ?_))
        exact back (⟨at' + 1, a, a, cells, steps + 1, loads⟩, oi, _) (hgo _ rfl _ i3).1 (hgo _ rfl (oi) i3).2 (ele_tell _ _ rfl rfl (.cons _ (List.Sublist.refl _)) (List.Sublist.refl _) ⟨rfl, OwnLe.refl _, rfl, ⟨AVle.refl _, le_int hw2, AVle.refl _, trivial⟩, rfl, OwnLe.refl _, trivial⟩ (PmEq.refl _) ⟨AVle.refl _, AVle.refl _, AVle.refl _, AVle.refl _, AVle.refl _, AVle.refl _, AVle.refl _, le_int hw1, trivial⟩)
      · (repeat ((conv=>whnf);first|refine ω0 ?_|refine ω1 ?_|refine ω2 ?_|refine ω3 ?_|refine ω4 rfl ?_|refine ω5 rfl ?_|refine ω6 ?_|refine ω7 ?_|refine ω8 ?_|refine ⟨rfl,?_⟩|refine ⟨trivial,?_⟩|refine ⟨⟨rfl,Nat.le_of_ble_eq_true rfl⟩,?_⟩|refine ⟨⟨by kernel_rfl,by kernel_rfl⟩,?_⟩|refine ⟨by decide,?_⟩|refine lit_true ?_|refine lit_false ?_))
        exact back (⟨at' + 1, x, x, cells, steps + 1, loads⟩, oi, _) (hgo _ rfl _ i3).1 (hgo _ rfl (oi) i3).2 (ele_tell _ _ rfl rfl (.cons _ (List.Sublist.refl _)) (List.Sublist.refl _) ⟨rfl, OwnLe.refl _, rfl, ⟨AVle.refl _, le_int hw2, AVle.refl _, trivial⟩, rfl, OwnLe.refl _, trivial⟩ (PmEq.refl _) ⟨AVle.refl _, AVle.refl _, AVle.refl _, AVle.refl _, AVle.refl _, AVle.refl _, AVle.refl _, le_int hw1, trivial⟩)
      · (repeat ((conv=>whnf);first|refine ω0 ?_|refine ω1 ?_|refine ω2 ?_|refine ω3 ?_|refine ω4 rfl ?_|refine ω5 rfl ?_|refine ω6 ?_|refine ω7 ?_|refine ω8 ?_|refine ⟨rfl,?_⟩|refine ⟨trivial,?_⟩|refine ⟨⟨rfl,Nat.le_of_ble_eq_true rfl⟩,?_⟩|refine ⟨⟨by kernel_rfl,by kernel_rfl⟩,?_⟩|refine ⟨by decide,?_⟩|refine lit_true ?_|refine lit_false ?_))
        exact back (⟨at' + 1, (4294967296 - a) % 4294967296, x, cells, steps + 1, loads⟩, oi, _) (hgo _ rfl _ i3).1 (hgo _ rfl (oi) i3).2 (ele_tell _ _ rfl rfl (.cons _ (List.Sublist.refl _)) (List.Sublist.refl _) ⟨rfl, OwnLe.refl _, rfl, ⟨AVle.refl _, le_int hw2, AVle.refl _, trivial⟩, rfl, OwnLe.refl _, trivial⟩ (PmEq.refl _) ⟨AVle.refl _, AVle.refl _, AVle.refl _, AVle.refl _, le_int (neg32 ha), AVle.refl _, AVle.refl _, le_int hw1, trivial⟩)
      · (repeat ((conv=>whnf);first|refine ω0 ?_|refine ω1 ?_|refine ω2 ?_|refine ω3 ?_|refine ω4 rfl ?_|refine ω5 rfl ?_|refine ω6 ?_|refine ω7 ?_|refine ω8 ?_|refine ⟨rfl,?_⟩|refine ⟨trivial,?_⟩|refine ⟨⟨rfl,Nat.le_of_ble_eq_true rfl⟩,?_⟩|refine ⟨⟨by kernel_rfl,by kernel_rfl⟩,?_⟩|refine ⟨by decide,?_⟩|refine lit_true ?_|refine lit_false ?_))
        exact back (⟨at' + 1 + (l.getD at' ins0).k, a, x, cells, steps + 1, loads⟩, oi, _) (hgo _ rfl _ i3).1 (hgo _ rfl (oi) i3).2 (ele_tell _ _ rfl rfl (.cons _ (List.Sublist.refl _)) (List.Sublist.refl _) ⟨rfl, OwnLe.refl _, rfl, ⟨AVle.refl _, le_int hw2, AVle.refl _, trivial⟩, rfl, OwnLe.refl _, trivial⟩ (PmEq.refl _) ⟨AVle.refl _, AVle.refl _, AVle.refl _, AVle.refl _, AVle.refl _, AVle.refl _, AVle.refl _, le_int (wrap_two (n := at') (k := (l.getD at' ins0).k) (by omega)), trivial⟩)
      · rw [hover _ _ rfl]
        (repeat ((conv=>whnf);first|refine ω0 ?_|refine ω1 ?_|refine ω2 ?_|refine ω3 ?_|refine ω4 rfl ?_|refine ω5 rfl ?_|refine ω6 ?_|refine ω7 ?_|refine ω8 ?_|refine ⟨rfl,?_⟩|refine ⟨trivial,?_⟩|refine ⟨⟨rfl,Nat.le_of_ble_eq_true rfl⟩,?_⟩|refine ⟨⟨by kernel_rfl,by kernel_rfl⟩,?_⟩|refine ⟨by decide,?_⟩|refine lit_true ?_|refine lit_false ?_))
        refine ret_tells_all rfl ?_ ?_
        · exact ⟨rfl, trivial⟩
        · exact AVle.ags (cs := [_, _, _]) ⟨AVle.refl _, le_int hw2, AVle.os_sl, trivial⟩
      · rw [hover _ _ rfl]
        (repeat ((conv=>whnf);first|refine ω0 ?_|refine ω1 ?_|refine ω2 ?_|refine ω3 ?_|refine ω4 rfl ?_|refine ω5 rfl ?_|refine ω6 ?_|refine ω7 ?_|refine ω8 ?_|refine ⟨rfl,?_⟩|refine ⟨trivial,?_⟩|refine ⟨⟨rfl,Nat.le_of_ble_eq_true rfl⟩,?_⟩|refine ⟨⟨by kernel_rfl,by kernel_rfl⟩,?_⟩|refine ⟨by decide,?_⟩|refine lit_true ?_|refine lit_false ?_))
        refine ret_tells_all rfl ?_ ?_
        · exact ⟨rfl, trivial⟩
        · exact AVle.ags (cs := [_, _, _]) ⟨AVle.refl _, le_int hw2, AVle.os_sl, trivial⟩
      · (repeat ((conv=>whnf);first|refine ω0 ?_|refine ω1 ?_|refine ω2 ?_|refine ω3 ?_|refine ω4 rfl ?_|refine ω5 rfl ?_|refine ω6 ?_|refine ω7 ?_|refine ω8 ?_|refine ⟨rfl,?_⟩|refine ⟨trivial,?_⟩|refine ⟨⟨rfl,Nat.le_of_ble_eq_true rfl⟩,?_⟩|refine ⟨⟨by kernel_rfl,by kernel_rfl⟩,?_⟩|refine ⟨by decide,?_⟩|refine lit_true ?_|refine lit_false ?_))
        exact back (⟨at' + 1, (a + (l.getD at' ins0).k) % 4294967296, x, cells, steps + 1, loads⟩, oi, _) (hgo _ rfl _ i3).1 (hgo _ rfl (oi) i3).2 (ele_tell _ _ rfl rfl (.cons _ (List.Sublist.refl _)) (List.Sublist.refl _) ⟨rfl, OwnLe.refl _, rfl, ⟨AVle.refl _, le_int hw2, AVle.refl _, trivial⟩, rfl, OwnLe.refl _, trivial⟩ (PmEq.refl _) ⟨AVle.refl _, AVle.refl _, AVle.refl _, AVle.refl _, le_int (add32 _ _), AVle.refl _, AVle.refl _, le_int hw1, trivial⟩)
      · (repeat ((conv=>whnf);first|refine ω0 ?_|refine ω1 ?_|refine ω2 ?_|refine ω3 ?_|refine ω4 rfl ?_|refine ω5 rfl ?_|refine ω6 ?_|refine ω7 ?_|refine ω8 ?_|refine ⟨rfl,?_⟩|refine ⟨trivial,?_⟩|refine ⟨⟨rfl,Nat.le_of_ble_eq_true rfl⟩,?_⟩|refine ⟨⟨by kernel_rfl,by kernel_rfl⟩,?_⟩|refine ⟨by decide,?_⟩|refine lit_true ?_|refine lit_false ?_))
        exact back (⟨at' + 1, (a + 4294967296 - (l.getD at' ins0).k) % 4294967296, x, cells, steps + 1, loads⟩, oi, _) (hgo _ rfl _ i3).1 (hgo _ rfl (oi) i3).2 (ele_tell _ _ rfl rfl (.cons _ (List.Sublist.refl _)) (List.Sublist.refl _) ⟨rfl, OwnLe.refl _, rfl, ⟨AVle.refl _, le_int hw2, AVle.refl _, trivial⟩, rfl, OwnLe.refl _, trivial⟩ (PmEq.refl _) ⟨AVle.refl _, AVle.refl _, AVle.refl _, AVle.refl _, le_int (sub32 hk32), AVle.refl _, AVle.refl _, le_int hw1, trivial⟩)
      · (repeat ((conv=>whnf);first|refine ω0 ?_|refine ω1 ?_|refine ω2 ?_|refine ω3 ?_|refine ω4 rfl ?_|refine ω5 rfl ?_|refine ω6 ?_|refine ω7 ?_|refine ω8 ?_|refine ⟨rfl,?_⟩|refine ⟨trivial,?_⟩|refine ⟨⟨rfl,Nat.le_of_ble_eq_true rfl⟩,?_⟩|refine ⟨⟨by kernel_rfl,by kernel_rfl⟩,?_⟩|refine ⟨by decide,?_⟩|refine lit_true ?_|refine lit_false ?_))
        exact back (⟨at' + 1, a * (l.getD at' ins0).k % 4294967296, x, cells, steps + 1, loads⟩, oi, _) (hgo _ rfl _ i3).1 (hgo _ rfl (oi) i3).2 (ele_tell _ _ rfl rfl (.cons _ (List.Sublist.refl _)) (List.Sublist.refl _) ⟨rfl, OwnLe.refl _, rfl, ⟨AVle.refl _, le_int hw2, AVle.refl _, trivial⟩, rfl, OwnLe.refl _, trivial⟩ (PmEq.refl _) ⟨AVle.refl _, AVle.refl _, AVle.refl _, AVle.refl _, le_int (mul32 _ _), AVle.refl _, AVle.refl _, le_int hw1, trivial⟩)
      · (repeat ((conv=>whnf);first|refine ω0 ?_|refine ω1 ?_|refine ω2 ?_|refine ω3 ?_|refine ω4 rfl ?_|refine ω5 rfl ?_|refine ω6 ?_|refine ω7 ?_|refine ω8 ?_|refine ⟨rfl,?_⟩|refine ⟨trivial,?_⟩|refine ⟨⟨rfl,Nat.le_of_ble_eq_true rfl⟩,?_⟩|refine ⟨⟨by kernel_rfl,by kernel_rfl⟩,?_⟩|refine ⟨by decide,?_⟩|refine lit_true ?_|refine lit_false ?_))
        intro c e0; cases c
        · have e0 := fct_b0.1 e0
          have e0 : (l.getD at' ins0).k ≠ 0 := fun h => e0 (by show (((l.getD at' ins0).k : Nat) : Int) = 0; rw [h]; rfl)
          (repeat ((conv=>whnf);first|refine ω0 ?_|refine ω1 ?_|refine ω2 ?_|refine ω3 ?_|refine ω4 rfl ?_|refine ω5 rfl ?_|refine ω6 ?_|refine ω7 ?_|refine ω8 ?_|refine ⟨rfl,?_⟩|refine ⟨trivial,?_⟩|refine ⟨⟨rfl,Nat.le_of_ble_eq_true rfl⟩,?_⟩|refine ⟨⟨by kernel_rfl,by kernel_rfl⟩,?_⟩|refine ⟨by decide,?_⟩|refine lit_true ?_|refine lit_false ?_))
          refine ⟨fun h => e0 (Int.ofNat_inj.1 (show (((l.getD at' ins0).k : Nat) : Int) = ((0 : Nat) : Int) from h)), ?_⟩
          (repeat ((conv=>whnf);first|refine ω0 ?_|refine ω1 ?_|refine ω2 ?_|refine ω3 ?_|refine ω4 rfl ?_|refine ω5 rfl ?_|refine ω6 ?_|refine ω7 ?_|refine ω8 ?_|refine ⟨rfl,?_⟩|refine ⟨trivial,?_⟩|refine ⟨⟨rfl,Nat.le_of_ble_eq_true rfl⟩,?_⟩|refine ⟨⟨by kernel_rfl,by kernel_rfl⟩,?_⟩|refine ⟨by decide,?_⟩|refine lit_true ?_|refine lit_false ?_))
          exact back (⟨at' + 1, a / (l.getD at' ins0).k, x, cells, steps + 1, loads⟩, oi, _) (hgo _ (congrArg (fun o : Option Nat => match o with | some v => ((none : Option Nat), ({ (⟨at' + 1, a, x, cells, steps + 1, loads⟩ : Rn) with a := v } : Rn)) | none => (some 0, (⟨at' + 1, a, x, cells, steps + 1, loads⟩ : Rn))) (reck19 (a := a) e0)) _ i3).1 (hgo _ (congrArg (fun o : Option Nat => match o with | some v => ((none : Option Nat), ({ (⟨at' + 1, a, x, cells, steps + 1, loads⟩ : Rn) with a := v } : Rn)) | none => (some 0, (⟨at' + 1, a, x, cells, steps + 1, loads⟩ : Rn))) (reck19 (a := a) e0)) (oi) i3).2 (ele_tell _ _ rfl rfl (.cons _ (List.Sublist.refl _)) (List.Sublist.refl _) ⟨rfl, OwnLe.refl _, rfl, ⟨AVle.refl _, le_int hw2, AVle.refl _, trivial⟩, rfl, OwnLe.refl _, trivial⟩ (PmEq.refl _) ⟨AVle.refl _, AVle.refl _, AVle.refl _, AVle.refl _, le_int (quo32 ha), AVle.refl _, AVle.refl _, le_int hw1, trivial⟩)
        · have e0 := fct_b1.1 e0
          have e0 : (l.getD at' ins0).k = 0 := Int.ofNat_inj.1 (show (((l.getD at' ins0).k : Nat) : Int) = ((0 : Nat) : Int) from e0)
          rw [hover 0 (⟨at' + 1, a, x, cells, steps + 1, loads⟩ : Rn) (congrArg (fun n => match reckV 19 a n with | some v => ((none : Option Nat), ({ (⟨at' + 1, a, x, cells, steps + 1, loads⟩ : Rn) with a := v } : Rn)) | none => (some 0, (⟨at' + 1, a, x, cells, steps + 1, loads⟩ : Rn))) e0)]
          (repeat ((conv=>whnf);first|refine ω0 ?_|refine ω1 ?_|refine ω2 ?_|refine ω3 ?_|refine ω4 rfl ?_|refine ω5 rfl ?_|refine ω6 ?_|refine ω7 ?_|refine ω8 ?_|refine ⟨rfl,?_⟩|refine ⟨trivial,?_⟩|refine ⟨⟨rfl,Nat.le_of_ble_eq_true rfl⟩,?_⟩|refine ⟨⟨by kernel_rfl,by kernel_rfl⟩,?_⟩|refine ⟨by decide,?_⟩|refine lit_true ?_|refine lit_false ?_))
          refine ret_tells_all rfl ?_ ?_
          · exact ⟨rfl, trivial⟩
          · exact AVle.ags (cs := [_, _, _]) ⟨AVle.refl _, le_int hw2, AVle.os_sl, trivial⟩
      · (repeat ((conv=>whnf);first|refine ω0 ?_|refine ω1 ?_|refine ω2 ?_|refine ω3 ?_|refine ω4 rfl ?_|refine ω5 rfl ?_|refine ω6 ?_|refine ω7 ?_|refine ω8 ?_|refine ⟨rfl,?_⟩|refine ⟨trivial,?_⟩|refine ⟨⟨rfl,Nat.le_of_ble_eq_true rfl⟩,?_⟩|refine ⟨⟨by kernel_rfl,by kernel_rfl⟩,?_⟩|refine ⟨by decide,?_⟩|refine lit_true ?_|refine lit_false ?_))
        exact back (⟨at' + 1, a ||| (l.getD at' ins0).k, x, cells, steps + 1, loads⟩, oi, _) (hgo _ rfl _ i3).1 (hgo _ rfl (oi) i3).2 (ele_tell _ _ rfl rfl (.cons _ (List.Sublist.refl _)) (List.Sublist.refl _) ⟨rfl, OwnLe.refl _, rfl, ⟨AVle.refl _, le_int hw2, AVle.refl _, trivial⟩, rfl, OwnLe.refl _, trivial⟩ (PmEq.refl _) ⟨AVle.refl _, AVle.refl _, AVle.refl _, AVle.refl _, le_int (u32_or' ha hk32), AVle.refl _, AVle.refl _, le_int hw1, trivial⟩)
      · (repeat ((conv=>whnf);first|refine ω0 ?_|refine ω1 ?_|refine ω2 ?_|refine ω3 ?_|refine ω4 rfl ?_|refine ω5 rfl ?_|refine ω6 ?_|refine ω7 ?_|refine ω8 ?_|refine ⟨rfl,?_⟩|refine ⟨trivial,?_⟩|refine ⟨⟨rfl,Nat.le_of_ble_eq_true rfl⟩,?_⟩|refine ⟨⟨by kernel_rfl,by kernel_rfl⟩,?_⟩|refine ⟨by decide,?_⟩|refine lit_true ?_|refine lit_false ?_))
        exact back (⟨at' + 1, a &&& (l.getD at' ins0).k, x, cells, steps + 1, loads⟩, oi, _) (hgo _ rfl _ i3).1 (hgo _ rfl (oi) i3).2 (ele_tell _ _ rfl rfl (.cons _ (List.Sublist.refl _)) (List.Sublist.refl _) ⟨rfl, OwnLe.refl _, rfl, ⟨AVle.refl _, le_int hw2, AVle.refl _, trivial⟩, rfl, OwnLe.refl _, trivial⟩ (PmEq.refl _) ⟨AVle.refl _, AVle.refl _, AVle.refl _, AVle.refl _, le_int (u32_and ha hk32), AVle.refl _, AVle.refl _, le_int hw1, trivial⟩)
      · (repeat ((conv=>whnf);first|refine ω0 ?_|refine ω1 ?_|refine ω2 ?_|refine ω3 ?_|refine ω4 rfl ?_|refine ω5 rfl ?_|refine ω6 ?_|refine ω7 ?_|refine ω8 ?_|refine ⟨rfl,?_⟩|refine ⟨trivial,?_⟩|refine ⟨⟨rfl,Nat.le_of_ble_eq_true rfl⟩,?_⟩|refine ⟨⟨by kernel_rfl,by kernel_rfl⟩,?_⟩|refine ⟨by decide,?_⟩|refine lit_true ?_|refine lit_false ?_))
        refine aop_tells rfl rfl (shiftR_spec a (l.getD at' ins0).k ha hk32 true) ⟨AVle.refl _, AVle.refl _, AVle.refl _, trivial⟩ fun nx4 => ?_
        (repeat ((conv=>whnf);first|refine ω0 ?_|refine ω1 ?_|refine ω2 ?_|refine ω3 ?_|refine ω4 rfl ?_|refine ω5 rfl ?_|refine ω6 ?_|refine ω7 ?_|refine ω8 ?_|refine ⟨rfl,?_⟩|refine ⟨trivial,?_⟩|refine ⟨⟨rfl,Nat.le_of_ble_eq_true rfl⟩,?_⟩|refine ⟨⟨by kernel_rfl,by kernel_rfl⟩,?_⟩|refine ⟨by decide,?_⟩|refine lit_true ?_|refine lit_false ?_))
        exact back (⟨at' + 1, a * 2 ^ ((l.getD at' ins0).k % 32) % 4294967296, x, cells, steps + 1, loads⟩, oi, _) (hgo _ rfl _ i3).1 (hgo _ rfl (oi) i3).2 (ele_tell _ _ rfl rfl (.cons _ (List.Sublist.refl _)) (List.Sublist.refl _) ⟨rfl, OwnLe.refl _, rfl, ⟨AVle.refl _, le_int hw2, AVle.refl _, trivial⟩, rfl, OwnLe.refl _, trivial⟩ (PmEq.refl _) ⟨AVle.refl _, AVle.refl _, AVle.refl _, AVle.refl _, AVle.refl _, AVle.refl _, AVle.refl _, le_int hw1, trivial⟩)
      · (repeat ((conv=>whnf);first|refine ω0 ?_|refine ω1 ?_|refine ω2 ?_|refine ω3 ?_|refine ω4 rfl ?_|refine ω5 rfl ?_|refine ω6 ?_|refine ω7 ?_|refine ω8 ?_|refine ⟨rfl,?_⟩|refine ⟨trivial,?_⟩|refine ⟨⟨rfl,Nat.le_of_ble_eq_true rfl⟩,?_⟩|refine ⟨⟨by kernel_rfl,by kernel_rfl⟩,?_⟩|refine ⟨by decide,?_⟩|refine lit_true ?_|refine lit_false ?_))
        refine aop_tells rfl rfl (shiftR_spec a (l.getD at' ins0).k ha hk32 false) ⟨AVle.refl _, AVle.refl _, AVle.refl _, trivial⟩ fun nx4 => ?_
        (repeat ((conv=>whnf);first|refine ω0 ?_|refine ω1 ?_|refine ω2 ?_|refine ω3 ?_|refine ω4 rfl ?_|refine ω5 rfl ?_|refine ω6 ?_|refine ω7 ?_|refine ω8 ?_|refine ⟨rfl,?_⟩|refine ⟨trivial,?_⟩|refine ⟨⟨rfl,Nat.le_of_ble_eq_true rfl⟩,?_⟩|refine ⟨⟨by kernel_rfl,by kernel_rfl⟩,?_⟩|refine ⟨by decide,?_⟩|refine lit_true ?_|refine lit_false ?_))
        exact back (⟨at' + 1, a / 2 ^ ((l.getD at' ins0).k % 32), x, cells, steps + 1, loads⟩, oi, _) (hgo _ rfl _ i3).1 (hgo _ rfl (oi) i3).2 (ele_tell _ _ rfl rfl (.cons _ (List.Sublist.refl _)) (List.Sublist.refl _) ⟨rfl, OwnLe.refl _, rfl, ⟨AVle.refl _, le_int hw2, AVle.refl _, trivial⟩, rfl, OwnLe.refl _, trivial⟩ (PmEq.refl _) ⟨AVle.refl _, AVle.refl _, AVle.refl _, AVle.refl _, AVle.refl _, AVle.refl _, AVle.refl _, le_int hw1, trivial⟩)
      · (repeat ((conv=>whnf);first|refine ω0 ?_|refine ω1 ?_|refine ω2 ?_|refine ω3 ?_|refine ω4 rfl ?_|refine ω5 rfl ?_|refine ω6 ?_|refine ω7 ?_|refine ω8 ?_|refine ⟨rfl,?_⟩|refine ⟨trivial,?_⟩|refine ⟨⟨rfl,Nat.le_of_ble_eq_true rfl⟩,?_⟩|refine ⟨⟨by kernel_rfl,by kernel_rfl⟩,?_⟩|refine ⟨by decide,?_⟩|refine lit_true ?_|refine lit_false ?_))
        exact back (⟨at' + 1, a ^^^ (l.getD at' ins0).k, x, cells, steps + 1, loads⟩, oi, _) (hgo _ rfl _ i3).1 (hgo _ rfl (oi) i3).2 (ele_tell _ _ rfl rfl (.cons _ (List.Sublist.refl _)) (List.Sublist.refl _) ⟨rfl, OwnLe.refl _, rfl, ⟨AVle.refl _, le_int hw2, AVle.refl _, trivial⟩, rfl, OwnLe.refl _, trivial⟩ (PmEq.refl _) ⟨AVle.refl _, AVle.refl _, AVle.refl _, AVle.refl _, le_int (xor32 ha hk32), AVle.refl _, AVle.refl _, le_int hw1, trivial⟩)
      · (repeat ((conv=>whnf);first|refine ω0 ?_|refine ω1 ?_|refine ω2 ?_|refine ω3 ?_|refine ω4 rfl ?_|refine ω5 rfl ?_|refine ω6 ?_|refine ω7 ?_|refine ω8 ?_|refine ⟨rfl,?_⟩|refine ⟨trivial,?_⟩|refine ⟨⟨rfl,Nat.le_of_ble_eq_true rfl⟩,?_⟩|refine ⟨⟨by kernel_rfl,by kernel_rfl⟩,?_⟩|refine ⟨by decide,?_⟩|refine lit_true ?_|refine lit_false ?_))
        intro c e0; cases c
        · have e0 := fct_b0.1 e0
          have e0 : ¬ (a = (l.getD at' ins0).k) := fun h => e0 (by show (a : Int) = (((l.getD at' ins0).k : Nat) : Int); rw [← h])
          (repeat ((conv=>whnf);first|refine ω0 ?_|refine ω1 ?_|refine ω2 ?_|refine ω3 ?_|refine ω4 rfl ?_|refine ω5 rfl ?_|refine ω6 ?_|refine ω7 ?_|refine ω8 ?_|refine ⟨rfl,?_⟩|refine ⟨trivial,?_⟩|refine ⟨⟨rfl,Nat.le_of_ble_eq_true rfl⟩,?_⟩|refine ⟨⟨by kernel_rfl,by kernel_rfl⟩,?_⟩|refine ⟨by decide,?_⟩|refine lit_true ?_|refine lit_false ?_))
          exact back (⟨at' + 1 + (l.getD at' ins0).jf, a, x, cells, steps + 1, loads⟩, oi, _) (hgo _ (congrArg (fun c : Bool => ((none : Option Nat), ({ (⟨at' + 1, a, x, cells, steps + 1, loads⟩ : Rn) with at' := at' + 1 + if c then (l.getD at' ins0).jt else (l.getD at' ins0).jf } : Rn))) (show branchV 25 a ((l.getD at' ins0).k) = false from decide_eq_false e0)) _ i3).1 (hgo _ (congrArg (fun c : Bool => ((none : Option Nat), ({ (⟨at' + 1, a, x, cells, steps + 1, loads⟩ : Rn) with at' := at' + 1 + if c then (l.getD at' ins0).jt else (l.getD at' ins0).jf } : Rn))) (show branchV 25 a ((l.getD at' ins0).k) = false from decide_eq_false e0)) (oi) i3).2 (ele_tell _ _ rfl rfl (.cons _ (List.Sublist.refl _)) (List.Sublist.refl _) ⟨rfl, OwnLe.refl _, rfl, ⟨AVle.refl _, le_int hw2, AVle.refl _, trivial⟩, rfl, OwnLe.refl _, trivial⟩ (PmEq.refl _) ⟨AVle.refl _, AVle.refl _, AVle.refl _, AVle.refl _, AVle.refl _, AVle.refl _, AVle.refl _, le_int (wrap_two (n := at') (k := (l.getD at' ins0).jf) (by omega)), trivial⟩)
        · have e0 := fct_b1.1 e0
          have e0 : (a = (l.getD at' ins0).k) := Int.ofNat_inj.1 (show (a : Int) = (((l.getD at' ins0).k : Nat) : Int) from e0)
          (repeat ((conv=>whnf);first|refine ω0 ?_|refine ω1 ?_|refine ω2 ?_|refine ω3 ?_|refine ω4 rfl ?_|refine ω5 rfl ?_|refine ω6 ?_|refine ω7 ?_|refine ω8 ?_|refine ⟨rfl,?_⟩|refine ⟨trivial,?_⟩|refine ⟨⟨rfl,Nat.le_of_ble_eq_true rfl⟩,?_⟩|refine ⟨⟨by kernel_rfl,by kernel_rfl⟩,?_⟩|refine ⟨by decide,?_⟩|refine lit_true ?_|refine lit_false ?_))
          exact back (⟨at' + 1 + (l.getD at' ins0).jt, a, x, cells, steps + 1, loads⟩, oi, _) (hgo _ (congrArg (fun c : Bool => ((none : Option Nat), ({ (⟨at' + 1, a, x, cells, steps + 1, loads⟩ : Rn) with at' := at' + 1 + if c then (l.getD at' ins0).jt else (l.getD at' ins0).jf } : Rn))) (show branchV 25 a ((l.getD at' ins0).k) = true from decide_eq_true e0)) _ i3).1 (hgo _ (congrArg (fun c : Bool => ((none : Option Nat), ({ (⟨at' + 1, a, x, cells, steps + 1, loads⟩ : Rn) with at' := at' + 1 + if c then (l.getD at' ins0).jt else (l.getD at' ins0).jf } : Rn))) (show branchV 25 a ((l.getD at' ins0).k) = true from decide_eq_true e0)) (oi) i3).2 (ele_tell _ _ rfl rfl (.cons _ (List.Sublist.refl _)) (List.Sublist.refl _) ⟨rfl, OwnLe.refl _, rfl, ⟨AVle.refl _, le_int hw2, AVle.refl _, trivial⟩, rfl, OwnLe.refl _, trivial⟩ (PmEq.refl _) ⟨AVle.refl _, AVle.refl _, AVle.refl _, AVle.refl _, AVle.refl _, AVle.refl _, AVle.refl _, le_int (wrap_two (n := at') (k := (l.getD at' ins0).jt) (by omega)), trivial⟩)
      · (repeat ((conv=>whnf);first|refine ω0 ?_|refine ω1 ?_|refine ω2 ?_|refine ω3 ?_|refine ω4 rfl ?_|refine ω5 rfl ?_|refine ω6 ?_|refine ω7 ?_|refine ω8 ?_|refine ⟨rfl,?_⟩|refine ⟨trivial,?_⟩|refine ⟨⟨rfl,Nat.le_of_ble_eq_true rfl⟩,?_⟩|refine ⟨⟨by kernel_rfl,by kernel_rfl⟩,?_⟩|refine ⟨by decide,?_⟩|refine lit_true ?_|refine lit_false ?_))
        intro c e0; cases c
        · have e0 := fct_d0.1 e0
          have e0 : ¬ (a > (l.getD at' ins0).k) := fun h => e0 (show (((l.getD at' ins0).k : Nat) : Int) < (a : Int) from Int.ofNat_lt.2 h)
          (repeat ((conv=>whnf);first|refine ω0 ?_|refine ω1 ?_|refine ω2 ?_|refine ω3 ?_|refine ω4 rfl ?_|refine ω5 rfl ?_|refine ω6 ?_|refine ω7 ?_|refine ω8 ?_|refine ⟨rfl,?_⟩|refine ⟨trivial,?_⟩|refine ⟨⟨rfl,Nat.le_of_ble_eq_true rfl⟩,?_⟩|refine ⟨⟨by kernel_rfl,by kernel_rfl⟩,?_⟩|refine ⟨by decide,?_⟩|refine lit_true ?_|refine lit_false ?_))
          exact back (⟨at' + 1 + (l.getD at' ins0).jf, a, x, cells, steps + 1, loads⟩, oi, _) (hgo _ (congrArg (fun c : Bool => ((none : Option Nat), ({ (⟨at' + 1, a, x, cells, steps + 1, loads⟩ : Rn) with at' := at' + 1 + if c then (l.getD at' ins0).jt else (l.getD at' ins0).jf } : Rn))) (show branchV 26 a ((l.getD at' ins0).k) = false from decide_eq_false e0)) _ i3).1 (hgo _ (congrArg (fun c : Bool => ((none : Option Nat), ({ (⟨at' + 1, a, x, cells, steps + 1, loads⟩ : Rn) with at' := at' + 1 + if c then (l.getD at' ins0).jt else (l.getD at' ins0).jf } : Rn))) (show branchV 26 a ((l.getD at' ins0).k) = false from decide_eq_false e0)) (oi) i3).2 (ele_tell _ _ rfl rfl (.cons _ (List.Sublist.refl _)) (List.Sublist.refl _) ⟨rfl, OwnLe.refl _, rfl, ⟨AVle.refl _, le_int hw2, AVle.refl _, trivial⟩, rfl, OwnLe.refl _, trivial⟩ (PmEq.refl _) ⟨AVle.refl _, AVle.refl _, AVle.refl _, AVle.refl _, AVle.refl _, AVle.refl _, AVle.refl _, le_int (wrap_two (n := at') (k := (l.getD at' ins0).jf) (by omega)), trivial⟩)
        · have e0 := fct_d1.1 e0
          have e0 : (a > (l.getD at' ins0).k) := Int.ofNat_lt.1 (show (((l.getD at' ins0).k : Nat) : Int) < (a : Int) from e0)
          (repeat ((conv=>whnf);first|refine ω0 ?_|refine ω1 ?_|refine ω2 ?_|refine ω3 ?_|refine ω4 rfl ?_|refine ω5 rfl ?_|refine ω6 ?_|refine ω7 ?_|refine ω8 ?_|refine ⟨rfl,?_⟩|refine ⟨trivial,?_⟩|refine ⟨⟨rfl,Nat.le_of_ble_eq_true rfl⟩,?_⟩|refine ⟨⟨by kernel_rfl,by kernel_rfl⟩,?_⟩|refine ⟨by decide,?_⟩|refine lit_true ?_|refine lit_false ?_))
          exact back (⟨at' + 1 + (l.getD at' ins0).jt, a, x, cells, steps + 1, loads⟩, oi, _) (hgo _ (congrArg (fun c : Bool => ((none : Option Nat), ({ (⟨at' + 1, a, x, cells, steps + 1, loads⟩ : Rn) with at' := at' + 1 + if c then (l.getD at' ins0).jt else (l.getD at' ins0).jf } : Rn))) (show branchV 26 a ((l.getD at' ins0).k) = true from decide_eq_true e0)) _ i3).1 (hgo _ (congrArg (fun c : Bool => ((none : Option Nat), ({ (⟨at' + 1, a, x, cells, steps + 1, loads⟩ : Rn) with at' := at' + 1 + if c then (l.getD at' ins0).jt else (l.getD at' ins0).jf } : Rn))) (show branchV 26 a ((l.getD at' ins0).k) = true from decide_eq_true e0)) (oi) i3).2 (ele_tell _ _ rfl rfl (.cons _ (List.Sublist.refl _)) (List.Sublist.refl _) ⟨rfl, OwnLe.refl _, rfl, ⟨AVle.refl _, le_int hw2, AVle.refl _, trivial⟩, rfl, OwnLe.refl _, trivial⟩ (PmEq.refl _) ⟨AVle.refl _, AVle.refl _, AVle.refl _, AVle.refl _, AVle.refl _, AVle.refl _, AVle.refl _, le_int (wrap_two (n := at') (k := (l.getD at' ins0).jt) (by omega)), trivial⟩)
      · (repeat ((conv=>whnf);first|refine ω0 ?_|refine ω1 ?_|refine ω2 ?_|refine ω3 ?_|refine ω4 rfl ?_|refine ω5 rfl ?_|refine ω6 ?_|refine ω7 ?_|refine ω8 ?_|refine ⟨rfl,?_⟩|refine ⟨trivial,?_⟩|refine ⟨⟨rfl,Nat.le_of_ble_eq_true rfl⟩,?_⟩|refine ⟨⟨by kernel_rfl,by kernel_rfl⟩,?_⟩|refine ⟨by decide,?_⟩|refine lit_true ?_|refine lit_false ?_))
        intro c e0; cases c
        · have e0 := fct_d0.1 e0
          have e0 : ¬ (a ≥ (l.getD at' ins0).k) := fun h => e0 (show (((l.getD at' ins0).k : Nat) : Int) ≤ (a : Int) from Int.ofNat_le.2 h)
          (repeat ((conv=>whnf);first|refine ω0 ?_|refine ω1 ?_|refine ω2 ?_|refine ω3 ?_|refine ω4 rfl ?_|refine ω5 rfl ?_|refine ω6 ?_|refine ω7 ?_|refine ω8 ?_|refine ⟨rfl,?_⟩|refine ⟨trivial,?_⟩|refine ⟨⟨rfl,Nat.le_of_ble_eq_true rfl⟩,?_⟩|refine ⟨⟨by kernel_rfl,by kernel_rfl⟩,?_⟩|refine ⟨by decide,?_⟩|refine lit_true ?_|refine lit_false ?_))
          exact back (⟨at' + 1 + (l.getD at' ins0).jf, a, x, cells, steps + 1, loads⟩, oi, _) (hgo _ (congrArg (fun c : Bool => ((none : Option Nat), ({ (⟨at' + 1, a, x, cells, steps + 1, loads⟩ : Rn) with at' := at' + 1 + if c then (l.getD at' ins0).jt else (l.getD at' ins0).jf } : Rn))) (show branchV 27 a ((l.getD at' ins0).k) = false from decide_eq_false e0)) _ i3).1 (hgo _ (congrArg (fun c : Bool => ((none : Option Nat), ({ (⟨at' + 1, a, x, cells, steps + 1, loads⟩ : Rn) with at' := at' + 1 + if c then (l.getD at' ins0).jt else (l.getD at' ins0).jf } : Rn))) (show branchV 27 a ((l.getD at' ins0).k) = false from decide_eq_false e0)) (oi) i3).2 (ele_tell _ _ rfl rfl (.cons _ (List.Sublist.refl _)) (List.Sublist.refl _) ⟨rfl, OwnLe.refl _, rfl, ⟨AVle.refl _, le_int hw2, AVle.refl _, trivial⟩, rfl, OwnLe.refl _, trivial⟩ (PmEq.refl _) ⟨AVle.refl _, AVle.refl _, AVle.refl _, AVle.refl _, AVle.refl _, AVle.refl _, AVle.refl _, le_int (wrap_two (n := at') (k := (l.getD at' ins0).jf) (by omega)), trivial⟩)
        · have e0 := fct_d1.1 e0
          have e0 : (a ≥ (l.getD at' ins0).k) := Int.ofNat_le.1 (show (((l.getD at' ins0).k : Nat) : Int) ≤ (a : Int) from e0)
          (repeat ((conv=>whnf);first|refine ω0 ?_|refine ω1 ?_|refine ω2 ?_|refine ω3 ?_|refine ω4 rfl ?_|refine ω5 rfl ?_|refine ω6 ?_|refine ω7 ?_|refine ω8 ?_|refine ⟨rfl,?_⟩|refine ⟨trivial,?_⟩|refine ⟨⟨rfl,Nat.le_of_ble_eq_true rfl⟩,?_⟩|refine ⟨⟨by kernel_rfl,by kernel_rfl⟩,?_⟩|refine ⟨by decide,?_⟩|refine lit_true ?_|refine lit_false ?_))
          exact back (⟨at' + 1 + (l.getD at' ins0).jt, a, x, cells, steps + 1, loads⟩, oi, _) (hgo _ (congrArg (fun c : Bool => ((none : Option Nat), ({ (⟨at' + 1, a, x, cells, steps + 1, loads⟩ : Rn) with at' := at' + 1 + if c then (l.getD at' ins0).jt else (l.getD at' ins0).jf } : Rn))) (show branchV 27 a ((l.getD at' ins0).k) = true from decide_eq_true e0)) _ i3).1 (hgo _ (congrArg (fun c : Bool => ((none : Option Nat), ({ (⟨at' + 1, a, x, cells, steps + 1, loads⟩ : Rn) with at' := at' + 1 + if c then (l.getD at' ins0).jt else (l.getD at' ins0).jf } : Rn))) (show branchV 27 a ((l.getD at' ins0).k) = true from decide_eq_true e0)) (oi) i3).2 (ele_tell _ _ rfl rfl (.cons _ (List.Sublist.refl _)) (List.Sublist.refl _) ⟨rfl, OwnLe.refl _, rfl, ⟨AVle.refl _, le_int hw2, AVle.refl _, trivial⟩, rfl, OwnLe.refl _, trivial⟩ (PmEq.refl _) ⟨AVle.refl _, AVle.refl _, AVle.refl _, AVle.refl _, AVle.refl _, AVle.refl _, AVle.refl _, le_int (wrap_two (n := at') (k := (l.getD at' ins0).jt) (by omega)), trivial⟩)
      · (repeat ((conv=>whnf);first|refine ω0 ?_|refine ω1 ?_|refine ω2 ?_|refine ω3 ?_|refine ω4 rfl ?_|refine ω5 rfl ?_|refine ω6 ?_|refine ω7 ?_|refine ω8 ?_|refine ⟨rfl,?_⟩|refine ⟨trivial,?_⟩|refine ⟨⟨rfl,Nat.le_of_ble_eq_true rfl⟩,?_⟩|refine ⟨⟨by kernel_rfl,by kernel_rfl⟩,?_⟩|refine ⟨by decide,?_⟩|refine lit_true ?_|refine lit_false ?_))
        intro c e0; cases c
        · have e0 := fct_n0.1 e0
          have e1 : bitsI .and .u32 (a : Int) ((l.getD at' ins0).k : Int) = ((a &&& (l.getD at' ins0).k : Nat) : Int) := u32_and ha hk32
          have e0 : ¬ (a &&& (l.getD at' ins0).k ≠ 0) := fun h => h (Int.ofNat_inj.1 (e1.symm.trans e0))
          (repeat ((conv=>whnf);first|refine ω0 ?_|refine ω1 ?_|refine ω2 ?_|refine ω3 ?_|refine ω4 rfl ?_|refine ω5 rfl ?_|refine ω6 ?_|refine ω7 ?_|refine ω8 ?_|refine ⟨rfl,?_⟩|refine ⟨trivial,?_⟩|refine ⟨⟨rfl,Nat.le_of_ble_eq_true rfl⟩,?_⟩|refine ⟨⟨by kernel_rfl,by kernel_rfl⟩,?_⟩|refine ⟨by decide,?_⟩|refine lit_true ?_|refine lit_false ?_))
          exact back (⟨at' + 1 + (l.getD at' ins0).jf, a, x, cells, steps + 1, loads⟩, oi, _) (hgo _ (congrArg (fun c : Bool => ((none : Option Nat), ({ (⟨at' + 1, a, x, cells, steps + 1, loads⟩ : Rn) with at' := at' + 1 + if c then (l.getD at' ins0).jt else (l.getD at' ins0).jf } : Rn))) (show branchV 28 a ((l.getD at' ins0).k) = false from decide_eq_false e0)) _ i3).1 (hgo _ (congrArg (fun c : Bool => ((none : Option Nat), ({ (⟨at' + 1, a, x, cells, steps + 1, loads⟩ : Rn) with at' := at' + 1 + if c then (l.getD at' ins0).jt else (l.getD at' ins0).jf } : Rn))) (show branchV 28 a ((l.getD at' ins0).k) = false from decide_eq_false e0)) (oi) i3).2 (ele_tell _ _ rfl rfl (.cons _ (List.Sublist.refl _)) (List.Sublist.refl _) ⟨rfl, OwnLe.refl _, rfl, ⟨AVle.refl _, le_int hw2, AVle.refl _, trivial⟩, rfl, OwnLe.refl _, trivial⟩ (PmEq.refl _) ⟨AVle.refl _, AVle.refl _, AVle.refl _, AVle.refl _, AVle.refl _, AVle.refl _, AVle.refl _, le_int (wrap_two (n := at') (k := (l.getD at' ins0).jf) (by omega)), trivial⟩)
        · have e0 := fct_n1.1 e0
          have e1 : bitsI .and .u32 (a : Int) ((l.getD at' ins0).k : Int) = ((a &&& (l.getD at' ins0).k : Nat) : Int) := u32_and ha hk32
          have e0 : (a &&& (l.getD at' ins0).k ≠ 0) := fun h => e0 (e1.trans (by rw [h]; rfl))
          (repeat ((conv=>whnf);first|refine ω0 ?_|refine ω1 ?_|refine ω2 ?_|refine ω3 ?_|refine ω4 rfl ?_|refine ω5 rfl ?_|refine ω6 ?_|refine ω7 ?_|refine ω8 ?_|refine ⟨rfl,?_⟩|refine ⟨trivial,?_⟩|refine ⟨⟨rfl,Nat.le_of_ble_eq_true rfl⟩,?_⟩|refine ⟨⟨by kernel_rfl,by kernel_rfl⟩,?_⟩|refine ⟨by decide,?_⟩|refine lit_true ?_|refine lit_false ?_))
          exact back (⟨at' + 1 + (l.getD at' ins0).jt, a, x, cells, steps + 1, loads⟩, oi, _) (hgo _ (congrArg (fun c : Bool => ((none : Option Nat), ({ (⟨at' + 1, a, x, cells, steps + 1, loads⟩ : Rn) with at' := at' + 1 + if c then (l.getD at' ins0).jt else (l.getD at' ins0).jf } : Rn))) (show branchV 28 a ((l.getD at' ins0).k) = true from decide_eq_true e0)) _ i3).1 (hgo _ (congrArg (fun c : Bool => ((none : Option Nat), ({ (⟨at' + 1, a, x, cells, steps + 1, loads⟩ : Rn) with at' := at' + 1 + if c then (l.getD at' ins0).jt else (l.getD at' ins0).jf } : Rn))) (show branchV 28 a ((l.getD at' ins0).k) = true from decide_eq_true e0)) (oi) i3).2 (ele_tell _ _ rfl rfl (.cons _ (List.Sublist.refl _)) (List.Sublist.refl _) ⟨rfl, OwnLe.refl _, rfl, ⟨AVle.refl _, le_int hw2, AVle.refl _, trivial⟩, rfl, OwnLe.refl _, trivial⟩ (PmEq.refl _) ⟨AVle.refl _, AVle.refl _, AVle.refl _, AVle.refl _, AVle.refl _, AVle.refl _, AVle.refl _, le_int (wrap_two (n := at') (k := (l.getD at' ins0).jt) (by omega)), trivial⟩)
    · rcases (by omega : K = 0 ∨ K = 1 ∨ K = 2 ∨ K = 3 ∨ K = 4 ∨ K = 5 ∨ K = 6 ∨ K = 7 ∨ K = 8 ∨ K = 9 ∨ K = 10 ∨ K = 11 ∨ K = 12 ∨ K = 13 ∨ K = 14 ∨ K = 15 ∨ K = 16 ∨ K = 17 ∨ K = 18 ∨ K = 19 ∨ K = 20 ∨ K = 21 ∨ K = 22 ∨ K = 23 ∨ K = 24 ∨ K = 25 ∨ K = 26 ∨ K = 27 ∨ K = 28) with rfl | rfl | rfl | rfl | rfl | rfl | rfl | rfl | rfl | rfl | rfl | rfl | rfl | rfl | rfl | rfl | rfl | rfl | rfl | rfl | rfl | rfl | rfl | rfl | rfl | rfl | rfl | rfl | rfl
      · exact absurd rfl wp1
      · (repeat ((conv=>whnf);first|refine ω0 ?_|refine ω1 ?_|refine ω2 ?_|refine ω3 ?_|refine ω4 rfl ?_|refine ω5 rfl ?_|refine ω6 ?_|refine ω7 ?_|refine ω8 ?_|refine ⟨rfl,?_⟩|refine ⟨trivial,?_⟩|refine ⟨⟨rfl,Nat.le_of_ble_eq_true rfl⟩,?_⟩|refine ⟨⟨by kernel_rfl,by kernel_rfl⟩,?_⟩|refine ⟨by decide,?_⟩|refine lit_true ?_|refine lit_false ?_))
        refine aop_tells rfl rfl (word_spec b hb (by omega) (l.getD at' ins0).k (by omega)) ⟨AVle.refl _, le_int wk, trivial⟩ fun nx4 => ?_
        rcases oi with _ | id
        · obtain rfl := i3 rfl
          (repeat ((conv=>whnf);first|refine ω0 ?_|refine ω1 ?_|refine ω2 ?_|refine ω3 ?_|refine ω4 rfl ?_|refine ω5 rfl ?_|refine ω6 ?_|refine ω7 ?_|refine ω8 ?_|refine ⟨rfl,?_⟩|refine ⟨trivial,?_⟩|refine ⟨⟨rfl,Nat.le_of_ble_eq_true rfl⟩,?_⟩|refine ⟨⟨by kernel_rfl,by kernel_rfl⟩,?_⟩|refine ⟨by decide,?_⟩|refine lit_true ?_|refine lit_false ?_))
          refine ⟨oneRow_one rfl, by show (0 + 1) * 8 ≤ _; omega, by dsimp only; omega, ?_⟩
          (repeat ((conv=>whnf);first|refine ω0 ?_|refine ω1 ?_|refine ω2 ?_|refine ω3 ?_|refine ω4 rfl ?_|refine ω5 rfl ?_|refine ω6 ?_|refine ω7 ?_|refine ω8 ?_|refine ⟨rfl,?_⟩|refine ⟨trivial,?_⟩|refine ⟨⟨rfl,Nat.le_of_ble_eq_true rfl⟩,?_⟩|refine ⟨⟨by kernel_rfl,by kernel_rfl⟩,?_⟩|refine ⟨by decide,?_⟩|refine lit_true ?_|refine lit_false ?_))
          exact back (⟨at' + 1, wordL b (l.getD at' ins0).k, x, cells, steps + 1, [] ++ [(l.getD at' ins0).k]⟩, some nx4, _) (hgo _ rfl _ (fun h => by cases h)).1 (hgo _ rfl (some nx4) (fun h => by cases h)).2 (ele_tell _ _ rfl rfl (.cons _ (List.Sublist.refl _)) (List.Sublist.refl _) ⟨rfl, OwnLe.refl _, rfl, ⟨AVle.refl _, le_int hw2, snoc3 (l := []) wk rfl, trivial⟩, rfl, OwnLe.refl _, trivial⟩ ⟨rfl, by rw [c3]; simp, trivial⟩ ⟨AVle.refl _, AVle.refl _, AVle.refl _, AVle.refl _, AVle.refl _, AVle.refl _, AVle.refl _, le_int hw1, trivial⟩)
        · skip
          (repeat ((conv=>whnf);first|refine ω0 ?_|refine ω1 ?_|refine ω2 ?_|refine ω3 ?_|refine ω4 rfl ?_|refine ω5 rfl ?_|refine ω6 ?_|refine ω7 ?_|refine ω8 ?_|refine ⟨rfl,?_⟩|refine ⟨trivial,?_⟩|refine ⟨⟨rfl,Nat.le_of_ble_eq_true rfl⟩,?_⟩|refine ⟨⟨by kernel_rfl,by kernel_rfl⟩,?_⟩|refine ⟨by decide,?_⟩|refine lit_true ?_|refine lit_false ?_))
          refine ⟨oneRow_one rfl, by show (loads.length + 1) * 8 ≤ _; omega, by dsimp only; omega, ?_⟩
          (repeat ((conv=>whnf);first|refine ω0 ?_|refine ω1 ?_|refine ω2 ?_|refine ω3 ?_|refine ω4 rfl ?_|refine ω5 rfl ?_|refine ω6 ?_|refine ω7 ?_|refine ω8 ?_|refine ⟨rfl,?_⟩|refine ⟨trivial,?_⟩|refine ⟨⟨rfl,Nat.le_of_ble_eq_true rfl⟩,?_⟩|refine ⟨⟨by kernel_rfl,by kernel_rfl⟩,?_⟩|refine ⟨by decide,?_⟩|refine lit_true ?_|refine lit_false ?_))
          exact back (⟨at' + 1, wordL b (l.getD at' ins0).k, x, cells, steps + 1, loads ++ [(l.getD at' ins0).k]⟩, some nx4, _) (hgo _ rfl _ (fun h => by cases h)).1 (hgo _ rfl (some nx4) (fun h => by cases h)).2 (ele_tell _ _ rfl rfl (.cons _ (List.Sublist.refl _)) (List.Sublist.refl _) ⟨rfl, OwnLe.refl _, rfl, ⟨AVle.refl _, le_int hw2, snoc3 (l := loads) wk rfl, trivial⟩, rfl, OwnLe.refl _, trivial⟩ ⟨rfl, by rw [c3]; simp, trivial⟩ ⟨AVle.refl _, AVle.refl _, AVle.refl _, AVle.refl _, AVle.refl _, AVle.refl _, AVle.refl _, le_int hw1, trivial⟩)
      · (repeat ((conv=>whnf);first|refine ω0 ?_|refine ω1 ?_|refine ω2 ?_|refine ω3 ?_|refine ω4 rfl ?_|refine ω5 rfl ?_|refine ω6 ?_|refine ω7 ?_|refine ω8 ?_|refine ⟨rfl,?_⟩|refine ⟨trivial,?_⟩|refine ⟨⟨rfl,Nat.le_of_ble_eq_true rfl⟩,?_⟩|refine ⟨⟨by kernel_rfl,by kernel_rfl⟩,?_⟩|refine ⟨by decide,?_⟩|refine lit_true ?_|refine lit_false ?_))
        exact back (⟨at' + 1, (l.getD at' ins0).k, x, cells, steps + 1, loads⟩, oi, _) (hgo _ rfl _ i3).1 (hgo _ rfl (oi) i3).2 (ele_tell _ _ rfl rfl (.cons _ (List.Sublist.refl _)) (List.Sublist.refl _) ⟨rfl, OwnLe.refl _, rfl, ⟨AVle.refl _, le_int hw2, AVle.refl _, trivial⟩, rfl, OwnLe.refl _, trivial⟩ (PmEq.refl _) ⟨AVle.refl _, AVle.refl _, AVle.refl _, AVle.refl _, AVle.refl _, AVle.refl _, AVle.refl _, le_int hw1, trivial⟩)
      · (repeat ((conv=>whnf);first|refine ω0 ?_|refine ω1 ?_|refine ω2 ?_|refine ω3 ?_|refine ω4 rfl ?_|refine ω5 rfl ?_|refine ω6 ?_|refine ω7 ?_|refine ω8 ?_|refine ⟨rfl,?_⟩|refine ⟨trivial,?_⟩|refine ⟨⟨rfl,Nat.le_of_ble_eq_true rfl⟩,?_⟩|refine ⟨⟨by kernel_rfl,by kernel_rfl⟩,?_⟩|refine ⟨by decide,?_⟩|refine lit_true ?_|refine lit_false ?_))
        have h16 : (l.getD at' ins0).k < 16 := by omega
        refine ⟨⟨Int.natCast_nonneg _, Int.ofNat_lt.2 h16⟩, splitO_eq (b := .bp (2, nx + 2) ((l.getD at' ins0).k)) (congrArg (AV.bp (2, nx + 2)) (ix1 c41)) ?_⟩
        (conv => whnf)
        refine ⟨⟨rfl, (by first | omega | (simp only [List.length_map, List.length_set, List.length_cons, List.length_nil, List.length_replicate, List.length_append]; omega))⟩, splitO_eq (b := u32A (cells.getD ((l.getD at' ins0).k) 0)) (getD_map (show (l.getD at' ins0).k < cells.length by omega)) ?_⟩
        (repeat ((conv=>whnf);first|refine ω0 ?_|refine ω1 ?_|refine ω2 ?_|refine ω3 ?_|refine ω4 rfl ?_|refine ω5 rfl ?_|refine ω6 ?_|refine ω7 ?_|refine ω8 ?_|refine ⟨rfl,?_⟩|refine ⟨trivial,?_⟩|refine ⟨⟨rfl,Nat.le_of_ble_eq_true rfl⟩,?_⟩|refine ⟨⟨by kernel_rfl,by kernel_rfl⟩,?_⟩|refine ⟨by decide,?_⟩|refine lit_true ?_|refine lit_false ?_))
        exact back (⟨at' + 1, cells.getD (l.getD at' ins0).k 0, x, cells, steps + 1, loads⟩, oi, _) (hgo _ rfl _ i3).1 (hgo _ rfl (oi) i3).2 (ele_tell _ _ rfl rfl (.cons _ (List.Sublist.refl _)) (List.Sublist.refl _) ⟨rfl, OwnLe.refl _, rfl, ⟨AVle.refl _, le_int hw2, AVle.refl _, trivial⟩, rfl, OwnLe.refl _, trivial⟩ (PmEq.refl _) ⟨AVle.refl _, AVle.refl _, AVle.refl _, AVle.refl _, AVle.refl _, AVle.refl _, AVle.refl _, le_int hw1, trivial⟩)
      · (repeat ((conv=>whnf);first|refine ω0 ?_|refine ω1 ?_|refine ω2 ?_|refine ω3 ?_|refine ω4 rfl ?_|refine ω5 rfl ?_|refine ω6 ?_|refine ω7 ?_|refine ω8 ?_|refine ⟨rfl,?_⟩|refine ⟨trivial,?_⟩|refine ⟨⟨rfl,Nat.le_of_ble_eq_true rfl⟩,?_⟩|refine ⟨⟨by kernel_rfl,by kernel_rfl⟩,?_⟩|refine ⟨by decide,?_⟩|refine lit_true ?_|refine lit_false ?_))
        exact back (⟨at' + 1, 64, x, cells, steps + 1, loads⟩, oi, _) (hgo _ rfl _ i3).1 (hgo _ rfl (oi) i3).2 (ele_tell _ _ rfl rfl (.cons _ (List.Sublist.refl _)) (List.Sublist.refl _) ⟨rfl, OwnLe.refl _, rfl, ⟨AVle.refl _, le_int hw2, AVle.refl _, trivial⟩, rfl, OwnLe.refl _, trivial⟩ (PmEq.refl _) ⟨AVle.refl _, AVle.refl _, AVle.refl _, AVle.refl _, AVle.refl _, AVle.refl _, AVle.refl _, le_int hw1, trivial⟩)
      · (repeat ((conv=>whnf);first|refine ω0 ?_|refine ω1 ?_|refine ω2 ?_|refine ω3 ?_|refine ω4 rfl ?_|refine ω5 rfl ?_|refine ω6 ?_|refine ω7 ?_|refine ω8 ?_|refine ⟨rfl,?_⟩|refine ⟨trivial,?_⟩|refine ⟨⟨rfl,Nat.le_of_ble_eq_true rfl⟩,?_⟩|refine ⟨⟨by kernel_rfl,by kernel_rfl⟩,?_⟩|refine ⟨by decide,?_⟩|refine lit_true ?_|refine lit_false ?_))
        exact back (⟨at' + 1, a, (l.getD at' ins0).k, cells, steps + 1, loads⟩, oi, _) (hgo _ rfl _ i3).1 (hgo _ rfl (oi) i3).2 (ele_tell _ _ rfl rfl (.cons _ (List.Sublist.refl _)) (List.Sublist.refl _) ⟨rfl, OwnLe.refl _, rfl, ⟨AVle.refl _, le_int hw2, AVle.refl _, trivial⟩, rfl, OwnLe.refl _, trivial⟩ (PmEq.refl _) ⟨AVle.refl _, AVle.refl _, AVle.refl _, AVle.refl _, AVle.refl _, AVle.refl _, AVle.refl _, le_int hw1, trivial⟩)
      · (repeat ((conv=>whnf);first|refine ω0 ?_|refine ω1 ?_|refine ω2 ?_|refine ω3 ?_|refine ω4 rfl ?_|refine ω5 rfl ?_|refine ω6 ?_|refine ω7 ?_|refine ω8 ?_|refine ⟨rfl,?_⟩|refine ⟨trivial,?_⟩|refine ⟨⟨rfl,Nat.le_of_ble_eq_true rfl⟩,?_⟩|refine ⟨⟨by kernel_rfl,by kernel_rfl⟩,?_⟩|refine ⟨by decide,?_⟩|refine lit_true ?_|refine lit_false ?_))
        have h16 : (l.getD at' ins0).k < 16 := by omega
        refine ⟨⟨Int.natCast_nonneg _, Int.ofNat_lt.2 h16⟩, splitO_eq (b := .bp (2, nx + 2) ((l.getD at' ins0).k)) (congrArg (AV.bp (2, nx + 2)) (ix1 c41)) ?_⟩
        (conv => whnf)
        refine ⟨⟨rfl, (by first | omega | (simp only [List.length_map, List.length_set, List.length_cons, List.length_nil, List.length_replicate, List.length_append]; omega))⟩, splitO_eq (b := u32A (cells.getD ((l.getD at' ins0).k) 0)) (getD_map (show (l.getD at' ins0).k < cells.length by omega)) ?_⟩
        (repeat ((conv=>whnf);first|refine ω0 ?_|refine ω1 ?_|refine ω2 ?_|refine ω3 ?_|refine ω4 rfl ?_|refine ω5 rfl ?_|refine ω6 ?_|refine ω7 ?_|refine ω8 ?_|refine ⟨rfl,?_⟩|refine ⟨trivial,?_⟩|refine ⟨⟨rfl,Nat.le_of_ble_eq_true rfl⟩,?_⟩|refine ⟨⟨by kernel_rfl,by kernel_rfl⟩,?_⟩|refine ⟨by decide,?_⟩|refine lit_true ?_|refine lit_false ?_))
        exact back (⟨at' + 1, a, cells.getD (l.getD at' ins0).k 0, cells, steps + 1, loads⟩, oi, _) (hgo _ rfl _ i3).1 (hgo _ rfl (oi) i3).2 (ele_tell _ _ rfl rfl (.cons _ (List.Sublist.refl _)) (List.Sublist.refl _) ⟨rfl, OwnLe.refl _, rfl, ⟨AVle.refl _, le_int hw2, AVle.refl _, trivial⟩, rfl, OwnLe.refl _, trivial⟩ (PmEq.refl _) ⟨AVle.refl _, AVle.refl _, AVle.refl _, AVle.refl _, AVle.refl _, AVle.refl _, AVle.refl _, le_int hw1, trivial⟩)
      · (repeat ((conv=>whnf);first|refine ω0 ?_|refine ω1 ?_|refine ω2 ?_|refine ω3 ?_|refine ω4 rfl ?_|refine ω5 rfl ?_|refine ω6 ?_|refine ω7 ?_|refine ω8 ?_|refine ⟨rfl,?_⟩|refine ⟨trivial,?_⟩|refine ⟨⟨rfl,Nat.le_of_ble_eq_true rfl⟩,?_⟩|refine ⟨⟨by kernel_rfl,by kernel_rfl⟩,?_⟩|refine ⟨by decide,?_⟩|refine lit_true ?_|refine lit_false ?_))
        exact back (⟨at' + 1, a, 64, cells, steps + 1, loads⟩, oi, _) (hgo _ rfl _ i3).1 (hgo _ rfl (oi) i3).2 (ele_tell _ _ rfl rfl (.cons _ (List.Sublist.refl _)) (List.Sublist.refl _) ⟨rfl, OwnLe.refl _, rfl, ⟨AVle.refl _, le_int hw2, AVle.refl _, trivial⟩, rfl, OwnLe.refl _, trivial⟩ (PmEq.refl _) ⟨AVle.refl _, AVle.refl _, AVle.refl _, AVle.refl _, AVle.refl _, AVle.refl _, AVle.refl _, le_int hw1, trivial⟩)
      · (repeat ((conv=>whnf);first|refine ω0 ?_|refine ω1 ?_|refine ω2 ?_|refine ω3 ?_|refine ω4 rfl ?_|refine ω5 rfl ?_|refine ω6 ?_|refine ω7 ?_|refine ω8 ?_|refine ⟨rfl,?_⟩|refine ⟨trivial,?_⟩|refine ⟨⟨rfl,Nat.le_of_ble_eq_true rfl⟩,?_⟩|refine ⟨⟨by kernel_rfl,by kernel_rfl⟩,?_⟩|refine ⟨by decide,?_⟩|refine lit_true ?_|refine lit_false ?_))
        have h16 : (l.getD at' ins0).k < 16 := by omega
        refine ⟨⟨Int.natCast_nonneg _, Int.ofNat_lt.2 h16⟩, splitO_eq (b := .bp (2, nx + 2) ((l.getD at' ins0).k)) (congrArg (AV.bp (2, nx + 2)) (ix1 c41)) ?_⟩
        (conv => whnf)
        refine ⟨⟨rfl, (by first | omega | (simp only [List.length_map, List.length_set, List.length_cons, List.length_nil, List.length_replicate, List.length_append]; omega))⟩, ?_⟩
        rw [show splice (cells.map u32A) ((l.getD at' ins0).k) [AV.v (.int .u32 (a : Nat))] = (cells.set ((l.getD at' ins0).k) (a)).map u32A from splice_one (f := u32A) (x := a) (show (l.getD at' ins0).k < cells.length by omega)]
        (repeat ((conv=>whnf);first|refine ω0 ?_|refine ω1 ?_|refine ω2 ?_|refine ω3 ?_|refine ω4 rfl ?_|refine ω5 rfl ?_|refine ω6 ?_|refine ω7 ?_|refine ω8 ?_|refine ⟨rfl,?_⟩|refine ⟨trivial,?_⟩|refine ⟨⟨rfl,Nat.le_of_ble_eq_true rfl⟩,?_⟩|refine ⟨⟨by kernel_rfl,by kernel_rfl⟩,?_⟩|refine ⟨by decide,?_⟩|refine lit_true ?_|refine lit_false ?_))
        exact back (⟨at' + 1, a, x, cells.set (l.getD at' ins0).k a, steps + 1, loads⟩, oi, _) (hgo _ rfl _ i3).1 (hgo _ rfl (oi) i3).2 (ele_tell _ _ rfl rfl (.cons _ (List.Sublist.refl _)) (List.Sublist.refl _) ⟨rfl, OwnLe.refl _, rfl, ⟨AVle.refl _, le_int hw2, AVle.refl _, trivial⟩, rfl, OwnLe.refl _, trivial⟩ (PmEq.refl _) ⟨AVle.refl _, AVle.refl _, AVle.refl _, AVle.refl _, AVle.refl _, AVle.refl _, AVle.refl _, le_int hw1, trivial⟩)
      · (repeat ((conv=>whnf);first|refine ω0 ?_|refine ω1 ?_|refine ω2 ?_|refine ω3 ?_|refine ω4 rfl ?_|refine ω5 rfl ?_|refine ω6 ?_|refine ω7 ?_|refine ω8 ?_|refine ⟨rfl,?_⟩|refine ⟨trivial,?_⟩|refine ⟨⟨rfl,Nat.le_of_ble_eq_true rfl⟩,?_⟩|refine ⟨⟨by kernel_rfl,by kernel_rfl⟩,?_⟩|refine ⟨by decide,?_⟩|refine lit_true ?_|refine lit_false ?_))
        have h16 : (l.getD at' ins0).k < 16 := by omega
        refine ⟨⟨Int.natCast_nonneg _, Int.ofNat_lt.2 h16⟩, splitO_eq (b := .bp (2, nx + 2) ((l.getD at' ins0).k)) (congrArg (AV.bp (2, nx + 2)) (ix1 c41)) ?_⟩
        (conv => whnf)
        refine ⟨⟨rfl, (by first | omega | (simp only [List.length_map, List.length_set, List.length_cons, List.length_nil, List.length_replicate, List.length_append]; omega))⟩, ?_⟩
        rw [show splice (cells.map u32A) ((l.getD at' ins0).k) [AV.v (.int .u32 (x : Nat))] = (cells.set ((l.getD at' ins0).k) (x)).map u32A from splice_one (f := u32A) (x := x) (show (l.getD at' ins0).k < cells.length by omega)]
        (repeat ((conv=>whnf);first|refine ω0 ?_|refine ω1 ?_|refine ω2 ?_|refine ω3 ?_|refine ω4 rfl ?_|refine ω5 rfl ?_|refine ω6 ?_|refine ω7 ?_|refine ω8 ?_|refine ⟨rfl,?_⟩|refine ⟨trivial,?_⟩|refine ⟨⟨rfl,Nat.le_of_ble_eq_true rfl⟩,?_⟩|refine ⟨⟨by kernel_rfl,by kernel_rfl⟩,?_⟩|refine ⟨by decide,?_⟩|refine lit_true ?_|refine lit_false ?_))
        exact back (⟨at' + 1, a, x, cells.set (l.getD at' ins0).k x, steps + 1, loads⟩, oi, _) (hgo _ rfl _ i3).1 (hgo _ rfl (oi) i3).2 (ele_tell _ _ rfl rfl (.cons _ (List.Sublist.refl _)) (List.Sublist.refl _) ⟨rfl, OwnLe.refl _, rfl, ⟨AVle.refl _, le_int hw2, AVle.refl _, trivial⟩, rfl, OwnLe.refl _, trivial⟩ (PmEq.refl _) ⟨AVle.refl _, AVle.refl _, AVle.refl _, AVle.refl _, AVle.refl _, AVle.refl _, AVle.refl _, le_int hw1, trivial⟩)
      · (repeat ((conv=>whnf);first|refine ω0 ?_|refine ω1 ?_|refine ω2 ?_|refine ω3 ?_|refine ω4 rfl ?_|refine ω5 rfl ?_|refine ω6 ?_|refine ω7 ?_|refine ω8 ?_|refine ⟨rfl,?_⟩|refine ⟨trivial,?_⟩|refine ⟨⟨rfl,Nat.le_of_ble_eq_true rfl⟩,?_⟩|refine ⟨⟨by kernel_rfl,by kernel_rfl⟩,?_⟩|refine ⟨by decide,?_⟩|refine lit_true ?_|refine lit_false ?_))
        exact back (⟨at' + 1, a, a, cells, steps + 1, loads⟩, oi, _) (hgo _ rfl _ i3).1 (hgo _ rfl (oi) i3).2 (ele_tell _ _ rfl rfl (.cons _ (List.Sublist.refl _)) (List.Sublist.refl _) ⟨rfl, OwnLe.refl _, rfl, ⟨AVle.refl _, le_int hw2, AVle.refl _, trivial⟩, rfl, OwnLe.refl _, trivial⟩ (PmEq.refl _) ⟨AVle.refl _, AVle.refl _, AVle.refl _, AVle.refl _, AVle.refl _, AVle.refl _, AVle.refl _, le_int hw1, trivial⟩)
      · (repeat ((conv=>whnf);first|refine ω0 ?_|refine ω1 ?_|refine ω2 ?_|refine ω3 ?_|refine ω4 rfl ?_|refine ω5 rfl ?_|refine ω6 ?_|refine ω7 ?_|refine ω8 ?_|refine ⟨rfl,?_⟩|refine ⟨trivial,?_⟩|refine ⟨⟨rfl,Nat.le_of_ble_eq_true rfl⟩,?_⟩|refine ⟨⟨by kernel_rfl,by kernel_rfl⟩,?_⟩|refine ⟨by decide,?_⟩|refine lit_true ?_|refine lit_false ?_))
        exact back (⟨at' + 1, x, x, cells, steps + 1, loads⟩, oi, _) (hgo _ rfl _ i3).1 (hgo _ rfl (oi) i3).2 (ele_tell _ _ rfl rfl (.cons _ (List.Sublist.refl _)) (List.Sublist.refl _) ⟨rfl, OwnLe.refl _, rfl, ⟨AVle.refl _, le_int hw2, AVle.refl _, trivial⟩, rfl, OwnLe.refl _, trivial⟩ (PmEq.refl _) ⟨AVle.refl _, AVle.refl _, AVle.refl _, AVle.refl _, AVle.refl _, AVle.refl _, AVle.refl _, le_int hw1, trivial⟩)
      · (repeat ((conv=>whnf);first|refine ω0 ?_|refine ω1 ?_|refine ω2 ?_|refine ω3 ?_|refine ω4 rfl ?_|refine ω5 rfl ?_|refine ω6 ?_|refine ω7 ?_|refine ω8 ?_|refine ⟨rfl,?_⟩|refine ⟨trivial,?_⟩|refine ⟨⟨rfl,Nat.le_of_ble_eq_true rfl⟩,?_⟩|refine ⟨⟨by kernel_rfl,by kernel_rfl⟩,?_⟩|refine ⟨by decide,?_⟩|refine lit_true ?_|refine lit_false ?_))
        exact back (⟨at' + 1, (4294967296 - a) % 4294967296, x, cells, steps + 1, loads⟩, oi, _) (hgo _ rfl _ i3).1 (hgo _ rfl (oi) i3).2 (ele_tell _ _ rfl rfl (.cons _ (List.Sublist.refl _)) (List.Sublist.refl _) ⟨rfl, OwnLe.refl _, rfl, ⟨AVle.refl _, le_int hw2, AVle.refl _, trivial⟩, rfl, OwnLe.refl _, trivial⟩ (PmEq.refl _) ⟨AVle.refl _, AVle.refl _, AVle.refl _, AVle.refl _, le_int (neg32 ha), AVle.refl _, AVle.refl _, le_int hw1, trivial⟩)
      · (repeat ((conv=>whnf);first|refine ω0 ?_|refine ω1 ?_|refine ω2 ?_|refine ω3 ?_|refine ω4 rfl ?_|refine ω5 rfl ?_|refine ω6 ?_|refine ω7 ?_|refine ω8 ?_|refine ⟨rfl,?_⟩|refine ⟨trivial,?_⟩|refine ⟨⟨rfl,Nat.le_of_ble_eq_true rfl⟩,?_⟩|refine ⟨⟨by kernel_rfl,by kernel_rfl⟩,?_⟩|refine ⟨by decide,?_⟩|refine lit_true ?_|refine lit_false ?_))
        exact back (⟨at' + 1 + (l.getD at' ins0).k, a, x, cells, steps + 1, loads⟩, oi, _) (hgo _ rfl _ i3).1 (hgo _ rfl (oi) i3).2 (ele_tell _ _ rfl rfl (.cons _ (List.Sublist.refl _)) (List.Sublist.refl _) ⟨rfl, OwnLe.refl _, rfl, ⟨AVle.refl _, le_int hw2, AVle.refl _, trivial⟩, rfl, OwnLe.refl _, trivial⟩ (PmEq.refl _) ⟨AVle.refl _, AVle.refl _, AVle.refl _, AVle.refl _, AVle.refl _, AVle.refl _, AVle.refl _, le_int (wrap_two (n := at') (k := (l.getD at' ins0).k) (by omega)), trivial⟩)
      · rw [hover _ _ rfl]
        (repeat ((conv=>whnf);first|refine ω0 ?_|refine ω1 ?_|refine ω2 ?_|refine ω3 ?_|refine ω4 rfl ?_|refine ω5 rfl ?_|refine ω6 ?_|refine ω7 ?_|refine ω8 ?_|refine ⟨rfl,?_⟩|refine ⟨trivial,?_⟩|refine ⟨⟨rfl,Nat.le_of_ble_eq_true rfl⟩,?_⟩|refine ⟨⟨by kernel_rfl,by kernel_rfl⟩,?_⟩|refine ⟨by decide,?_⟩|refine lit_true ?_|refine lit_false ?_))
        refine ret_tells_all rfl ?_ ?_
        · exact ⟨rfl, trivial⟩
        · exact AVle.ags (cs := [_, _, _]) ⟨AVle.refl _, le_int hw2, AVle.os_sl, trivial⟩
      · rw [hover _ _ rfl]
        (repeat ((conv=>whnf);first|refine ω0 ?_|refine ω1 ?_|refine ω2 ?_|refine ω3 ?_|refine ω4 rfl ?_|refine ω5 rfl ?_|refine ω6 ?_|refine ω7 ?_|refine ω8 ?_|refine ⟨rfl,?_⟩|refine ⟨trivial,?_⟩|refine ⟨⟨rfl,Nat.le_of_ble_eq_true rfl⟩,?_⟩|refine ⟨⟨by kernel_rfl,by kernel_rfl⟩,?_⟩|refine ⟨by decide,?_⟩|refine lit_true ?_|refine lit_false ?_))
        refine ret_tells_all rfl ?_ ?_
        · exact ⟨rfl, trivial⟩
        · exact AVle.ags (cs := [_, _, _]) ⟨AVle.refl _, le_int hw2, AVle.os_sl, trivial⟩
      · (repeat ((conv=>whnf);first|refine ω0 ?_|refine ω1 ?_|refine ω2 ?_|refine ω3 ?_|refine ω4 rfl ?_|refine ω5 rfl ?_|refine ω6 ?_|refine ω7 ?_|refine ω8 ?_|refine ⟨rfl,?_⟩|refine ⟨trivial,?_⟩|refine ⟨⟨rfl,Nat.le_of_ble_eq_true rfl⟩,?_⟩|refine ⟨⟨by kernel_rfl,by kernel_rfl⟩,?_⟩|refine ⟨by decide,?_⟩|refine lit_true ?_|refine lit_false ?_))
        exact back (⟨at' + 1, (a + x) % 4294967296, x, cells, steps + 1, loads⟩, oi, _) (hgo _ rfl _ i3).1 (hgo _ rfl (oi) i3).2 (ele_tell _ _ rfl rfl (.cons _ (List.Sublist.refl _)) (List.Sublist.refl _) ⟨rfl, OwnLe.refl _, rfl, ⟨AVle.refl _, le_int hw2, AVle.refl _, trivial⟩, rfl, OwnLe.refl _, trivial⟩ (PmEq.refl _) ⟨AVle.refl _, AVle.refl _, AVle.refl _, AVle.refl _, le_int (add32 _ _), AVle.refl _, AVle.refl _, le_int hw1, trivial⟩)
      · (repeat ((conv=>whnf);first|refine ω0 ?_|refine ω1 ?_|refine ω2 ?_|refine ω3 ?_|refine ω4 rfl ?_|refine ω5 rfl ?_|refine ω6 ?_|refine ω7 ?_|refine ω8 ?_|refine ⟨rfl,?_⟩|refine ⟨trivial,?_⟩|refine ⟨⟨rfl,Nat.le_of_ble_eq_true rfl⟩,?_⟩|refine ⟨⟨by kernel_rfl,by kernel_rfl⟩,?_⟩|refine ⟨by decide,?_⟩|refine lit_true ?_|refine lit_false ?_))
        exact back (⟨at' + 1, (a + 4294967296 - x) % 4294967296, x, cells, steps + 1, loads⟩, oi, _) (hgo _ rfl _ i3).1 (hgo _ rfl (oi) i3).2 (ele_tell _ _ rfl rfl (.cons _ (List.Sublist.refl _)) (List.Sublist.refl _) ⟨rfl, OwnLe.refl _, rfl, ⟨AVle.refl _, le_int hw2, AVle.refl _, trivial⟩, rfl, OwnLe.refl _, trivial⟩ (PmEq.refl _) ⟨AVle.refl _, AVle.refl _, AVle.refl _, AVle.refl _, le_int (sub32 hx), AVle.refl _, AVle.refl _, le_int hw1, trivial⟩)
      · (repeat ((conv=>whnf);first|refine ω0 ?_|refine ω1 ?_|refine ω2 ?_|refine ω3 ?_|refine ω4 rfl ?_|refine ω5 rfl ?_|refine ω6 ?_|refine ω7 ?_|refine ω8 ?_|refine ⟨rfl,?_⟩|refine ⟨trivial,?_⟩|refine ⟨⟨rfl,Nat.le_of_ble_eq_true rfl⟩,?_⟩|refine ⟨⟨by kernel_rfl,by kernel_rfl⟩,?_⟩|refine ⟨by decide,?_⟩|refine lit_true ?_|refine lit_false ?_))
        exact back (⟨at' + 1, a * x % 4294967296, x, cells, steps + 1, loads⟩, oi, _) (hgo _ rfl _ i3).1 (hgo _ rfl (oi) i3).2 (ele_tell _ _ rfl rfl (.cons _ (List.Sublist.refl _)) (List.Sublist.refl _) ⟨rfl, OwnLe.refl _, rfl, ⟨AVle.refl _, le_int hw2, AVle.refl _, trivial⟩, rfl, OwnLe.refl _, trivial⟩ (PmEq.refl _) ⟨AVle.refl _, AVle.refl _, AVle.refl _, AVle.refl _, le_int (mul32 _ _), AVle.refl _, AVle.refl _, le_int hw1, trivial⟩)
      · (repeat ((conv=>whnf);first|refine ω0 ?_|refine ω1 ?_|refine ω2 ?_|refine ω3 ?_|refine ω4 rfl ?_|refine ω5 rfl ?_|refine ω6 ?_|refine ω7 ?_|refine ω8 ?_|refine ⟨rfl,?_⟩|refine ⟨trivial,?_⟩|refine ⟨⟨rfl,Nat.le_of_ble_eq_true rfl⟩,?_⟩|refine ⟨⟨by kernel_rfl,by kernel_rfl⟩,?_⟩|refine ⟨by decide,?_⟩|refine lit_true ?_|refine lit_false ?_))
        intro c e0; cases c
        · have e0 := fct_b0.1 e0
          have e0 : x ≠ 0 := fun h => e0 (by show ((x : Nat) : Int) = 0; rw [h]; rfl)
          (repeat ((conv=>whnf);first|refine ω0 ?_|refine ω1 ?_|refine ω2 ?_|refine ω3 ?_|refine ω4 rfl ?_|refine ω5 rfl ?_|refine ω6 ?_|refine ω7 ?_|refine ω8 ?_|refine ⟨rfl,?_⟩|refine ⟨trivial,?_⟩|refine ⟨⟨rfl,Nat.le_of_ble_eq_true rfl⟩,?_⟩|refine ⟨⟨by kernel_rfl,by kernel_rfl⟩,?_⟩|refine ⟨by decide,?_⟩|refine lit_true ?_|refine lit_false ?_))
          refine ⟨fun h => e0 (Int.ofNat_inj.1 (show ((x : Nat) : Int) = ((0 : Nat) : Int) from h)), ?_⟩
          (repeat ((conv=>whnf);first|refine ω0 ?_|refine ω1 ?_|refine ω2 ?_|refine ω3 ?_|refine ω4 rfl ?_|refine ω5 rfl ?_|refine ω6 ?_|refine ω7 ?_|refine ω8 ?_|refine ⟨rfl,?_⟩|refine ⟨trivial,?_⟩|refine ⟨⟨rfl,Nat.le_of_ble_eq_true rfl⟩,?_⟩|refine ⟨⟨by kernel_rfl,by kernel_rfl⟩,?_⟩|refine ⟨by decide,?_⟩|refine lit_true ?_|refine lit_false ?_))
          exact back (⟨at' + 1, a / x, x, cells, steps + 1, loads⟩, oi, _) (hgo _ (congrArg (fun o : Option Nat => match o with | some v => ((none : Option Nat), ({ (⟨at' + 1, a, x, cells, steps + 1, loads⟩ : Rn) with a := v } : Rn)) | none => (some 0, (⟨at' + 1, a, x, cells, steps + 1, loads⟩ : Rn))) (reck19 (a := a) e0)) _ i3).1 (hgo _ (congrArg (fun o : Option Nat => match o with | some v => ((none : Option Nat), ({ (⟨at' + 1, a, x, cells, steps + 1, loads⟩ : Rn) with a := v } : Rn)) | none => (some 0, (⟨at' + 1, a, x, cells, steps + 1, loads⟩ : Rn))) (reck19 (a := a) e0)) (oi) i3).2 (ele_tell _ _ rfl rfl (.cons _ (List.Sublist.refl _)) (List.Sublist.refl _) ⟨rfl, OwnLe.refl _, rfl, ⟨AVle.refl _, le_int hw2, AVle.refl _, trivial⟩, rfl, OwnLe.refl _, trivial⟩ (PmEq.refl _) ⟨AVle.refl _, AVle.refl _, AVle.refl _, AVle.refl _, le_int (quo32 ha), AVle.refl _, AVle.refl _, le_int hw1, trivial⟩)
        · have e0 := fct_b1.1 e0
          have e0 : x = 0 := Int.ofNat_inj.1 (show ((x : Nat) : Int) = ((0 : Nat) : Int) from e0)
          rw [hover 0 (⟨at' + 1, a, x, cells, steps + 1, loads⟩ : Rn) (congrArg (fun n => match reckV 19 a n with | some v => ((none : Option Nat), ({ (⟨at' + 1, a, x, cells, steps + 1, loads⟩ : Rn) with a := v } : Rn)) | none => (some 0, (⟨at' + 1, a, x, cells, steps + 1, loads⟩ : Rn))) e0)]
          (repeat ((conv=>whnf);first|refine ω0 ?_|refine ω1 ?_|refine ω2 ?_|refine ω3 ?_|refine ω4 rfl ?_|refine ω5 rfl ?_|refine ω6 ?_|refine ω7 ?_|refine ω8 ?_|refine ⟨rfl,?_⟩|refine ⟨trivial,?_⟩|refine ⟨⟨rfl,Nat.le_of_ble_eq_true rfl⟩,?_⟩|refine ⟨⟨by kernel_rfl,by kernel_rfl⟩,?_⟩|refine ⟨by decide,?_⟩|refine lit_true ?_|refine lit_false ?_))
          refine ret_tells_all rfl ?_ ?_
          · exact ⟨rfl, trivial⟩
          · exact AVle.ags (cs := [_, _, _]) ⟨AVle.refl _, le_int hw2, AVle.os_sl, trivial⟩
      · (repeat ((conv=>whnf);first|refine ω0 ?_|refine ω1 ?_|refine ω2 ?_|refine ω3 ?_|refine ω4 rfl ?_|refine ω5 rfl ?_|refine ω6 ?_|refine ω7 ?_|refine ω8 ?_|refine ⟨rfl,?_⟩|refine ⟨trivial,?_⟩|refine ⟨⟨rfl,Nat.le_of_ble_eq_true rfl⟩,?_⟩|refine ⟨⟨by kernel_rfl,by kernel_rfl⟩,?_⟩|refine ⟨by decide,?_⟩|refine lit_true ?_|refine lit_false ?_))
        exact back (⟨at' + 1, a ||| x, x, cells, steps + 1, loads⟩, oi, _) (hgo _ rfl _ i3).1 (hgo _ rfl (oi) i3).2 (ele_tell _ _ rfl rfl (.cons _ (List.Sublist.refl _)) (List.Sublist.refl _) ⟨rfl, OwnLe.refl _, rfl, ⟨AVle.refl _, le_int hw2, AVle.refl _, trivial⟩, rfl, OwnLe.refl _, trivial⟩ (PmEq.refl _) ⟨AVle.refl _, AVle.refl _, AVle.refl _, AVle.refl _, le_int (u32_or' ha hx), AVle.refl _, AVle.refl _, le_int hw1, trivial⟩)
      · (repeat ((conv=>whnf);first|refine ω0 ?_|refine ω1 ?_|refine ω2 ?_|refine ω3 ?_|refine ω4 rfl ?_|refine ω5 rfl ?_|refine ω6 ?_|refine ω7 ?_|refine ω8 ?_|refine ⟨rfl,?_⟩|refine ⟨trivial,?_⟩|refine ⟨⟨rfl,Nat.le_of_ble_eq_true rfl⟩,?_⟩|refine ⟨⟨by kernel_rfl,by kernel_rfl⟩,?_⟩|refine ⟨by decide,?_⟩|refine lit_true ?_|refine lit_false ?_))
        exact back (⟨at' + 1, a &&& x, x, cells, steps + 1, loads⟩, oi, _) (hgo _ rfl _ i3).1 (hgo _ rfl (oi) i3).2 (ele_tell _ _ rfl rfl (.cons _ (List.Sublist.refl _)) (List.Sublist.refl _) ⟨rfl, OwnLe.refl _, rfl, ⟨AVle.refl _, le_int hw2, AVle.refl _, trivial⟩, rfl, OwnLe.refl _, trivial⟩ (PmEq.refl _) ⟨AVle.refl _, AVle.refl _, AVle.refl _, AVle.refl _, le_int (u32_and ha hx), AVle.refl _, AVle.refl _, le_int hw1, trivial⟩)
      · (repeat ((conv=>whnf);first|refine ω0 ?_|refine ω1 ?_|refine ω2 ?_|refine ω3 ?_|refine ω4 rfl ?_|refine ω5 rfl ?_|refine ω6 ?_|refine ω7 ?_|refine ω8 ?_|refine ⟨rfl,?_⟩|refine ⟨trivial,?_⟩|refine ⟨⟨rfl,Nat.le_of_ble_eq_true rfl⟩,?_⟩|refine ⟨⟨by kernel_rfl,by kernel_rfl⟩,?_⟩|refine ⟨by decide,?_⟩|refine lit_true ?_|refine lit_false ?_))
        refine aop_tells rfl rfl (shiftR_spec a x ha hx true) ⟨AVle.refl _, AVle.refl _, AVle.refl _, trivial⟩ fun nx4 => ?_
        (repeat ((conv=>whnf);first|refine ω0 ?_|refine ω1 ?_|refine ω2 ?_|refine ω3 ?_|refine ω4 rfl ?_|refine ω5 rfl ?_|refine ω6 ?_|refine ω7 ?_|refine ω8 ?_|refine ⟨rfl,?_⟩|refine ⟨trivial,?_⟩|refine ⟨⟨rfl,Nat.le_of_ble_eq_true rfl⟩,?_⟩|refine ⟨⟨by kernel_rfl,by kernel_rfl⟩,?_⟩|refine ⟨by decide,?_⟩|refine lit_true ?_|refine lit_false ?_))
        exact back (⟨at' + 1, a * 2 ^ (x % 32) % 4294967296, x, cells, steps + 1, loads⟩, oi, _) (hgo _ rfl _ i3).1 (hgo _ rfl (oi) i3).2 (ele_tell _ _ rfl rfl (.cons _ (List.Sublist.refl _)) (List.Sublist.refl _) ⟨rfl, OwnLe.refl _, rfl, ⟨AVle.refl _, le_int hw2, AVle.refl _, trivial⟩, rfl, OwnLe.refl _, trivial⟩ (PmEq.refl _) ⟨AVle.refl _, AVle.refl _, AVle.refl _, AVle.refl _, AVle.refl _, AVle.refl _, AVle.refl _, le_int hw1, trivial⟩)
      · (repeat ((conv=>whnf);first|refine ω0 ?_|refine ω1 ?_|refine ω2 ?_|refine ω3 ?_|refine ω4 rfl ?_|refine ω5 rfl ?_|refine ω6 ?_|refine ω7 ?_|refine ω8 ?_|refine ⟨rfl,?_⟩|refine ⟨trivial,?_⟩|refine ⟨⟨rfl,Nat.le_of_ble_eq_true rfl⟩,?_⟩|refine ⟨⟨by kernel_rfl,by kernel_rfl⟩,?_⟩|refine ⟨by decide,?_⟩|refine lit_true ?_|refine lit_false ?_))
        refine aop_tells rfl rfl (shiftR_spec a x ha hx false) ⟨AVle.refl _, AVle.refl _, AVle.refl _, trivial⟩ fun nx4 => ?_
        (repeat ((conv=>whnf);first|refine ω0 ?_|refine ω1 ?_|refine ω2 ?_|refine ω3 ?_|refine ω4 rfl ?_|refine ω5 rfl ?_|refine ω6 ?_|refine ω7 ?_|refine ω8 ?_|refine ⟨rfl,?_⟩|refine ⟨trivial,?_⟩|refine ⟨⟨rfl,Nat.le_of_ble_eq_true rfl⟩,?_⟩|refine ⟨⟨by kernel_rfl,by kernel_rfl⟩,?_⟩|refine ⟨by decide,?_⟩|refine lit_true ?_|refine lit_false ?_))
        exact back (⟨at' + 1, a / 2 ^ (x % 32), x, cells, steps + 1, loads⟩, oi, _) (hgo _ rfl _ i3).1 (hgo _ rfl (oi) i3).2 (ele_tell _ _ rfl rfl (.cons _ (List.Sublist.refl _)) (List.Sublist.refl _) ⟨rfl, OwnLe.refl _, rfl, ⟨AVle.refl _, le_int hw2, AVle.refl _, trivial⟩, rfl, OwnLe.refl _, trivial⟩ (PmEq.refl _) ⟨AVle.refl _, AVle.refl _, AVle.refl _, AVle.refl _, AVle.refl _, AVle.refl _, AVle.refl _, le_int hw1, trivial⟩)
      · (repeat ((conv=>whnf);first|refine ω0 ?_|refine ω1 ?_|refine ω2 ?_|refine ω3 ?_|refine ω4 rfl ?_|refine ω5 rfl ?_|refine ω6 ?_|refine ω7 ?_|refine ω8 ?_|refine ⟨rfl,?_⟩|refine ⟨trivial,?_⟩|refine ⟨⟨rfl,Nat.le_of_ble_eq_true rfl⟩,?_⟩|refine ⟨⟨by kernel_rfl,by kernel_rfl⟩,?_⟩|refine ⟨by decide,?_⟩|refine lit_true ?_|refine lit_false ?_))
        exact back (⟨at' + 1, a ^^^ x, x, cells, steps + 1, loads⟩, oi, _) (hgo _ rfl _ i3).1 (hgo _ rfl (oi) i3).2 (ele_tell _ _ rfl rfl (.cons _ (List.Sublist.refl _)) (List.Sublist.refl _) ⟨rfl, OwnLe.refl _, rfl, ⟨AVle.refl _, le_int hw2, AVle.refl _, trivial⟩, rfl, OwnLe.refl _, trivial⟩ (PmEq.refl _) ⟨AVle.refl _, AVle.refl _, AVle.refl _, AVle.refl _, le_int (xor32 ha hx), AVle.refl _, AVle.refl _, le_int hw1, trivial⟩)
      · (repeat ((conv=>whnf);first|refine ω0 ?_|refine ω1 ?_|refine ω2 ?_|refine ω3 ?_|refine ω4 rfl ?_|refine ω5 rfl ?_|refine ω6 ?_|refine ω7 ?_|refine ω8 ?_|refine ⟨rfl,?_⟩|refine ⟨trivial,?_⟩|refine ⟨⟨rfl,Nat.le_of_ble_eq_true rfl⟩,?_⟩|refine ⟨⟨by kernel_rfl,by kernel_rfl⟩,?_⟩|refine ⟨by decide,?_⟩|refine lit_true ?_|refine lit_false ?_))
        intro c e0; cases c
        · have e0 := fct_b0.1 e0
          have e0 : ¬ (a = x) := fun h => e0 (by show (a : Int) = ((x : Nat) : Int); rw [← h])
          (repeat ((conv=>whnf);first|refine ω0 ?_|refine ω1 ?_|refine ω2 ?_|refine ω3 ?_|refine ω4 rfl ?_|refine ω5 rfl ?_|refine ω6 ?_|refine ω7 ?_|refine ω8 ?_|refine ⟨rfl,?_⟩|refine ⟨trivial,?_⟩|refine ⟨⟨rfl,Nat.le_of_ble_eq_true rfl⟩,?_⟩|refine ⟨⟨by kernel_rfl,by kernel_rfl⟩,?_⟩|refine ⟨by decide,?_⟩|refine lit_true ?_|refine lit_false ?_))
          exact back (⟨at' + 1 + (l.getD at' ins0).jf, a, x, cells, steps + 1, loads⟩, oi, _) (hgo _ (congrArg (fun c : Bool => ((none : Option Nat), ({ (⟨at' + 1, a, x, cells, steps + 1, loads⟩ : Rn) with at' := at' + 1 + if c then (l.getD at' ins0).jt else (l.getD at' ins0).jf } : Rn))) (show branchV 25 a (x) = false from decide_eq_false e0)) _ i3).1 (hgo _ (congrArg (fun c : Bool => ((none : Option Nat), ({ (⟨at' + 1, a, x, cells, steps + 1, loads⟩ : Rn) with at' := at' + 1 + if c then (l.getD at' ins0).jt else (l.getD at' ins0).jf } : Rn))) (show branchV 25 a (x) = false from decide_eq_false e0)) (oi) i3).2 (ele_tell _ _ rfl rfl (.cons _ (List.Sublist.refl _)) (List.Sublist.refl _) ⟨rfl, OwnLe.refl _, rfl, ⟨AVle.refl _, le_int hw2, AVle.refl _, trivial⟩, rfl, OwnLe.refl _, trivial⟩ (PmEq.refl _) ⟨AVle.refl _, AVle.refl _, AVle.refl _, AVle.refl _, AVle.refl _, AVle.refl _, AVle.refl _, le_int (wrap_two (n := at') (k := (l.getD at' ins0).jf) (by omega)), trivial⟩)
        · have e0 := fct_b1.1 e0
          have e0 : (a = x) := Int.ofNat_inj.1 (show (a : Int) = ((x : Nat) : Int) from e0)
          (repeat ((conv=>whnf);first|refine ω0 ?_|refine ω1 ?_|refine ω2 ?_|refine ω3 ?_|refine ω4 rfl ?_|refine ω5 rfl ?_|refine ω6 ?_|refine ω7 ?_|refine ω8 ?_|refine ⟨rfl,?_⟩|refine ⟨trivial,?_⟩|refine ⟨⟨rfl,Nat.le_of_ble_eq_true rfl⟩,?_⟩|refine ⟨⟨by kernel_rfl,by kernel_rfl⟩,?_⟩|refine ⟨by decide,?_⟩|refine lit_true ?_|refine lit_false ?_))
          exact back (⟨at' + 1 + (l.getD at' ins0).jt, a, x, cells, steps + 1, loads⟩, oi, _) (hgo _ (congrArg (fun c : Bool => ((none : Option Nat), ({ (⟨at' + 1, a, x, cells, steps + 1, loads⟩ : Rn) with at' := at' + 1 + if c then (l.getD at' ins0).jt else (l.getD at' ins0).jf } : Rn))) (show branchV 25 a (x) = true from decide_eq_true e0)) _ i3).1 (hgo _ (congrArg (fun c : Bool => ((none : Option Nat), ({ (⟨at' + 1, a, x, cells, steps + 1, loads⟩ : Rn) with at' := at' + 1 + if c then (l.getD at' ins0).jt else (l.getD at' ins0).jf } : Rn))) (show branchV 25 a (x) = true from decide_eq_true e0)) (oi) i3).2 (ele_tell _ _ rfl rfl (.cons _ (List.Sublist.refl _)) (List.Sublist.refl _) ⟨rfl, OwnLe.refl _, rfl, ⟨AVle.refl _, le_int hw2, AVle.refl _, trivial⟩, rfl, OwnLe.refl _, trivial⟩ (PmEq.refl _) ⟨AVle.refl _, AVle.refl _, AVle.refl _, AVle.refl _, AVle.refl _, AVle.refl _, AVle.refl _, le_int (wrap_two (n := at') (k := (l.getD at' ins0).jt) (by omega)), trivial⟩)
      · (repeat ((conv=>whnf);first|refine ω0 ?_|refine ω1 ?_|refine ω2 ?_|refine ω3 ?_|refine ω4 rfl ?_|refine ω5 rfl ?_|refine ω6 ?_|refine ω7 ?_|refine ω8 ?_|refine ⟨rfl,?_⟩|refine ⟨trivial,?_⟩|refine ⟨⟨rfl,Nat.le_of_ble_eq_true rfl⟩,?_⟩|refine ⟨⟨by kernel_rfl,by kernel_rfl⟩,?_⟩|refine ⟨by decide,?_⟩|refine lit_true ?_|refine lit_false ?_))
        intro c e0; cases c
        · have e0 := fct_d0.1 e0
          have e0 : ¬ (a > x) := fun h => e0 (show ((x : Nat) : Int) < (a : Int) from Int.ofNat_lt.2 h)
          (repeat ((conv=>whnf);first|refine ω0 ?_|refine ω1 ?_|refine ω2 ?_|refine ω3 ?_|refine ω4 rfl ?_|refine ω5 rfl ?_|refine ω6 ?_|refine ω7 ?_|refine ω8 ?_|refine ⟨rfl,?_⟩|refine ⟨trivial,?_⟩|refine ⟨⟨rfl,Nat.le_of_ble_eq_true rfl⟩,?_⟩|refine ⟨⟨by kernel_rfl,by kernel_rfl⟩,?_⟩|refine ⟨by decide,?_⟩|refine lit_true ?_|refine lit_false ?_))
          exact back (⟨at' + 1 + (l.getD at' ins0).jf, a, x, cells, steps + 1, loads⟩, oi, _) (hgo _ (congrArg (fun c : Bool => ((none : Option Nat), ({ (⟨at' + 1, a, x, cells, steps + 1, loads⟩ : Rn) with at' := at' + 1 + if c then (l.getD at' ins0).jt else (l.getD at' ins0).jf } : Rn))) (show branchV 26 a (x) = false from decide_eq_false e0)) _ i3).1 (hgo _ (congrArg (fun c : Bool => ((none : Option Nat), ({ (⟨at' + 1, a, x, cells, steps + 1, loads⟩ : Rn) with at' := at' + 1 + if c then (l.getD at' ins0).jt else (l.getD at' ins0).jf } : Rn))) (show branchV 26 a (x) = false from decide_eq_false e0)) (oi) i3).2 (ele_tell _ _ rfl rfl (.cons _ (List.Sublist.refl _)) (List.Sublist.refl _) ⟨rfl, OwnLe.refl _, rfl, ⟨AVle.refl _, le_int hw2, AVle.refl _, trivial⟩, rfl, OwnLe.refl _, trivial⟩ (PmEq.refl _) ⟨AVle.refl _, AVle.refl _, AVle.refl _, AVle.refl _, AVle.refl _, AVle.refl _, AVle.refl _, le_int (wrap_two (n := at') (k := (l.getD at' ins0).jf) (by omega)), trivial⟩)
        · have e0 := fct_d1.1 e0
          have e0 : (a > x) := Int.ofNat_lt.1 (show ((x : Nat) : Int) < (a : Int) from e0)
          (repeat ((conv=>whnf);first|refine ω0 ?_|refine ω1 ?_|refine ω2 ?_|refine ω3 ?_|refine ω4 rfl ?_|refine ω5 rfl ?_|refine ω6 ?_|refine ω7 ?_|refine ω8 ?_|refine ⟨rfl,?_⟩|refine ⟨trivial,?_⟩|refine ⟨⟨rfl,Nat.le_of_ble_eq_true rfl⟩,?_⟩|refine ⟨⟨by kernel_rfl,by kernel_rfl⟩,?_⟩|refine ⟨by decide,?_⟩|refine lit_true ?_|refine lit_false ?_))
          exact back (⟨at' + 1 + (l.getD at' ins0).jt, a, x, cells, steps + 1, loads⟩, oi, _) (hgo _ (congrArg (fun c : Bool => ((none : Option Nat), ({ (⟨at' + 1, a, x, cells, steps + 1, loads⟩ : Rn) with at' := at' + 1 + if c then (l.getD at' ins0).jt else (l.getD at' ins0).jf } : Rn))) (show branchV 26 a (x) = true from decide_eq_true e0)) _ i3).1 (hgo _ (congrArg (fun c : Bool => ((none : Option Nat), ({ (⟨at' + 1, a, x, cells, steps + 1, loads⟩ : Rn) with at' := at' + 1 + if c then (l.getD at' ins0).jt else (l.getD at' ins0).jf } : Rn))) (show branchV 26 a (x) = true from decide_eq_true e0)) (oi) i3).2 (ele_tell _ _ rfl rfl (.cons _ (List.Sublist.refl _)) (List.Sublist.refl _) ⟨rfl, OwnLe.refl _, rfl, ⟨AVle.refl _, le_int hw2, AVle.refl _, trivial⟩, rfl, OwnLe.refl _, trivial⟩ (PmEq.refl _) ⟨AVle.refl _, AVle.refl _, AVle.refl _, AVle.refl _, AVle.refl _, AVle.refl _, AVle.refl _, le_int (wrap_two (n := at') (k := (l.getD at' ins0).jt) (by omega)), trivial⟩)
      · (repeat ((conv=>whnf);first|refine ω0 ?_|refine ω1 ?_|refine ω2 ?_|refine ω3 ?_|refine ω4 rfl ?_|refine ω5 rfl ?_|refine ω6 ?_|refine ω7 ?_|refine ω8 ?_|refine ⟨rfl,?_⟩|refine ⟨trivial,?_⟩|refine ⟨⟨rfl,Nat.le_of_ble_eq_true rfl⟩,?_⟩|refine ⟨⟨by kernel_rfl,by kernel_rfl⟩,?_⟩|refine ⟨by decide,?_⟩|refine lit_true ?_|refine lit_false ?_))
        intro c e0; cases c
        · have e0 := fct_d0.1 e0
          have e0 : ¬ (a ≥ x) := fun h => e0 (show ((x : Nat) : Int) ≤ (a : Int) from Int.ofNat_le.2 h)
          (repeat ((conv=>whnf);first|refine ω0 ?_|refine ω1 ?_|refine ω2 ?_|refine ω3 ?_|refine ω4 rfl ?_|refine ω5 rfl ?_|refine ω6 ?_|refine ω7 ?_|refine ω8 ?_|refine ⟨rfl,?_⟩|refine ⟨trivial,?_⟩|refine ⟨⟨rfl,Nat.le_of_ble_eq_true rfl⟩,?_⟩|refine ⟨⟨by kernel_rfl,by kernel_rfl⟩,?_⟩|refine ⟨by decide,?_⟩|refine lit_true ?_|refine lit_false ?_))
          exact back (⟨at' + 1 + (l.getD at' ins0).jf, a, x, cells, steps + 1, loads⟩, oi, _) (hgo _ (congrArg (fun c : Bool => ((none : Option Nat), ({ (⟨at' + 1, a, x, cells, steps + 1, loads⟩ : Rn) with at' := at' + 1 + if c then (l.getD at' ins0).jt else (l.getD at' ins0).jf } : Rn))) (show branchV 27 a (x) = false from decide_eq_false e0)) _ i3).1 (hgo _ (congrArg (fun c : Bool => ((none : Option Nat), ({ (⟨at' + 1, a, x, cells, steps + 1, loads⟩ : Rn) with at' := at' + 1 + if c then (l.getD at' ins0).jt else (l.getD at' ins0).jf } : Rn))) (show branchV 27 a (x) = false from decide_eq_false e0)) (oi) i3).2 (ele_tell _ _ rfl rfl (.cons _ (List.Sublist.refl _)) (List.Sublist.refl _) ⟨rfl, OwnLe.refl _, rfl, ⟨AVle.refl _, le_int hw2, AVle.refl _, trivial⟩, rfl, OwnLe.refl _, trivial⟩ (PmEq.refl _) ⟨AVle.refl _, AVle.refl _, AVle.refl _, AVle.refl _, AVle.refl _, AVle.refl _, AVle.refl _, le_int (wrap_two (n := at') (k := (l.getD at' ins0).jf) (by omega)), trivial⟩)
        · have e0 := fct_d1.1 e0
          have e0 : (a ≥ x) := Int.ofNat_le.1 (show ((x : Nat) : Int) ≤ (a : Int) from e0)
          (repeat ((conv=>whnf);first|refine ω0 ?_|refine ω1 ?_|refine ω2 ?_|refine ω3 ?_|refine ω4 rfl ?_|refine ω5 rfl ?_|refine ω6 ?_|refine ω7 ?_|refine ω8 ?_|refine ⟨rfl,?_⟩|refine ⟨trivial,?_⟩|refine ⟨⟨rfl,Nat.le_of_ble_eq_true rfl⟩,?_⟩|refine ⟨⟨by kernel_rfl,by kernel_rfl⟩,?_⟩|refine ⟨by decide,?_⟩|refine lit_true ?_|refine lit_false ?_))
          exact back (⟨at' + 1 + (l.getD at' ins0).jt, a, x, cells, steps + 1, loads⟩, oi, _) (hgo _ (congrArg (fun c : Bool => ((none : Option Nat), ({ (⟨at' + 1, a, x, cells, steps + 1, loads⟩ : Rn) with at' := at' + 1 + if c then (l.getD at' ins0).jt else (l.getD at' ins0).jf } : Rn))) (show branchV 27 a (x) = true from decide_eq_true e0)) _ i3).1 (hgo _ (congrArg (fun c : Bool => ((none : Option Nat), ({ (⟨at' + 1, a, x, cells, steps + 1, loads⟩ : Rn) with at' := at' + 1 + if c then (l.getD at' ins0).jt else (l.getD at' ins0).jf } : Rn))) (show branchV 27 a (x) = true from decide_eq_true e0)) (oi) i3).2 (ele_tell _ _ rfl rfl (.cons _ (List.Sublist.refl _)) (List.Sublist.refl _) ⟨rfl, OwnLe.refl _, rfl, ⟨AVle.refl _, le_int hw2, AVle.refl _, trivial⟩, rfl, OwnLe.refl _, trivial⟩ (PmEq.refl _) ⟨AVle.refl _, AVle.refl _, AVle.refl _, AVle.refl _, AVle.refl _, AVle.refl _, AVle.refl _, le_int (wrap_two (n := at') (k := (l.getD at' ins0).jt) (by omega)), trivial⟩)
      · (repeat ((conv=>whnf);first|refine ω0 ?_|refine ω1 ?_|refine ω2 ?_|refine ω3 ?_|refine ω4 rfl ?_|refine ω5 rfl ?_|refine ω6 ?_|refine ω7 ?_|refine ω8 ?_|refine ⟨rfl,?_⟩|refine ⟨trivial,?_⟩|refine ⟨⟨rfl,Nat.le_of_ble_eq_true rfl⟩,?_⟩|refine ⟨⟨by kernel_rfl,by kernel_rfl⟩,?_⟩|refine ⟨by decide,?_⟩|refine lit_true ?_|refine lit_false ?_))
        intro c e0; cases c
        · have e0 := fct_n0.1 e0
          have e1 : bitsI .and .u32 (a : Int) (x : Int) = ((a &&& x : Nat) : Int) := u32_and ha hx
          have e0 : ¬ (a &&& x ≠ 0) := fun h => h (Int.ofNat_inj.1 (e1.symm.trans e0))
          (repeat ((conv=>whnf);first|refine ω0 ?_|refine ω1 ?_|refine ω2 ?_|refine ω3 ?_|refine ω4 rfl ?_|refine ω5 rfl ?_|refine ω6 ?_|refine ω7 ?_|refine ω8 ?_|refine ⟨rfl,?_⟩|refine ⟨trivial,?_⟩|refine ⟨⟨rfl,Nat.le_of_ble_eq_true rfl⟩,?_⟩|refine ⟨⟨by kernel_rfl,by kernel_rfl⟩,?_⟩|refine ⟨by decide,?_⟩|refine lit_true ?_|refine lit_false ?_))
          exact back (⟨at' + 1 + (l.getD at' ins0).jf, a, x, cells, steps + 1, loads⟩, oi, _) (hgo _ (congrArg (fun c : Bool => ((none : Option Nat), ({ (⟨at' + 1, a, x, cells, steps + 1, loads⟩ : Rn) with at' := at' + 1 + if c then (l.getD at' ins0).jt else (l.getD at' ins0).jf } : Rn))) (show branchV 28 a (x) = false from decide_eq_false e0)) _ i3).1 (hgo _ (congrArg (fun c : Bool => ((none : Option Nat), ({ (⟨at' + 1, a, x, cells, steps + 1, loads⟩ : Rn) with at' := at' + 1 + if c then (l.getD at' ins0).jt else (l.getD at' ins0).jf } : Rn))) (show branchV 28 a (x) = false from decide_eq_false e0)) (oi) i3).2 (ele_tell _ _ rfl rfl (.cons _ (List.Sublist.refl _)) (List.Sublist.refl _) ⟨rfl, OwnLe.refl _, rfl, ⟨AVle.refl _, le_int hw2, AVle.refl _, trivial⟩, rfl, OwnLe.refl _, trivial⟩ (PmEq.refl _) ⟨AVle.refl _, AVle.refl _, AVle.refl _, AVle.refl _, AVle.refl _, AVle.refl _, AVle.refl _, le_int (wrap_two (n := at') (k := (l.getD at' ins0).jf) (by omega)), trivial⟩)
        · have e0 := fct_n1.1 e0
          have e1 : bitsI .and .u32 (a : Int) (x : Int) = ((a &&& x : Nat) : Int) := u32_and ha hx
          have e0 : (a &&& x ≠ 0) := fun h => e0 (e1.trans (by rw [h]; rfl))
          (repeat ((conv=>whnf);first|refine ω0 ?_|refine ω1 ?_|refine ω2 ?_|refine ω3 ?_|refine ω4 rfl ?_|refine ω5 rfl ?_|refine ω6 ?_|refine ω7 ?_|refine ω8 ?_|refine ⟨rfl,?_⟩|refine ⟨trivial,?_⟩|refine ⟨⟨rfl,Nat.le_of_ble_eq_true rfl⟩,?_⟩|refine ⟨⟨by kernel_rfl,by kernel_rfl⟩,?_⟩|refine ⟨by decide,?_⟩|refine lit_true ?_|refine lit_false ?_))
          exact back (⟨at' + 1 + (l.getD at' ins0).jt, a, x, cells, steps + 1, loads⟩, oi, _) (hgo _ (congrArg (fun c : Bool => ((none : Option Nat), ({ (⟨at' + 1, a, x, cells, steps + 1, loads⟩ : Rn) with at' := at' + 1 + if c then (l.getD at' ins0).jt else (l.getD at' ins0).jf } : Rn))) (show branchV 28 a (x) = true from decide_eq_true e0)) _ i3).1 (hgo _ (congrArg (fun c : Bool => ((none : Option Nat), ({ (⟨at' + 1, a, x, cells, steps + 1, loads⟩ : Rn) with at' := at' + 1 + if c then (l.getD at' ins0).jt else (l.getD at' ins0).jf } : Rn))) (show branchV 28 a (x) = true from decide_eq_true e0)) (oi) i3).2 (ele_tell _ _ rfl rfl (.cons _ (List.Sublist.refl _)) (List.Sublist.refl _) ⟨rfl, OwnLe.refl _, rfl, ⟨AVle.refl _, le_int hw2, AVle.refl _, trivial⟩, rfl, OwnLe.refl _, trivial⟩ (PmEq.refl _) ⟨AVle.refl _, AVle.refl _, AVle.refl _, AVle.refl _, AVle.refl _, AVle.refl _, AVle.refl _, le_int (wrap_two (n := at') (k := (l.getD at' ins0).jt) (by omega)), trivial⟩)
end Go.Proofs.W

namespace Go.Proofs.W
open Go.Vl
set_option maxRecDepth 100000

def belowF (n : Int) : AV := .fn (.func 151) [] [.rp [int n]]
theorem f30_spec (n : Int) (h : 0 ≤ n ∧ n ≤ 100000) : Tells Try.prog 151 [.rp [int n]] (int (n - 1)) := by
  refine tells_of_aw Try.func151 rfl rfl fun nx => ?_
  (repeat ((conv=>whnf);first|refine ω0 ?_|refine ω1 ?_|refine ω2 ?_|refine ω3 ?_|refine ω4 rfl ?_|refine ω5 rfl ?_|refine ω6 ?_|refine ω7 ?_|refine ω8 ?_|refine ⟨rfl,?_⟩|refine ⟨trivial,?_⟩|refine ⟨⟨rfl,Nat.le_of_ble_eq_true rfl⟩,?_⟩|refine ⟨⟨by kernel_rfl,by kernel_rfl⟩,?_⟩|refine ⟨by decide,?_⟩|refine lit_true ?_|refine lit_false ?_))
  refine ret_tells rfl (le_int (wrap_id (by omega) (by omega)))
theorem f29_spec (n : Int) : Tells Try.prog 117 [int n] (belowF n) := by
  refine tells_of_aw Try.func117 rfl rfl fun nx => ?_
  (repeat ((conv=>whnf);first|refine ω0 ?_|refine ω1 ?_|refine ω2 ?_|refine ω3 ?_|refine ω4 rfl ?_|refine ω5 rfl ?_|refine ω6 ?_|refine ω7 ?_|refine ⟨rfl,?_⟩|refine ⟨trivial,?_⟩|refine ⟨⟨rfl,Nat.le_of_ble_eq_true rfl⟩,?_⟩|refine ⟨⟨by kernel_rfl,by kernel_rfl⟩,?_⟩|refine ⟨by decide,?_⟩|refine lit_true ?_|refine lit_false ?_))
  refine AW.le (ele_freeze (L := [(2, belowF n)]) (bx := []) (pm := []) (nn := 0) [((0, nx), .c [int n])] rfl rfl (List.Sublist.refl _) (List.Sublist.refl _) ⟨Frz.fn trivial ⟨Frz.bp (.head _) rfl, trivial⟩, trivial⟩) ?_
  (repeat ((conv=>whnf);first|refine ω0 ?_|refine ω1 ?_|refine ω2 ?_|refine ω3 ?_|refine ω4 rfl ?_|refine ω5 rfl ?_|refine ω6 ?_|refine ω7 ?_|refine ω8 ?_|refine ⟨rfl,?_⟩|refine ⟨trivial,?_⟩|refine ⟨⟨rfl,Nat.le_of_ble_eq_true rfl⟩,?_⟩|refine ⟨⟨by kernel_rfl,by kernel_rfl⟩,?_⟩|refine ⟨by decide,?_⟩|refine lit_true ?_|refine lit_false ?_))
  refine ret_tells rfl (AVle.refl _)

def rowsL : List AV := [
  .ag [.v (.string ⟨#[107, 105, 108, 108]⟩), .v (.int .u32 2147483648), .v .nilFunc],
  .ag [.v (.string ⟨#[107, 105, 108, 108, 95, 116, 104, 114, 101, 97, 100]⟩), .v (.int .u32 0), .v .nilFunc],
  .ag [.v (.string ⟨#[116, 114, 97, 112]⟩), .v (.int .u32 196608), .v .nilFunc],
  .ag [.v (.string ⟨#[101, 114, 114, 110, 111]⟩), .v (.int .u32 327680), belowF 4096],
  .ag [.v (.string ⟨#[110, 111, 116, 105, 102, 121]⟩), .v (.int .u32 2143289344), .v .nilFunc],
  .ag [.v (.string ⟨#[116, 114, 97, 99, 101]⟩), .v (.int .u32 2146435072), belowF 65536],
  .ag [.v (.string ⟨#[108, 111, 103]⟩), .v (.int .u32 2147221504), .v .nilFunc],
  .ag [.v (.string ⟨#[97, 108, 108, 111, 119]⟩), .v (.int .u32 2147418112), .v .nilFunc]]
def rowsA : AV := .sl 3 8 (rowF rowsL)
theorem f28_spec : Tells Try.prog 73 [] rowsA := by
  refine tells_of_aw Try.func73 rfl rfl fun nx => ?_
  (repeat ((conv=>whnf);first|refine ω0 ?_|refine ω1 ?_|refine ω2 ?_|refine ω3 ?_|refine ω4 rfl ?_|refine ω5 rfl ?_|refine ω6 ?_|refine ω7 ?_|refine ω8 ?_|refine ⟨rfl,?_⟩|refine ⟨trivial,?_⟩|refine ⟨⟨rfl,Nat.le_of_ble_eq_true rfl⟩,?_⟩|refine ⟨⟨by kernel_rfl,by kernel_rfl⟩,?_⟩|refine ⟨by decide,?_⟩|refine lit_true ?_|refine lit_false ?_))
  refine aop_tells rfl rfl (f29_spec 4096) ⟨AVle.refl _, trivial⟩ fun nx => ?_
  (repeat ((conv=>whnf);first|refine ω0 ?_|refine ω1 ?_|refine ω2 ?_|refine ω3 ?_|refine ω4 rfl ?_|refine ω5 rfl ?_|refine ω6 ?_|refine ω7 ?_|refine ω8 ?_|refine ⟨rfl,?_⟩|refine ⟨trivial,?_⟩|refine ⟨⟨rfl,Nat.le_of_ble_eq_true rfl⟩,?_⟩|refine ⟨⟨by kernel_rfl,by kernel_rfl⟩,?_⟩|refine ⟨by decide,?_⟩|refine lit_true ?_|refine lit_false ?_))
  refine aop_tells rfl rfl (f29_spec 65536) ⟨AVle.refl _, trivial⟩ fun nx => ?_
  (repeat ((conv=>whnf);first|refine ω0 ?_|refine ω1 ?_|refine ω2 ?_|refine ω3 ?_|refine ω4 rfl ?_|refine ω5 rfl ?_|refine ω6 ?_|refine ω7 ?_|refine ω8 ?_|refine ⟨rfl,?_⟩|refine ⟨trivial,?_⟩|refine ⟨⟨rfl,Nat.le_of_ble_eq_true rfl⟩,?_⟩|refine ⟨⟨by kernel_rfl,by kernel_rfl⟩,?_⟩|refine ⟨by decide,?_⟩|refine lit_true ?_|refine lit_false ?_))
  refine ret_tells rfl (le_rowF ⟨⟨⟨⟨⟨⟨⟨⟨trivial, rfl⟩, rfl⟩, rfl⟩, rfl⟩, rfl⟩, rfl⟩, rfl⟩, rfl⟩)
theorem f26_out (k : Int) (h : k < 1 ∨ 8 < k) : Tells Try.prog 76 [int k] (.tup [.ag [.v (.string ⟨#[]⟩), .v (.int .u32 0), .v .nilFunc], boolA false]) := by
  refine tells_of_aw Try.func76 rfl rfl fun nx => ?_
  (repeat ((conv=>whnf);first|refine ω0 ?_|refine ω1 ?_|refine ω2 ?_|refine ω3 ?_|refine ω4 rfl ?_|refine ω5 rfl ?_|refine ω6 ?_|refine ω7 ?_|refine ω8 ?_|refine ⟨rfl,?_⟩|refine ⟨trivial,?_⟩|refine ⟨⟨rfl,Nat.le_of_ble_eq_true rfl⟩,?_⟩|refine ⟨⟨by kernel_rfl,by kernel_rfl⟩,?_⟩|refine ⟨by decide,?_⟩|refine lit_true ?_|refine lit_false ?_))
  refine aop_tells rfl rfl f28_spec trivial fun nx => ?_
  (repeat ((conv=>whnf);first|refine ω0 ?_|refine ω1 ?_|refine ω2 ?_|refine ω3 ?_|refine ω4 rfl ?_|refine ω5 rfl ?_|refine ω6 ?_|refine ω7 ?_|refine ω8 ?_|refine ⟨rfl,?_⟩|refine ⟨trivial,?_⟩|refine ⟨⟨rfl,Nat.le_of_ble_eq_true rfl⟩,?_⟩|refine ⟨⟨by kernel_rfl,by kernel_rfl⟩,?_⟩|refine ⟨by decide,?_⟩|refine lit_true ?_|refine lit_false ?_))
  intro c h1; cases c
  · (repeat ((conv=>whnf);first|refine ω0 ?_|refine ω1 ?_|refine ω2 ?_|refine ω3 ?_|refine ω4 rfl ?_|refine ω5 rfl ?_|refine ω6 ?_|refine ω7 ?_|refine ω8 ?_|refine ⟨rfl,?_⟩|refine ⟨trivial,?_⟩|refine ⟨⟨rfl,Nat.le_of_ble_eq_true rfl⟩,?_⟩|refine ⟨⟨by kernel_rfl,by kernel_rfl⟩,?_⟩|refine ⟨by decide,?_⟩|refine lit_true ?_|refine lit_false ?_))
    intro c h2; cases c
    · simp at h1 h2; omega
    · (repeat ((conv=>whnf);first|refine ω0 ?_|refine ω1 ?_|refine ω2 ?_|refine ω3 ?_|refine ω4 rfl ?_|refine ω5 rfl ?_|refine ω6 ?_|refine ω7 ?_|refine ω8 ?_|refine ⟨rfl,?_⟩|refine ⟨trivial,?_⟩|refine ⟨⟨rfl,Nat.le_of_ble_eq_true rfl⟩,?_⟩|refine ⟨⟨by kernel_rfl,by kernel_rfl⟩,?_⟩|refine ⟨by decide,?_⟩|refine lit_true ?_|refine lit_false ?_))
      (refine ret_tells_all rfl ?_ ?_; (· exact ⟨rfl, trivial⟩)); exact AVle.refl _
  · (repeat ((conv=>whnf);first|refine ω0 ?_|refine ω1 ?_|refine ω2 ?_|refine ω3 ?_|refine ω4 rfl ?_|refine ω5 rfl ?_|refine ω6 ?_|refine ω7 ?_|refine ω8 ?_|refine ⟨rfl,?_⟩|refine ⟨trivial,?_⟩|refine ⟨⟨rfl,Nat.le_of_ble_eq_true rfl⟩,?_⟩|refine ⟨⟨by kernel_rfl,by kernel_rfl⟩,?_⟩|refine ⟨by decide,?_⟩|refine lit_true ?_|refine lit_false ?_))
    (refine ret_tells_all rfl ?_ ?_; (· exact ⟨rfl, trivial⟩)); exact AVle.refl _
theorem f26_in (k : Nat) (h : k < 8) : Tells Try.prog 76 [int (k + 1)] (.tup [rowF rowsL k, boolA true]) := by
  refine tells_of_aw Try.func76 rfl rfl fun nx => ?_
  (repeat ((conv=>whnf);first|refine ω0 ?_|refine ω1 ?_|refine ω2 ?_|refine ω3 ?_|refine ω4 rfl ?_|refine ω5 rfl ?_|refine ω6 ?_|refine ω7 ?_|refine ω8 ?_|refine ⟨rfl,?_⟩|refine ⟨trivial,?_⟩|refine ⟨⟨rfl,Nat.le_of_ble_eq_true rfl⟩,?_⟩|refine ⟨⟨by kernel_rfl,by kernel_rfl⟩,?_⟩|refine ⟨by decide,?_⟩|refine lit_true ?_|refine lit_false ?_))
  refine aop_tells rfl rfl f28_spec trivial fun nx => ?_
  (repeat ((conv=>whnf);first|refine ω0 ?_|refine ω1 ?_|refine ω2 ?_|refine ω3 ?_|refine ω4 rfl ?_|refine ω5 rfl ?_|refine ω6 ?_|refine ω7 ?_|refine ω8 ?_|refine ⟨rfl,?_⟩|refine ⟨trivial,?_⟩|refine ⟨⟨rfl,Nat.le_of_ble_eq_true rfl⟩,?_⟩|refine ⟨⟨by kernel_rfl,by kernel_rfl⟩,?_⟩|refine ⟨by decide,?_⟩|refine lit_true ?_|refine lit_false ?_))
  intro c h1; cases c
  · (repeat ((conv=>whnf);first|refine ω0 ?_|refine ω1 ?_|refine ω2 ?_|refine ω3 ?_|refine ω4 rfl ?_|refine ω5 rfl ?_|refine ω6 ?_|refine ω7 ?_|refine ω8 ?_|refine ⟨rfl,?_⟩|refine ⟨trivial,?_⟩|refine ⟨⟨rfl,Nat.le_of_ble_eq_true rfl⟩,?_⟩|refine ⟨⟨by kernel_rfl,by kernel_rfl⟩,?_⟩|refine ⟨by decide,?_⟩|refine lit_true ?_|refine lit_false ?_))
    rcases k with _ | _ | _ | _ | _ | _ | _ | _ | k
    iterate 8
      · refine ⟨⟨by decide, by decide⟩, ?_⟩
        (repeat ((conv=>whnf);first|refine ω0 ?_|refine ω1 ?_|refine ω2 ?_|refine ω3 ?_|refine ω4 rfl ?_|refine ω5 rfl ?_|refine ω6 ?_|refine ω7 ?_|refine ω8 ?_|refine ⟨rfl,?_⟩|refine ⟨trivial,?_⟩|refine ⟨⟨rfl,Nat.le_of_ble_eq_true rfl⟩,?_⟩|refine ⟨⟨by kernel_rfl,by kernel_rfl⟩,?_⟩|refine ⟨by decide,?_⟩|refine lit_true ?_|refine lit_false ?_))
        (refine ret_tells_all rfl ?_ ?_; (· exact ⟨rfl, trivial⟩)); exact AVle.refl _
    · omega
  · simp at h1; omega
def most9 (k : Int) : Int := if k = 4 then 4095 else if k = 6 then 65535 else 0
theorem most9_spec (k : Int) : Tells Try.prog 40 [int k] (int (most9 k)) := by
  refine tells_of_aw Try.func40 rfl rfl fun nx => ?_
  (repeat ((conv=>whnf);first|refine ω0 ?_|refine ω1 ?_|refine ω2 ?_|refine ω3 ?_|refine ω4 rfl ?_|refine ω5 rfl ?_|refine ω6 ?_|refine ω7 ?_|refine ω8 ?_|refine ⟨rfl,?_⟩|refine ⟨trivial,?_⟩|refine ⟨⟨rfl,Nat.le_of_ble_eq_true rfl⟩,?_⟩|refine ⟨⟨by kernel_rfl,by kernel_rfl⟩,?_⟩|refine ⟨by decide,?_⟩|refine lit_true ?_|refine lit_false ?_))
  intro c hc
  cases c
  · (repeat ((conv=>whnf);first|refine ω0 ?_|refine ω1 ?_|refine ω2 ?_|refine ω3 ?_|refine ω4 rfl ?_|refine ω5 rfl ?_|refine ω6 ?_|refine ω7 ?_|refine ω8 ?_|refine ⟨rfl,?_⟩|refine ⟨trivial,?_⟩|refine ⟨⟨rfl,Nat.le_of_ble_eq_true rfl⟩,?_⟩|refine ⟨⟨by kernel_rfl,by kernel_rfl⟩,?_⟩|refine ⟨by decide,?_⟩|refine lit_true ?_|refine lit_false ?_))
    intro d hd
    cases d
    · (repeat ((conv=>whnf);first|refine ω0 ?_|refine ω1 ?_|refine ω2 ?_|refine ω3 ?_|refine ω4 rfl ?_|refine ω5 rfl ?_|refine ω6 ?_|refine ω7 ?_|refine ω8 ?_|refine ⟨rfl,?_⟩|refine ⟨trivial,?_⟩|refine ⟨⟨rfl,Nat.le_of_ble_eq_true rfl⟩,?_⟩|refine ⟨⟨by kernel_rfl,by kernel_rfl⟩,?_⟩|refine ⟨by decide,?_⟩|refine lit_true ?_|refine lit_false ?_))
      refine ret_tells rfl (le_int ?_)
      simp at hc hd; simp [most9, hc, hd]
    · (repeat ((conv=>whnf);first|refine ω0 ?_|refine ω1 ?_|refine ω2 ?_|refine ω3 ?_|refine ω4 rfl ?_|refine ω5 rfl ?_|refine ω6 ?_|refine ω7 ?_|refine ω8 ?_|refine ⟨rfl,?_⟩|refine ⟨trivial,?_⟩|refine ⟨⟨rfl,Nat.le_of_ble_eq_true rfl⟩,?_⟩|refine ⟨⟨by kernel_rfl,by kernel_rfl⟩,?_⟩|refine ⟨by decide,?_⟩|refine lit_true ?_|refine lit_false ?_))
      refine ret_tells rfl (le_int ?_)
      simp at hc hd; simp [most9, hc, hd]
  · (repeat ((conv=>whnf);first|refine ω0 ?_|refine ω1 ?_|refine ω2 ?_|refine ω3 ?_|refine ω4 rfl ?_|refine ω5 rfl ?_|refine ω6 ?_|refine ω7 ?_|refine ω8 ?_|refine ⟨rfl,?_⟩|refine ⟨trivial,?_⟩|refine ⟨⟨rfl,Nat.le_of_ble_eq_true rfl⟩,?_⟩|refine ⟨⟨by kernel_rfl,by kernel_rfl⟩,?_⟩|refine ⟨by decide,?_⟩|refine lit_true ?_|refine lit_false ?_))
    refine ret_tells rfl (le_int ?_)
    simp at hc; simp [most9, hc]
def act (k n : Int) : AV := .ag [int k, int n]
def right9 (k n : Int) : Bool := decide (1 ≤ k) && decide (k ≤ 8) && decide (0 ≤ n) && decide (n ≤ most9 k)
end Go.Proofs.W

namespace Go.Proofs.W
open Go.Vl
set_option maxRecDepth 100000

theorem f27_nil (s : ByteArray) (c : Int) : Tells Try.prog 75 [.ag [.v (.string s), .v (.int .u32 c), .v .nilFunc]] (int 0) := by
  refine tells_of_aw Try.func75 rfl rfl fun nx => ?_
  (repeat ((conv=>whnf);first|refine ω0 ?_|refine ω1 ?_|refine ω2 ?_|refine ω3 ?_|refine ω4 rfl ?_|refine ω5 rfl ?_|refine ω6 ?_|refine ω7 ?_|refine ω8 ?_|refine ⟨rfl,?_⟩|refine ⟨trivial,?_⟩|refine ⟨⟨rfl,Nat.le_of_ble_eq_true rfl⟩,?_⟩|refine ⟨⟨by kernel_rfl,by kernel_rfl⟩,?_⟩|refine ⟨by decide,?_⟩|refine lit_true ?_|refine lit_false ?_))
  refine ret_tells rfl (AVle.refl _)
theorem f27_below (s : ByteArray) (c n : Int) (h : 0 ≤ n ∧ n ≤ 100000) : Tells Try.prog 75 [.ag [.v (.string s), .v (.int .u32 c), belowF n]] (int (n - 1)) := by
  refine tells_of_aw Try.func75 rfl rfl fun nx => ?_
  (repeat ((conv=>whnf);first|refine ω0 ?_|refine ω1 ?_|refine ω2 ?_|refine ω3 ?_|refine ω4 rfl ?_|refine ω5 rfl ?_|refine ω6 ?_|refine ω7 ?_|refine ω8 ?_|refine ⟨rfl,?_⟩|refine ⟨trivial,?_⟩|refine ⟨⟨rfl,Nat.le_of_ble_eq_true rfl⟩,?_⟩|refine ⟨⟨by kernel_rfl,by kernel_rfl⟩,?_⟩|refine ⟨by decide,?_⟩|refine lit_true ?_|refine lit_false ?_))
  refine aop_tells rfl rfl (f30_spec n h) ⟨AVle.refl _, trivial⟩ fun nx => ?_
  (repeat ((conv=>whnf);first|refine ω0 ?_|refine ω1 ?_|refine ω2 ?_|refine ω3 ?_|refine ω4 rfl ?_|refine ω5 rfl ?_|refine ω6 ?_|refine ω7 ?_|refine ω8 ?_|refine ⟨rfl,?_⟩|refine ⟨trivial,?_⟩|refine ⟨⟨rfl,Nat.le_of_ble_eq_true rfl⟩,?_⟩|refine ⟨⟨by kernel_rfl,by kernel_rfl⟩,?_⟩|refine ⟨by decide,?_⟩|refine lit_true ?_|refine lit_false ?_))
  refine ret_tells rfl (AVle.refl _)
theorem row_most (k : Nat) (h : k < 8) : ∃ s c m, rowF rowsL k = .ag [.v (.string s), .v (.int .u32 c), m] ∧ (m = .v .nilFunc ∨ ∃ n, m = belowF n) ∧ Tells Try.prog 75 [rowF rowsL k] (int (most9 (k + 1))) := by
  rcases k with _ | _ | _ | _ | _ | _ | _ | _ | k
  · exact ⟨_, _, _, rfl, .inl rfl, f27_nil _ _⟩
  · exact ⟨_, _, _, rfl, .inl rfl, f27_nil _ _⟩
  · exact ⟨_, _, _, rfl, .inl rfl, f27_nil _ _⟩
  · exact ⟨_, _, _, rfl, .inr ⟨_, rfl⟩, f27_below _ _ 4096 (by decide)⟩
  · exact ⟨_, _, _, rfl, .inl rfl, f27_nil _ _⟩
  · exact ⟨_, _, _, rfl, .inr ⟨_, rfl⟩, f27_below _ _ 65536 (by decide)⟩
  · exact ⟨_, _, _, rfl, .inl rfl, f27_nil _ _⟩
  · exact ⟨_, _, _, rfl, .inl rfl, f27_nil _ _⟩
  · omega
theorem right9_out {k n : Int} (h : k < 1 ∨ 8 < k) : right9 k n = false := by simp [right9]; omega
theorem f22_in (k n : Int) (m : AV) (s : ByteArray) (c : Int) (hm : m = .v .nilFunc ∨ ∃ n, m = belowF n) (hk : 1 ≤ k ∧ k ≤ 8)
    (h26 : Tells Try.prog 76 [int k] (.tup [.ag [.v (.string s), .v (.int .u32 c), m], boolA true])) (h27 : Tells Try.prog 75 [.ag [.v (.string s), .v (.int .u32 c), m]] (int (most9 k))) :
    Tells Try.prog 79 [act k n] (boolA (right9 k n)) := by
  refine tells_of_aw Try.func79 rfl rfl fun nx => ?_
  (repeat ((conv=>whnf);first|refine ω0 ?_|refine ω1 ?_|refine ω2 ?_|refine ω3 ?_|refine ω4 rfl ?_|refine ω5 rfl ?_|refine ω6 ?_|refine ω7 ?_|refine ω8 ?_|refine ⟨rfl,?_⟩|refine ⟨trivial,?_⟩|refine ⟨⟨rfl,Nat.le_of_ble_eq_true rfl⟩,?_⟩|refine ⟨⟨by kernel_rfl,by kernel_rfl⟩,?_⟩|refine ⟨by decide,?_⟩|refine lit_true ?_|refine lit_false ?_))
  refine aop_tells rfl rfl h26 ⟨AVle.refl _, trivial⟩ fun nx => ?_
  rcases hm with rfl | ⟨n', rfl⟩
  all_goals
    (repeat ((conv=>whnf);first|refine ω0 ?_|refine ω1 ?_|refine ω2 ?_|refine ω3 ?_|refine ω4 rfl ?_|refine ω5 rfl ?_|refine ω6 ?_|refine ω7 ?_|refine ω8 ?_|refine ⟨rfl,?_⟩|refine ⟨trivial,?_⟩|refine ⟨⟨rfl,Nat.le_of_ble_eq_true rfl⟩,?_⟩|refine ⟨⟨by kernel_rfl,by kernel_rfl⟩,?_⟩|refine ⟨by decide,?_⟩|refine lit_true ?_|refine lit_false ?_))
    (refine aw_draw 13 ?_ ?_ ?_ ?_; (· kernel_rfl); (· kernel_rfl); (· kernel_rfl))
    (repeat ((conv=>whnf);first|refine ω0 ?_|refine ω1 ?_|refine ω2 ?_|refine ω3 ?_|refine ω4 rfl ?_|refine ω5 rfl ?_|refine ω6 ?_|refine ω7 ?_|refine ω8 ?_|refine ⟨rfl,?_⟩|refine ⟨trivial,?_⟩|refine ⟨⟨rfl,Nat.le_of_ble_eq_true rfl⟩,?_⟩|refine ⟨⟨by kernel_rfl,by kernel_rfl⟩,?_⟩|refine ⟨by decide,?_⟩|refine lit_true ?_|refine lit_false ?_))
    intro c h1; cases c
    · (repeat ((conv=>whnf);first|refine ω0 ?_|refine ω1 ?_|refine ω2 ?_|refine ω3 ?_|refine ω4 rfl ?_|refine ω5 rfl ?_|refine ω6 ?_|refine ω7 ?_|refine ω8 ?_|refine ⟨rfl,?_⟩|refine ⟨trivial,?_⟩|refine ⟨⟨rfl,Nat.le_of_ble_eq_true rfl⟩,?_⟩|refine ⟨⟨by kernel_rfl,by kernel_rfl⟩,?_⟩|refine ⟨by decide,?_⟩|refine lit_true ?_|refine lit_false ?_))
      refine ret_tells rfl (le_bool ?_)
      simp at h1; simp [right9]; omega
    (repeat ((conv=>whnf);first|refine ω0 ?_|refine ω1 ?_|refine ω2 ?_|refine ω3 ?_|refine ω4 rfl ?_|refine ω5 rfl ?_|refine ω6 ?_|refine ω7 ?_|refine ω8 ?_|refine ⟨rfl,?_⟩|refine ⟨trivial,?_⟩|refine ⟨⟨rfl,Nat.le_of_ble_eq_true rfl⟩,?_⟩|refine ⟨⟨by kernel_rfl,by kernel_rfl⟩,?_⟩|refine ⟨by decide,?_⟩|refine lit_true ?_|refine lit_false ?_))
    refine ex_yields (yields_tells rfl rfl h27 ⟨AVle.refl _, trivial⟩ (NoId.v _)) ?_
    (repeat ((conv=>whnf);first|refine ω0 ?_|refine ω1 ?_|refine ω2 ?_|refine ω3 ?_|refine ω4 rfl ?_|refine ω5 rfl ?_|refine ω6 ?_|refine ω7 ?_|refine ω8 ?_|refine ⟨rfl,?_⟩|refine ⟨trivial,?_⟩|refine ⟨⟨rfl,Nat.le_of_ble_eq_true rfl⟩,?_⟩|refine ⟨⟨by kernel_rfl,by kernel_rfl⟩,?_⟩|refine ⟨by decide,?_⟩|refine lit_true ?_|refine lit_false ?_))
    intro c h2; cases c
    · (repeat ((conv=>whnf);first|refine ω0 ?_|refine ω1 ?_|refine ω2 ?_|refine ω3 ?_|refine ω4 rfl ?_|refine ω5 rfl ?_|refine ω6 ?_|refine ω7 ?_|refine ω8 ?_|refine ⟨rfl,?_⟩|refine ⟨trivial,?_⟩|refine ⟨⟨rfl,Nat.le_of_ble_eq_true rfl⟩,?_⟩|refine ⟨⟨by kernel_rfl,by kernel_rfl⟩,?_⟩|refine ⟨by decide,?_⟩|refine lit_true ?_|refine lit_false ?_))
      refine ret_tells rfl (le_bool ?_)
      simp at h1 h2; simp [right9]; omega
    · (repeat ((conv=>whnf);first|refine ω0 ?_|refine ω1 ?_|refine ω2 ?_|refine ω3 ?_|refine ω4 rfl ?_|refine ω5 rfl ?_|refine ω6 ?_|refine ω7 ?_|refine ω8 ?_|refine ⟨rfl,?_⟩|refine ⟨trivial,?_⟩|refine ⟨⟨rfl,Nat.le_of_ble_eq_true rfl⟩,?_⟩|refine ⟨⟨by kernel_rfl,by kernel_rfl⟩,?_⟩|refine ⟨by decide,?_⟩|refine lit_true ?_|refine lit_false ?_))
      refine ret_tells rfl (le_bool ?_)
      simp at h1 h2; simp [right9]; omega
theorem f22_spec (k n : Int) : Tells Try.prog 79 [act k n] (boolA (right9 k n)) := by
  by_cases hk : k < 1 ∨ 8 < k
  · refine tells_of_aw Try.func79 rfl rfl fun nx => ?_
    (repeat ((conv=>whnf);first|refine ω0 ?_|refine ω1 ?_|refine ω2 ?_|refine ω3 ?_|refine ω4 rfl ?_|refine ω5 rfl ?_|refine ω6 ?_|refine ω7 ?_|refine ω8 ?_|refine ⟨rfl,?_⟩|refine ⟨trivial,?_⟩|refine ⟨⟨rfl,Nat.le_of_ble_eq_true rfl⟩,?_⟩|refine ⟨⟨by kernel_rfl,by kernel_rfl⟩,?_⟩|refine ⟨by decide,?_⟩|refine lit_true ?_|refine lit_false ?_))
    refine aop_tells rfl rfl (f26_out k hk) ⟨AVle.refl _, trivial⟩ fun nx => ?_
    (repeat ((conv=>whnf);first|refine ω0 ?_|refine ω1 ?_|refine ω2 ?_|refine ω3 ?_|refine ω4 rfl ?_|refine ω5 rfl ?_|refine ω6 ?_|refine ω7 ?_|refine ω8 ?_|refine ⟨rfl,?_⟩|refine ⟨trivial,?_⟩|refine ⟨⟨rfl,Nat.le_of_ble_eq_true rfl⟩,?_⟩|refine ⟨⟨by kernel_rfl,by kernel_rfl⟩,?_⟩|refine ⟨by decide,?_⟩|refine lit_true ?_|refine lit_false ?_))
    (refine aw_draw 13 ?_ ?_ ?_ ?_; (· kernel_rfl); (· kernel_rfl); (· kernel_rfl))
    (repeat ((conv=>whnf);first|refine ω0 ?_|refine ω1 ?_|refine ω2 ?_|refine ω3 ?_|refine ω4 rfl ?_|refine ω5 rfl ?_|refine ω6 ?_|refine ω7 ?_|refine ω8 ?_|refine ⟨rfl,?_⟩|refine ⟨trivial,?_⟩|refine ⟨⟨rfl,Nat.le_of_ble_eq_true rfl⟩,?_⟩|refine ⟨⟨by kernel_rfl,by kernel_rfl⟩,?_⟩|refine ⟨by decide,?_⟩|refine lit_true ?_|refine lit_false ?_))
    refine ret_tells rfl (le_bool (right9_out hk).symm)
  · obtain ⟨j, hj, rfl⟩ : ∃ j : Nat, j < 8 ∧ k = (j : Int) + 1 := ⟨(k - 1).toNat, by omega, by omega⟩
    obtain ⟨s, c, m, hr, ho, hm⟩ := row_most j hj
    have h26 := f26_in j hj
    rw [hr] at h26 hm
    exact f22_in _ n m s c ho (by omega) h26 hm
theorem f21_spec (k n : Int) : Tells Try.prog 78 [act k n] (boolA (!right9 k n)) := by
  refine tells_of_aw Try.func78 rfl rfl fun nx => ?_
  (repeat ((conv=>whnf);first|refine ω0 ?_|refine ω1 ?_|refine ω2 ?_|refine ω3 ?_|refine ω4 rfl ?_|refine ω5 rfl ?_|refine ω6 ?_|refine ω7 ?_|refine ω8 ?_|refine ⟨rfl,?_⟩|refine ⟨trivial,?_⟩|refine ⟨⟨rfl,Nat.le_of_ble_eq_true rfl⟩,?_⟩|refine ⟨⟨by kernel_rfl,by kernel_rfl⟩,?_⟩|refine ⟨by decide,?_⟩|refine lit_true ?_|refine lit_false ?_))
  refine aop_tells rfl rfl (f22_spec k n) ⟨AVle.refl _, trivial⟩ fun nx => ?_
  intro c h1; cases c
  all_goals
    (repeat ((conv=>whnf);first|refine ω0 ?_|refine ω1 ?_|refine ω2 ?_|refine ω3 ?_|refine ω4 rfl ?_|refine ω5 rfl ?_|refine ω6 ?_|refine ω7 ?_|refine ω8 ?_|refine ⟨rfl,?_⟩|refine ⟨trivial,?_⟩|refine ⟨⟨rfl,Nat.le_of_ble_eq_true rfl⟩,?_⟩|refine ⟨⟨by kernel_rfl,by kernel_rfl⟩,?_⟩|refine ⟨by decide,?_⟩|refine lit_true ?_|refine lit_false ?_))
    refine ret_tells rfl (le_bool (by rw [← h1]; rfl))

/-- Actions, as data. -/
abbrev A2 := Int × Int
def actP (a : A2) : AV := act a.1 a.2
def acts (l : List A2) : AV := slOf 2 actP (0, 0) l
theorem idx_at {α : Type} {p : α → Bool} {l : List α} {i : Nat} (d : α) (hi : i < l.length) (hb : ∀ j, j < i → p (l.getD j d) = false) (h : p (l.getD i d) = true) : l.findIdx? p = some i := by
  rw [List.findIdx?_eq_some_iff_getElem]
  refine ⟨hi, by simpa [List.getD, hi] using h, fun j hj => ?_⟩
  have := hb j hj
  have hj' : j < l.length := by omega
  simpa [List.getD, hj'] using this
theorem idx_none {α : Type} {p : α → Bool} {l : List α} (d : α) (hb : ∀ j, j < l.length → p (l.getD j d) = false) : l.findIdx? p = none := by
  rw [List.findIdx?_eq_none_iff]
  intro x hx
  obtain ⟨j, hj, rfl⟩ := List.getElem_of_mem hx
  have := hb j hj
  simpa [List.getD, hj] using this
def optI : Option Nat → Int
  | some i => i
  | none => -1
def wrongA (a : A2) : Bool := !right9 a.1 a.2
theorem f25_spec (l : List A2) (hl : l.length ≤ 1000000000) : Tells Try.prog 118 [acts l, .fn (.func 78) [] []] (int (optI (l.findIdx? wrongA))) := by
  refine tells_of_aw Try.func118 rfl rfl fun nx => ?_
  (repeat ((conv=>whnf);first|refine ω0 ?_|refine ω1 ?_|refine ω2 ?_|refine ω3 ?_|refine ω4 rfl ?_|refine ω5 rfl ?_|refine ω6 ?_|refine ω7 ?_|refine ω8 ?_|refine ⟨rfl,?_⟩|refine ⟨trivial,?_⟩|refine ⟨⟨rfl,Nat.le_of_ble_eq_true rfl⟩,?_⟩|refine ⟨⟨by kernel_rfl,by kernel_rfl⟩,?_⟩|refine ⟨by decide,?_⟩|refine lit_true ?_|refine lit_false ?_))
  refine aw_loop (fun s : Nat × Nat => mk 19 [(0, acts l), (1, .fn (.func 78) [] []), (6, acts l), (7, int l.length), (8, int s.1)] ⟨[], [], s.2, 0⟩) (fun s => s.1 ≤ l.length ∧ ∀ j, j < s.1 → wrongA (l.getD j (0,0)) = false) (fun s => l.length - s.1) ?_ ?_
  · exact ⟨(0, nx), ⟨by simp, by intro j hj; simp at hj⟩, ele_mk rfl rfl ⟨AVle.refl _, AVle.refl _, AVle.refl _, AVle.refl _, AVle.refl _, trivial⟩⟩
  · rintro ⟨i, nx⟩ ⟨h1, h2⟩
    dsimp only at h1 h2
    (repeat ((conv=>whnf);first|refine ω0 ?_|refine ω1 ?_|refine ω2 ?_|refine ω3 ?_|refine ω4 rfl ?_|refine ω5 rfl ?_|refine ω6 ?_|refine ω7 ?_|refine ω8 ?_|refine ⟨rfl,?_⟩|refine ⟨trivial,?_⟩|refine ⟨⟨rfl,Nat.le_of_ble_eq_true rfl⟩,?_⟩|refine ⟨⟨by kernel_rfl,by kernel_rfl⟩,?_⟩|refine ⟨by decide,?_⟩|refine lit_true ?_|refine lit_false ?_))
    intro c h3; cases c
    · (repeat ((conv=>whnf);first|refine ω0 ?_|refine ω1 ?_|refine ω2 ?_|refine ω3 ?_|refine ω4 rfl ?_|refine ω5 rfl ?_|refine ω6 ?_|refine ω7 ?_|refine ω8 ?_|refine ⟨rfl,?_⟩|refine ⟨trivial,?_⟩|refine ⟨⟨rfl,Nat.le_of_ble_eq_true rfl⟩,?_⟩|refine ⟨⟨by kernel_rfl,by kernel_rfl⟩,?_⟩|refine ⟨by decide,?_⟩|refine lit_true ?_|refine lit_false ?_))
      refine ret_tells rfl (le_int ?_)
      simp at h3
      rw [idx_none (0, 0) (fun j hj => h2 j (by omega))]; rfl
    · (repeat ((conv=>whnf);first|refine ω0 ?_|refine ω1 ?_|refine ω2 ?_|refine ω3 ?_|refine ω4 rfl ?_|refine ω5 rfl ?_|refine ω6 ?_|refine ω7 ?_|refine ω8 ?_|refine ⟨rfl,?_⟩|refine ⟨trivial,?_⟩|refine ⟨⟨rfl,Nat.le_of_ble_eq_true rfl⟩,?_⟩|refine ⟨⟨by kernel_rfl,by kernel_rfl⟩,?_⟩|refine ⟨by decide,?_⟩|refine lit_true ?_|refine lit_false ?_))
      simp at h3
      refine ⟨⟨by omega, by omega⟩, ?_⟩
      (repeat ((conv=>whnf);first|refine ω0 ?_|refine ω1 ?_|refine ω2 ?_|refine ω3 ?_|refine ω4 rfl ?_|refine ω5 rfl ?_|refine ω6 ?_|refine ω7 ?_|refine ω8 ?_|refine ⟨rfl,?_⟩|refine ⟨trivial,?_⟩|refine ⟨⟨rfl,Nat.le_of_ble_eq_true rfl⟩,?_⟩|refine ⟨⟨by kernel_rfl,by kernel_rfl⟩,?_⟩|refine ⟨by decide,?_⟩|refine lit_true ?_|refine lit_false ?_))
      refine aop_tells rfl rfl (f21_spec (l.getD i (0,0)).1 (l.getD i (0,0)).2) ⟨AVle.refl _, trivial⟩ fun nx' => ?_
      intro c h4; cases c
      · (repeat ((conv=>whnf);first|refine ω0 ?_|refine ω1 ?_|refine ω2 ?_|refine ω3 ?_|refine ω4 rfl ?_|refine ω5 rfl ?_|refine ω6 ?_|refine ω7 ?_|refine ω8 ?_|refine ⟨rfl,?_⟩|refine ⟨trivial,?_⟩|refine ⟨⟨rfl,Nat.le_of_ble_eq_true rfl⟩,?_⟩|refine ⟨⟨by kernel_rfl,by kernel_rfl⟩,?_⟩|refine ⟨by decide,?_⟩|refine lit_true ?_|refine lit_false ?_))
        refine back (i + 1, nx') ⟨by dsimp only; omega, fun j hj => ?_⟩ (by dsimp only; omega) (ele_mk rfl rfl ⟨AVle.refl _, AVle.refl _, AVle.refl _, AVle.refl _, le_int (wrap_succ (by omega)), trivial⟩)
        dsimp only at hj
        rcases Nat.lt_or_ge j i with h | h
        · exact h2 j h
        · obtain rfl : j = i := by omega
          exact h4.symm
      · (repeat ((conv=>whnf);first|refine ω0 ?_|refine ω1 ?_|refine ω2 ?_|refine ω3 ?_|refine ω4 rfl ?_|refine ω5 rfl ?_|refine ω6 ?_|refine ω7 ?_|refine ω8 ?_|refine ⟨rfl,?_⟩|refine ⟨trivial,?_⟩|refine ⟨⟨rfl,Nat.le_of_ble_eq_true rfl⟩,?_⟩|refine ⟨⟨by kernel_rfl,by kernel_rfl⟩,?_⟩|refine ⟨by decide,?_⟩|refine lit_true ?_|refine lit_false ?_))
        refine ret_tells rfl (le_int ?_)
        rw [idx_at (0,0) h3 h2 h4.symm]; rfl
theorem optI_nonneg (o : Option Nat) : decide (0 ≤ optI o) = o.isSome := by cases o <;> simp [optI]
theorem f20_spec (l : List A2) (hl : l.length ≤ 1000000000) : Tells Try.prog 77 [acts l, .fn (.func 78) [] []] (boolA (l.findIdx? wrongA).isSome) := by
  refine tells_of_aw Try.func77 rfl rfl fun nx => ?_
  (repeat ((conv=>whnf);first|refine ω0 ?_|refine ω1 ?_|refine ω2 ?_|refine ω3 ?_|refine ω4 rfl ?_|refine ω5 rfl ?_|refine ω6 ?_|refine ω7 ?_|refine ω8 ?_|refine ⟨rfl,?_⟩|refine ⟨trivial,?_⟩|refine ⟨⟨rfl,Nat.le_of_ble_eq_true rfl⟩,?_⟩|refine ⟨⟨by kernel_rfl,by kernel_rfl⟩,?_⟩|refine ⟨by decide,?_⟩|refine lit_true ?_|refine lit_false ?_))
  refine aop_tells rfl rfl (f25_spec l hl) ⟨AVle.refl _, AVle.refl _, trivial⟩ fun nx' => ?_
  (repeat ((conv=>whnf);first|refine ω0 ?_|refine ω1 ?_|refine ω2 ?_|refine ω3 ?_|refine ω4 rfl ?_|refine ω5 rfl ?_|refine ω6 ?_|refine ω7 ?_|refine ω8 ?_|refine ⟨rfl,?_⟩|refine ⟨trivial,?_⟩|refine ⟨⟨rfl,Nat.le_of_ble_eq_true rfl⟩,?_⟩|refine ⟨⟨by kernel_rfl,by kernel_rfl⟩,?_⟩|refine ⟨by decide,?_⟩|refine lit_true ?_|refine lit_false ?_))
  intro c h; cases c
  all_goals
    (repeat ((conv=>whnf);first|refine ω0 ?_|refine ω1 ?_|refine ω2 ?_|refine ω3 ?_|refine ω4 rfl ?_|refine ω5 rfl ?_|refine ω6 ?_|refine ω7 ?_|refine ω8 ?_|refine ⟨rfl,?_⟩|refine ⟨trivial,?_⟩|refine ⟨⟨rfl,Nat.le_of_ble_eq_true rfl⟩,?_⟩|refine ⟨⟨by kernel_rfl,by kernel_rfl⟩,?_⟩|refine ⟨by decide,?_⟩|refine lit_true ?_|refine lit_false ?_))
    refine ret_tells rfl (le_bool ?_)
    rw [← optI_nonneg, h]
/-- The strictest of some: the last among those of the least kind. -/
def strict (a : A2) (l : List A2) : A2 := l.foldl (fun m x => if x.1 ≤ m.1 then x else m) a
def strictest (l : List A2) : A2 × Int :=
  match l with
  | [] => ((0, 0), 4)
  | a :: r => if (l.findIdx? wrongA).isSome then ((0, 0), 16) else (strict a r, 0)
theorem f9_spec (l : List A2) (hl : l.length ≤ 1000000000) : Tells Try.prog 42 [acts l] (.tup [actP (strictest l).1, int (strictest l).2]) := by
  refine tells_of_aw Try.func42 rfl rfl fun nx => ?_
  (repeat ((conv=>whnf);first|refine ω0 ?_|refine ω1 ?_|refine ω2 ?_|refine ω3 ?_|refine ω4 rfl ?_|refine ω5 rfl ?_|refine ω6 ?_|refine ω7 ?_|refine ω8 ?_|refine ⟨rfl,?_⟩|refine ⟨trivial,?_⟩|refine ⟨⟨rfl,Nat.le_of_ble_eq_true rfl⟩,?_⟩|refine ⟨⟨by kernel_rfl,by kernel_rfl⟩,?_⟩|refine ⟨by decide,?_⟩|refine lit_true ?_|refine lit_false ?_))
  cases l with
  | nil =>
    (repeat ((conv=>whnf);first|refine ω0 ?_|refine ω1 ?_|refine ω2 ?_|refine ω3 ?_|refine ω4 rfl ?_|refine ω5 rfl ?_|refine ω6 ?_|refine ω7 ?_|refine ω8 ?_|refine ⟨rfl,?_⟩|refine ⟨trivial,?_⟩|refine ⟨⟨rfl,Nat.le_of_ble_eq_true rfl⟩,?_⟩|refine ⟨⟨by kernel_rfl,by kernel_rfl⟩,?_⟩|refine ⟨by decide,?_⟩|refine lit_true ?_|refine lit_false ?_))
    (refine ret_tells_all rfl ?_ ?_; (· exact ⟨rfl, trivial⟩)); exact AVle.refl _
  | cons a r =>
    (repeat ((conv=>whnf);first|refine ω0 ?_|refine ω1 ?_|refine ω2 ?_|refine ω3 ?_|refine ω4 rfl ?_|refine ω5 rfl ?_|refine ω6 ?_|refine ω7 ?_|refine ω8 ?_|refine ⟨rfl,?_⟩|refine ⟨trivial,?_⟩|refine ⟨⟨rfl,Nat.le_of_ble_eq_true rfl⟩,?_⟩|refine ⟨⟨by kernel_rfl,by kernel_rfl⟩,?_⟩|refine ⟨by decide,?_⟩|refine lit_true ?_|refine lit_false ?_))
    refine aop_tells rfl rfl (f20_spec _ hl) ⟨AVle.refl _, AVle.refl _, trivial⟩ fun nx' => ?_
    intro c h1; cases c
    · (repeat ((conv=>whnf);first|refine ω0 ?_|refine ω1 ?_|refine ω2 ?_|refine ω3 ?_|refine ω4 rfl ?_|refine ω5 rfl ?_|refine ω6 ?_|refine ω7 ?_|refine ω8 ?_|refine ⟨rfl,?_⟩|refine ⟨trivial,?_⟩|refine ⟨⟨rfl,Nat.le_of_ble_eq_true rfl⟩,?_⟩|refine ⟨⟨by kernel_rfl,by kernel_rfl⟩,?_⟩|refine ⟨by decide,?_⟩|refine lit_true ?_|refine lit_false ?_))
      refine ⟨⟨by omega, by simp⟩, ?_⟩
      (repeat ((conv=>whnf);first|refine ω0 ?_|refine ω1 ?_|refine ω2 ?_|refine ω3 ?_|refine ω4 rfl ?_|refine ω5 rfl ?_|refine ω6 ?_|refine ω7 ?_|refine ω8 ?_|refine ⟨rfl,?_⟩|refine ⟨trivial,?_⟩|refine ⟨⟨rfl,Nat.le_of_ble_eq_true rfl⟩,?_⟩|refine ⟨⟨by kernel_rfl,by kernel_rfl⟩,?_⟩|refine ⟨by decide,?_⟩|refine lit_true ?_|refine lit_false ?_))
      refine ⟨⟨by omega, by simp; omega⟩, ?_⟩
      (repeat ((conv=>whnf);first|refine ω0 ?_|refine ω1 ?_|refine ω2 ?_|refine ω3 ?_|refine ω4 rfl ?_|refine ω5 rfl ?_|refine ω6 ?_|refine ω7 ?_|refine ω8 ?_|refine ⟨rfl,?_⟩|refine ⟨trivial,?_⟩|refine ⟨⟨rfl,Nat.le_of_ble_eq_true rfl⟩,?_⟩|refine ⟨⟨by kernel_rfl,by kernel_rfl⟩,?_⟩|refine ⟨by decide,?_⟩|refine lit_true ?_|refine lit_false ?_))
      refine aw_loop (fun s : Nat × A2 × Nat => mk 34 [(2, .bp (0, nx) 0), (4, .bp (1, nx') 0), (20, acts r), (21, int r.length), (22, int s.1)] ⟨[((1, nx'), .c [int s.2.1.1, int s.2.1.2]), ((0, nx), .c [int 0, int 0])], [], s.2.2, 2⟩)
        (fun s => s.1 ≤ r.length ∧ s.2.1 = strict a (r.take s.1)) (fun s => r.length - s.1) ?_ ?_
      · exact ⟨(0, a, nx' + 1), ⟨by simp, rfl⟩, ele_mk rfl rfl ⟨AVle.refl _, AVle.refl _, AVle.sl_fun (f' := fun k => actP (r.getD k (0, 0))) (fun k _ => by simp [Nat.add_comm 1 k]), le_int (by simp), AVle.refl _, trivial⟩⟩
      · rintro ⟨i, m, nx2⟩ ⟨h2, h3⟩
        dsimp only at h2 h3
        have hr : r.length ≤ 1000000000 := by simp at hl; omega
        (repeat ((conv=>whnf);first|refine ω0 ?_|refine ω1 ?_|refine ω2 ?_|refine ω3 ?_|refine ω4 rfl ?_|refine ω5 rfl ?_|refine ω6 ?_|refine ω7 ?_|refine ω8 ?_|refine ⟨rfl,?_⟩|refine ⟨trivial,?_⟩|refine ⟨⟨rfl,Nat.le_of_ble_eq_true rfl⟩,?_⟩|refine ⟨⟨by kernel_rfl,by kernel_rfl⟩,?_⟩|refine ⟨by decide,?_⟩|refine lit_true ?_|refine lit_false ?_))
        intro c h4; cases c
        · (repeat ((conv=>whnf);first|refine ω0 ?_|refine ω1 ?_|refine ω2 ?_|refine ω3 ?_|refine ω4 rfl ?_|refine ω5 rfl ?_|refine ω6 ?_|refine ω7 ?_|refine ω8 ?_|refine ⟨rfl,?_⟩|refine ⟨trivial,?_⟩|refine ⟨⟨rfl,Nat.le_of_ble_eq_true rfl⟩,?_⟩|refine ⟨⟨by kernel_rfl,by kernel_rfl⟩,?_⟩|refine ⟨by decide,?_⟩|refine lit_true ?_|refine lit_false ?_))
          (refine ret_tells_all rfl ?_ ?_; (· exact ⟨rfl, trivial⟩))
          simp at h4
          rw [strictest, ← h1]
          obtain rfl : i = r.length := by omega
          rw [List.take_length] at h3
          subst h3
          exact AVle.refl _
        · simp at h4
          have hs : strict a (r.take (i + 1)) = if (r.getD i (0, 0)).1 ≤ m.1 then r.getD i (0, 0) else m := by
            rw [h3, take_getD (0, 0) h4]; simp only [strict, List.foldl_append, List.foldl_cons, List.foldl_nil]; rfl
          (repeat ((conv=>whnf);first|refine ω0 ?_|refine ω1 ?_|refine ω2 ?_|refine ω3 ?_|refine ω4 rfl ?_|refine ω5 rfl ?_|refine ω6 ?_|refine ω7 ?_|refine ω8 ?_|refine ⟨rfl,?_⟩|refine ⟨trivial,?_⟩|refine ⟨⟨rfl,Nat.le_of_ble_eq_true rfl⟩,?_⟩|refine ⟨⟨by kernel_rfl,by kernel_rfl⟩,?_⟩|refine ⟨by decide,?_⟩|refine lit_true ?_|refine lit_false ?_))
          refine ⟨⟨by omega, by omega⟩, ?_⟩
          (repeat ((conv=>whnf);first|refine ω0 ?_|refine ω1 ?_|refine ω2 ?_|refine ω3 ?_|refine ω4 rfl ?_|refine ω5 rfl ?_|refine ω6 ?_|refine ω7 ?_|refine ω8 ?_|refine ⟨rfl,?_⟩|refine ⟨trivial,?_⟩|refine ⟨⟨rfl,Nat.le_of_ble_eq_true rfl⟩,?_⟩|refine ⟨⟨by kernel_rfl,by kernel_rfl⟩,?_⟩|refine ⟨by decide,?_⟩|refine lit_true ?_|refine lit_false ?_))
          intro c h5; cases c
          · (repeat ((conv=>whnf);first|refine ω0 ?_|refine ω1 ?_|refine ω2 ?_|refine ω3 ?_|refine ω4 rfl ?_|refine ω5 rfl ?_|refine ω6 ?_|refine ω7 ?_|refine ω8 ?_|refine ⟨rfl,?_⟩|refine ⟨trivial,?_⟩|refine ⟨⟨rfl,Nat.le_of_ble_eq_true rfl⟩,?_⟩|refine ⟨⟨by kernel_rfl,by kernel_rfl⟩,?_⟩|refine ⟨by decide,?_⟩|refine lit_true ?_|refine lit_false ?_))
            refine back (i + 1, m, nx2 + 1) ⟨by dsimp only; omega, ?_⟩ (by dsimp only; omega) (ele_keep rfl rfl (.cons _ (List.Sublist.refl _)) .slnil ⟨AVle.refl _, AVle.refl _, AVle.refl _, AVle.refl _, le_int (wrap_succ (by omega)), trivial⟩)
            have h6 : ¬ (r.getD i (0, 0)).1 ≤ m.1 := not_of h5
            dsimp only
            rw [hs, if_neg h6]
          · (repeat ((conv=>whnf);first|refine ω0 ?_|refine ω1 ?_|refine ω2 ?_|refine ω3 ?_|refine ω4 rfl ?_|refine ω5 rfl ?_|refine ω6 ?_|refine ω7 ?_|refine ω8 ?_|refine ⟨rfl,?_⟩|refine ⟨trivial,?_⟩|refine ⟨⟨rfl,Nat.le_of_ble_eq_true rfl⟩,?_⟩|refine ⟨⟨by kernel_rfl,by kernel_rfl⟩,?_⟩|refine ⟨by decide,?_⟩|refine lit_true ?_|refine lit_false ?_))
            refine back (i + 1, r.getD i (0, 0), nx2 + 1) ⟨by dsimp only; omega, ?_⟩ (by dsimp only; omega) (ele_keep rfl rfl (.cons _ (List.Sublist.refl _)) .slnil ⟨AVle.refl _, AVle.refl _, AVle.refl _, AVle.refl _, le_int (wrap_succ (by omega)), trivial⟩)
            have h6 : (r.getD i (0, 0)).1 ≤ m.1 := yes_of h5
            dsimp only
            rw [hs, if_pos h6]
    · (repeat ((conv=>whnf);first|refine ω0 ?_|refine ω1 ?_|refine ω2 ?_|refine ω3 ?_|refine ω4 rfl ?_|refine ω5 rfl ?_|refine ω6 ?_|refine ω7 ?_|refine ω8 ?_|refine ⟨rfl,?_⟩|refine ⟨trivial,?_⟩|refine ⟨⟨rfl,Nat.le_of_ble_eq_true rfl⟩,?_⟩|refine ⟨⟨by kernel_rfl,by kernel_rfl⟩,?_⟩|refine ⟨by decide,?_⟩|refine lit_true ?_|refine lit_false ?_))
      (refine ret_tells_all rfl ?_ ?_; (· exact ⟨rfl, trivial⟩))
      rw [strictest, ← h1]
      exact AVle.refl _
end Go.Proofs.W

namespace Go.Proofs.W
open Go.Vl
set_option maxRecDepth 100000

/-- A kind's code, how great its number may be. -/
def kb (k : Nat) : Nat := [2147483648, 0, 196608, 327680, 2143289344, 2146435072, 2147221504, 2147418112].getD k 0
def km (k : Nat) : Nat := if k = 3 then 4095 else if k = 5 then 65535 else 0
def fits (v k : Nat) : Bool := decide (kb k ≤ v) && decide (v ≤ kb k + km k)
def fromI (v : Nat) : Option Nat := (List.range 8).find? (fits v)
def fromA (v : Nat) : A2 := match fromI v with
  | some k => ((k + 1 : Nat), (v - kb k : Nat))
  | none => (1, 0)
theorem row_kb (k : Nat) (h : k < 8) : ∃ s m, rowF rowsL k = .ag [.v (.string s), .v (.int .u32 (kb k)), m] ∧ Tells Try.prog 75 [rowF rowsL k] (int (km k)) := by
  have key := row_most k h
  rcases k with _ | _ | _ | _ | _ | _ | _ | _ | k
  · exact ⟨_, _, rfl, f27_nil _ _⟩
  · exact ⟨_, _, rfl, f27_nil _ _⟩
  · exact ⟨_, _, rfl, f27_nil _ _⟩
  · exact ⟨_, _, rfl, f27_below _ _ 4096 (by decide)⟩
  · exact ⟨_, _, rfl, f27_nil _ _⟩
  · exact ⟨_, _, rfl, f27_below _ _ 65536 (by decide)⟩
  · exact ⟨_, _, rfl, f27_nil _ _⟩
  · exact ⟨_, _, rfl, f27_nil _ _⟩
  · omega
theorem kb_le {k : Nat} (h : k < 8) : kb k + km k < 4294967296 := by
  rcases k with _ | _ | _ | _ | _ | _ | _ | _ | k
  all_goals first | decide | omega
theorem km_le {k : Nat} (h : k < 8) : km k < 65536 := by
  rcases k with _ | _ | _ | _ | _ | _ | _ | _ | k
  all_goals first | decide | omega
theorem fits_spec (v k : Nat) (hk : k < 8) (hv : v < 4294967296) (s : ByteArray) (m : AV) (hr : rowF rowsL k = .ag [.v (.string s), .v (.int .u32 (kb k)), m]) (hm : Tells Try.prog 75 [rowF rowsL k] (int (km k))) (hm2 : m = .v .nilFunc ∨ ∃ n, m = belowF n) :
    Tells Try.prog 74 [.ag [.v (.string s), .v (.int .u32 (kb k)), m], .rp [u32 v]] (boolA (fits v k)) := by
  rw [hr] at hm
  have h1 := kb_le hk
  have h2 := km_le hk
  have hfit : ∀ hle : kb k ≤ v, IntKind.u32.wrap ((v : Int) - (kb k : Int)) = ((v - kb k : Nat) : Int) := fun hle => by
    rw [show (v : Int) - (kb k : Int) = ((v - kb k : Nat) : Int) by omega]
    simp [IntKind.wrap, IntKind.signed, IntKind.bits]; omega
  have hkm : IntKind.u32.wrap (km k : Int) = ((km k : Nat) : Int) := by simp [IntKind.wrap, IntKind.signed, IntKind.bits]; omega
  refine tells_of_aw Try.func74 rfl rfl fun nx => ?_
  rcases hm2 with rfl | ⟨n', rfl⟩
  all_goals
    (repeat ((conv=>whnf);first|refine ω0 ?_|refine ω1 ?_|refine ω2 ?_|refine ω3 ?_|refine ω4 rfl ?_|refine ω5 rfl ?_|refine ω6 ?_|refine ω7 ?_|refine ω8 ?_|refine ⟨rfl,?_⟩|refine ⟨trivial,?_⟩|refine ⟨⟨rfl,Nat.le_of_ble_eq_true rfl⟩,?_⟩|refine ⟨⟨by kernel_rfl,by kernel_rfl⟩,?_⟩|refine ⟨by decide,?_⟩|refine lit_true ?_|refine lit_false ?_))
    (refine aw_draw 14 ?_ ?_ ?_ ?_; (· kernel_rfl); (· kernel_rfl); (· kernel_rfl))
    (repeat ((conv=>whnf);first|refine ω0 ?_|refine ω1 ?_|refine ω2 ?_|refine ω3 ?_|refine ω4 rfl ?_|refine ω5 rfl ?_|refine ω6 ?_|refine ω7 ?_|refine ω8 ?_|refine ⟨rfl,?_⟩|refine ⟨trivial,?_⟩|refine ⟨⟨rfl,Nat.le_of_ble_eq_true rfl⟩,?_⟩|refine ⟨⟨by kernel_rfl,by kernel_rfl⟩,?_⟩|refine ⟨by decide,?_⟩|refine lit_true ?_|refine lit_false ?_))
    intro c t1; cases c
    · (repeat ((conv=>whnf);first|refine ω0 ?_|refine ω1 ?_|refine ω2 ?_|refine ω3 ?_|refine ω4 rfl ?_|refine ω5 rfl ?_|refine ω6 ?_|refine ω7 ?_|refine ω8 ?_|refine ⟨rfl,?_⟩|refine ⟨trivial,?_⟩|refine ⟨⟨rfl,Nat.le_of_ble_eq_true rfl⟩,?_⟩|refine ⟨⟨by kernel_rfl,by kernel_rfl⟩,?_⟩|refine ⟨by decide,?_⟩|refine lit_true ?_|refine lit_false ?_))
      refine ret_tells rfl (le_bool ?_)
      simp only [fct_d0] at t1
      simp [fits]; omega
    · simp only [fct_d1] at t1
      have hle : kb k ≤ v := by omega
      have e1 := hfit hle
      (repeat ((conv=>whnf);first|refine ω0 ?_|refine ω1 ?_|refine ω2 ?_|refine ω3 ?_|refine ω4 rfl ?_|refine ω5 rfl ?_|refine ω6 ?_|refine ω7 ?_|refine ω8 ?_|refine ⟨rfl,?_⟩|refine ⟨trivial,?_⟩|refine ⟨⟨rfl,Nat.le_of_ble_eq_true rfl⟩,?_⟩|refine ⟨⟨by kernel_rfl,by kernel_rfl⟩,?_⟩|refine ⟨by decide,?_⟩|refine lit_true ?_|refine lit_false ?_))
      refine ex_yields (yields_tells rfl rfl hm ⟨AVle.refl _, trivial⟩ (NoId.v _)) ?_
      (repeat ((conv=>whnf);first|refine ω0 ?_|refine ω1 ?_|refine ω2 ?_|refine ω3 ?_|refine ω4 rfl ?_|refine ω5 rfl ?_|refine ω6 ?_|refine ω7 ?_|refine ω8 ?_|refine ⟨rfl,?_⟩|refine ⟨trivial,?_⟩|refine ⟨⟨rfl,Nat.le_of_ble_eq_true rfl⟩,?_⟩|refine ⟨⟨by kernel_rfl,by kernel_rfl⟩,?_⟩|refine ⟨by decide,?_⟩|refine lit_true ?_|refine lit_false ?_))
      intro c hc
      rw [e1, hkm] at hc
      cases c
      · (repeat ((conv=>whnf);first|refine ω0 ?_|refine ω1 ?_|refine ω2 ?_|refine ω3 ?_|refine ω4 rfl ?_|refine ω5 rfl ?_|refine ω6 ?_|refine ω7 ?_|refine ω8 ?_|refine ⟨rfl,?_⟩|refine ⟨trivial,?_⟩|refine ⟨⟨rfl,Nat.le_of_ble_eq_true rfl⟩,?_⟩|refine ⟨⟨by kernel_rfl,by kernel_rfl⟩,?_⟩|refine ⟨by decide,?_⟩|refine lit_true ?_|refine lit_false ?_))
        simp only [fct_d0] at hc
        refine ret_tells rfl (le_bool ?_)
        simp [fits]; omega
      · (repeat ((conv=>whnf);first|refine ω0 ?_|refine ω1 ?_|refine ω2 ?_|refine ω3 ?_|refine ω4 rfl ?_|refine ω5 rfl ?_|refine ω6 ?_|refine ω7 ?_|refine ω8 ?_|refine ⟨rfl,?_⟩|refine ⟨trivial,?_⟩|refine ⟨⟨rfl,Nat.le_of_ble_eq_true rfl⟩,?_⟩|refine ⟨⟨by kernel_rfl,by kernel_rfl⟩,?_⟩|refine ⟨by decide,?_⟩|refine lit_true ?_|refine lit_false ?_))
        simp only [fct_d1] at hc
        refine ret_tells rfl (le_bool ?_)
        simp [fits]; omega
end Go.Proofs.W

namespace Go.Proofs.W
open Go.Vl
set_option maxRecDepth 100000

def fromC (v : Nat) : AV := .fn (.func 74) [] [.rp [u32 v]]
theorem idxrow_spec (v : Nat) (hv : v < 4294967296) : Tells Try.prog 72 [rowsA, fromC v] (int (optI (fromI v))) := by
  refine tells_of_aw Try.func72 rfl rfl fun nx => ?_
  (repeat ((conv=>whnf);first|refine ω0 ?_|refine ω1 ?_|refine ω2 ?_|refine ω3 ?_|refine ω4 rfl ?_|refine ω5 rfl ?_|refine ω6 ?_|refine ω7 ?_|refine ω8 ?_|refine ⟨rfl,?_⟩|refine ⟨trivial,?_⟩|refine ⟨⟨rfl,Nat.le_of_ble_eq_true rfl⟩,?_⟩|refine ⟨⟨by kernel_rfl,by kernel_rfl⟩,?_⟩|refine ⟨by decide,?_⟩|refine lit_true ?_|refine lit_false ?_))
  refine aw_loop (fun s : Nat × Nat => mk 19 [(0, rowsA), (1, fromC v), (7, int 8), (8, int s.1)] ⟨[], [], s.2, 0⟩) (fun s => s.1 ≤ 8 ∧ ∀ j, j < s.1 → fits v j = false) (fun s => 8 - s.1) ?_ ?_
  · exact ⟨(0, nx), ⟨by simp, by intro j hj; simp at hj⟩, ele_mk rfl rfl ⟨AVle.refl _, AVle.refl _, AVle.refl _, AVle.refl _, trivial⟩⟩
  · rintro ⟨i, nx⟩ ⟨h1, h2⟩
    dsimp only at h1 h2
    by_cases hi : i < 8
    · obtain ⟨s, m, hr1, hr2⟩ := row_kb i hi
      obtain ⟨s', c', m', h3, h4, _⟩ := row_most i hi
      have hm : m = m' := by
        rw [hr1] at h3
        have := AV.ag.inj h3
        simp at this
        exact this.2.2
      rw [← hm] at h4
      have hT := fits_spec v i hi hv s m hr1 hr2 h4
      clear h3
      rcases h4 with rfl | ⟨n', rfl⟩
      all_goals
        (repeat ((conv=>whnf);first|refine ω0 ?_|refine ω1 ?_|refine ω2 ?_|refine ω3 ?_|refine ω4 rfl ?_|refine ω5 rfl ?_|refine ω6 ?_|refine ω7 ?_|refine ω8 ?_|refine ⟨rfl,?_⟩|refine ⟨trivial,?_⟩|refine ⟨⟨rfl,Nat.le_of_ble_eq_true rfl⟩,?_⟩|refine ⟨⟨by kernel_rfl,by kernel_rfl⟩,?_⟩|refine ⟨by decide,?_⟩|refine lit_true ?_|refine lit_false ?_))
        intro c h3; cases c
        · exact absurd (not_of h3) (by dsimp only; omega)
        (repeat ((conv=>whnf);first|refine ω0 ?_|refine ω1 ?_|refine ω2 ?_|refine ω3 ?_|refine ω4 rfl ?_|refine ω5 rfl ?_|refine ω6 ?_|refine ω7 ?_|refine ω8 ?_|refine ⟨rfl,?_⟩|refine ⟨trivial,?_⟩|refine ⟨⟨rfl,Nat.le_of_ble_eq_true rfl⟩,?_⟩|refine ⟨⟨by kernel_rfl,by kernel_rfl⟩,?_⟩|refine ⟨by decide,?_⟩|refine lit_true ?_|refine lit_false ?_))
        refine ⟨⟨by dsimp only; omega, by dsimp only; omega⟩, splitO_eq (b := .rp [.v (.string s), .v (.int .u32 (kb i)), _]) (by show AV.rp (rowF rowsL i).cells = _; rw [hr1]; rfl) ?_⟩
        (repeat ((conv=>whnf);first|refine ω0 ?_|refine ω1 ?_|refine ω2 ?_|refine ω3 ?_|refine ω4 rfl ?_|refine ω5 rfl ?_|refine ω6 ?_|refine ω7 ?_|refine ω8 ?_|refine ⟨rfl,?_⟩|refine ⟨trivial,?_⟩|refine ⟨⟨rfl,Nat.le_of_ble_eq_true rfl⟩,?_⟩|refine ⟨⟨by kernel_rfl,by kernel_rfl⟩,?_⟩|refine ⟨by decide,?_⟩|refine lit_true ?_|refine lit_false ?_))
        refine aop_tells rfl rfl hT ⟨AVle.refl _, AVle.refl _, trivial⟩ fun nx' => ?_
        intro c h4; cases c
        · (repeat ((conv=>whnf);first|refine ω0 ?_|refine ω1 ?_|refine ω2 ?_|refine ω3 ?_|refine ω4 rfl ?_|refine ω5 rfl ?_|refine ω6 ?_|refine ω7 ?_|refine ω8 ?_|refine ⟨rfl,?_⟩|refine ⟨trivial,?_⟩|refine ⟨⟨rfl,Nat.le_of_ble_eq_true rfl⟩,?_⟩|refine ⟨⟨by kernel_rfl,by kernel_rfl⟩,?_⟩|refine ⟨by decide,?_⟩|refine lit_true ?_|refine lit_false ?_))
          refine back (i + 1, nx') ⟨by dsimp only; omega, fun j hj => ?_⟩ (by dsimp only; omega) (ele_mk rfl rfl ⟨AVle.refl _, AVle.refl _, AVle.refl _, le_int (wrap_succ (by dsimp only; omega)), trivial⟩)
          dsimp only at hj
          rcases Nat.lt_or_ge j i with h | h
          · exact h2 j h
          · obtain rfl : j = i := by omega
            exact h4.symm
        · (repeat ((conv=>whnf);first|refine ω0 ?_|refine ω1 ?_|refine ω2 ?_|refine ω3 ?_|refine ω4 rfl ?_|refine ω5 rfl ?_|refine ω6 ?_|refine ω7 ?_|refine ω8 ?_|refine ⟨rfl,?_⟩|refine ⟨trivial,?_⟩|refine ⟨⟨rfl,Nat.le_of_ble_eq_true rfl⟩,?_⟩|refine ⟨⟨by kernel_rfl,by kernel_rfl⟩,?_⟩|refine ⟨by decide,?_⟩|refine lit_true ?_|refine lit_false ?_))
          refine ret_tells rfl (le_int ?_)
          have : fromI v = some i := by
            unfold fromI
            rw [List.find?_range_eq_some]
            exact ⟨h4.symm, by simp; omega, fun j hj => by rw [h2 j hj]; rfl⟩
          rw [this]; rfl
    · obtain rfl : i = 8 := by omega
      (repeat ((conv=>whnf);first|refine ω0 ?_|refine ω1 ?_|refine ω2 ?_|refine ω3 ?_|refine ω4 rfl ?_|refine ω5 rfl ?_|refine ω6 ?_|refine ω7 ?_|refine ω8 ?_|refine ⟨rfl,?_⟩|refine ⟨trivial,?_⟩|refine ⟨⟨rfl,Nat.le_of_ble_eq_true rfl⟩,?_⟩|refine ⟨⟨by kernel_rfl,by kernel_rfl⟩,?_⟩|refine ⟨by decide,?_⟩|refine lit_true ?_|refine lit_false ?_))
      refine ret_tells rfl (le_int ?_)
      have : fromI v = none := by
        unfold fromI
        rw [List.find?_range_eq_none]
        intro j hj
        rw [h2 j hj]; rfl
      rw [this]; rfl
def fromR (v : Nat) : A2 × Int := match fromI v with
  | some k => (((k + 1 : Nat), (v - kb k : Nat)), 0)
  | none => ((0, 0), 5)
theorem fromI_some {v k : Nat} (h : fromI v = some k) : k < 8 ∧ kb k ≤ v ∧ v ≤ kb k + km k := by
  unfold fromI at h
  rw [List.find?_range_eq_some] at h
  obtain ⟨h1, h2, _⟩ := h
  simp [fits] at h1 h2
  exact ⟨h2, h1.1, h1.2⟩
set_option maxHeartbeats 1000000 in
theorem from_some (v k : Nat) (hv : v < 4294967296) (hf : fromI v = some k) (hk : k < 8) (hle : kb k ≤ v) (s : ByteArray) (m : AV) (hr : rowF rowsL k = .ag [.v (.string s), .v (.int .u32 (kb k)), m]) (hm2 : m = .v .nilFunc ∨ ∃ n, m = belowF n) :
    Tells Try.prog 41 [u32 v] (.tup [act (k + 1 : Nat) (v - kb k : Nat), int 0]) := by
  have hx := idxrow_spec v hv
  rw [hf] at hx
  have ho := f26_in k hk
  rw [hr] at ho
  have e1 : IntKind.u32.wrap ((v : Int) - (kb k : Int)) = ((v - kb k : Nat) : Int) := by
    rw [show (v : Int) - (kb k : Int) = ((v - kb k : Nat) : Int) by omega]
    simp [IntKind.wrap, IntKind.signed, IntKind.bits]; omega
  have e2 : IntKind.i64.wrap ((v - kb k : Nat) : Int) = ((v - kb k : Nat) : Int) := wrap_id (by omega) (by omega)
  rcases hm2 with rfl | ⟨n', rfl⟩
  all_goals
    refine tells_of_aw Try.func41 rfl rfl fun nx => ?_
    ((repeat ((conv=>whnf);first|refine ω0 ?_|refine ω2 ?_|refine ω3 ?_|refine ω4 rfl ?_|refine ω5 rfl ?_|refine ω6 ?_|refine ω7 ?_|refine ω8 ?_|refine ⟨rfl,?_⟩|refine ⟨trivial,?_⟩|refine ⟨⟨rfl,Nat.le_of_ble_eq_true rfl⟩,?_⟩|refine ⟨⟨by kernel_rfl,by kernel_rfl⟩,?_⟩|refine ⟨by decide,?_⟩|refine lit_true ?_|refine lit_false ?_)); refine aw_region ?_; (repeat ((conv=>whnf);first|refine ω0 ?_|refine ω2 ?_|refine ω3 ?_|refine ω4 rfl ?_|refine ω5 rfl ?_|refine ω6 ?_|refine ω7 ?_|refine ω8 ?_|refine ⟨rfl,?_⟩|refine ⟨trivial,?_⟩|refine ⟨⟨rfl,Nat.le_of_ble_eq_true rfl⟩,?_⟩|refine ⟨⟨by kernel_rfl,by kernel_rfl⟩,?_⟩|refine ⟨by decide,?_⟩|refine lit_true ?_|refine lit_false ?_)))
    refine aw_freeze (n := 26) (nx := nx + 2) (nn := 2) (pm := []) (bx := [((1, nx + 1), .c [int 0, int 0])]) (L := [(1, .rp [u32 v]), (2, .bp (1, nx + 1) 0), (3, int 0)]) (df := some []) [((0, nx), .c [u32 v])] rfl rfl rfl (List.Perm.swap _ _ _) (List.Sublist.refl _) ⟨Frz.bp (.head _) rfl, Frz.refl _, Frz.refl _, trivial⟩ ?_
    (repeat ((conv=>whnf);first|refine ω0 ?_|refine ω1 ?_|refine ω2 ?_|refine ω3 ?_|refine ω4 rfl ?_|refine ω5 rfl ?_|refine ω6 ?_|refine ω7 ?_|refine ω8 ?_|refine ⟨rfl,?_⟩|refine ⟨trivial,?_⟩|refine ⟨⟨rfl,Nat.le_of_ble_eq_true rfl⟩,?_⟩|refine ⟨⟨by kernel_rfl,by kernel_rfl⟩,?_⟩|refine ⟨by decide,?_⟩|refine lit_true ?_|refine lit_false ?_))
    refine aop_tells rfl rfl f28_spec trivial fun nx1 => ?_
    (repeat ((conv=>whnf);first|refine ω0 ?_|refine ω1 ?_|refine ω2 ?_|refine ω3 ?_|refine ω4 rfl ?_|refine ω5 rfl ?_|refine ω6 ?_|refine ω7 ?_|refine ω8 ?_|refine ⟨rfl,?_⟩|refine ⟨trivial,?_⟩|refine ⟨⟨rfl,Nat.le_of_ble_eq_true rfl⟩,?_⟩|refine ⟨⟨by kernel_rfl,by kernel_rfl⟩,?_⟩|refine ⟨by decide,?_⟩|refine lit_true ?_|refine lit_false ?_))
    refine aop_tells rfl rfl hx ⟨AVle.refl _, AVle.refl _, trivial⟩ fun nx2 => ?_
    (repeat ((conv=>whnf);first|refine ω0 ?_|refine ω1 ?_|refine ω2 ?_|refine ω3 ?_|refine ω4 rfl ?_|refine ω5 rfl ?_|refine ω6 ?_|refine ω7 ?_|refine ω8 ?_|refine ⟨rfl,?_⟩|refine ⟨trivial,?_⟩|refine ⟨⟨rfl,Nat.le_of_ble_eq_true rfl⟩,?_⟩|refine ⟨⟨by kernel_rfl,by kernel_rfl⟩,?_⟩|refine ⟨by decide,?_⟩|refine lit_true ?_|refine lit_false ?_))
    refine aop_tells rfl rfl ho ⟨le_int (by show IntKind.i64.wrap (1 + (k : Int)) = _; rw [wrap_id (by omega) (by omega)]; omega), trivial⟩ fun nx3 => ?_
    (repeat ((conv=>whnf);first|refine ω0 ?_|refine ω1 ?_|refine ω2 ?_|refine ω3 ?_|refine ω4 rfl ?_|refine ω5 rfl ?_|refine ω6 ?_|refine ω7 ?_|refine ω8 ?_|refine ⟨rfl,?_⟩|refine ⟨trivial,?_⟩|refine ⟨⟨rfl,Nat.le_of_ble_eq_true rfl⟩,?_⟩|refine ⟨⟨by kernel_rfl,by kernel_rfl⟩,?_⟩|refine ⟨by decide,?_⟩|refine lit_true ?_|refine lit_false ?_))
    refine ret_tells_all rfl ⟨rfl, trivial⟩ (AVle.tups ⟨AVle.ags ⟨le_int ?_, le_int ?_, trivial⟩, AVle.refl _, trivial⟩)
    · show IntKind.i64.wrap (1 + (k : Int)) = _
      rw [wrap_id (by omega) (by omega)]; omega
    · show IntKind.i64.wrap (IntKind.u32.wrap ((v : Int) - (kb k : Int))) = _
      rw [e1, e2]
theorem from_spec (v : Nat) (hv : v < 4294967296) : Tells Try.prog 41 [u32 v] (.tup [actP (fromR v).1, int (fromR v).2]) := by
  cases hf : fromI v with
  | some k =>
    obtain ⟨hk, hle, hle2⟩ := fromI_some hf
    obtain ⟨s, m, hr1, hr2⟩ := row_kb k hk
    obtain ⟨s', c', m', h3, h4, _⟩ := row_most k hk
    have hm : m = m' := by
      rw [hr1] at h3
      have := AV.ag.inj h3
      simp at this
      exact this.2.2
    rw [← hm] at h4
    have := from_some v k hv hf hk hle s m hr1 h4
    rw [show fromR v = ((((k + 1 : Nat) : Int), ((v - kb k : Nat) : Int)), 0) by simp [fromR, hf]]
    exact this
  | none =>
    have hx := idxrow_spec v hv
    rw [hf] at hx
    rw [show fromR v = ((0, 0), 5) by simp [fromR, hf]]
    refine tells_of_aw Try.func41 rfl rfl fun nx => ?_
    ((repeat ((conv=>whnf);first|refine ω0 ?_|refine ω2 ?_|refine ω3 ?_|refine ω4 rfl ?_|refine ω5 rfl ?_|refine ω6 ?_|refine ω7 ?_|refine ω8 ?_|refine ⟨rfl,?_⟩|refine ⟨trivial,?_⟩|refine ⟨⟨rfl,Nat.le_of_ble_eq_true rfl⟩,?_⟩|refine ⟨⟨by kernel_rfl,by kernel_rfl⟩,?_⟩|refine ⟨by decide,?_⟩|refine lit_true ?_|refine lit_false ?_)); refine aw_region ?_; (repeat ((conv=>whnf);first|refine ω0 ?_|refine ω2 ?_|refine ω3 ?_|refine ω4 rfl ?_|refine ω5 rfl ?_|refine ω6 ?_|refine ω7 ?_|refine ω8 ?_|refine ⟨rfl,?_⟩|refine ⟨trivial,?_⟩|refine ⟨⟨rfl,Nat.le_of_ble_eq_true rfl⟩,?_⟩|refine ⟨⟨by kernel_rfl,by kernel_rfl⟩,?_⟩|refine ⟨by decide,?_⟩|refine lit_true ?_|refine lit_false ?_)))
    refine aw_freeze (n := 26) (nx := nx + 2) (nn := 2) (pm := []) (bx := [((1, nx + 1), .c [int 0, int 0])]) (L := [(1, .rp [u32 v]), (2, .bp (1, nx + 1) 0), (3, int 0)]) (df := some []) [((0, nx), .c [u32 v])] rfl rfl rfl (List.Perm.swap _ _ _) (List.Sublist.refl _) ⟨Frz.bp (.head _) rfl, Frz.refl _, Frz.refl _, trivial⟩ ?_
    (repeat ((conv=>whnf);first|refine ω0 ?_|refine ω1 ?_|refine ω2 ?_|refine ω3 ?_|refine ω4 rfl ?_|refine ω5 rfl ?_|refine ω6 ?_|refine ω7 ?_|refine ω8 ?_|refine ⟨rfl,?_⟩|refine ⟨trivial,?_⟩|refine ⟨⟨rfl,Nat.le_of_ble_eq_true rfl⟩,?_⟩|refine ⟨⟨by kernel_rfl,by kernel_rfl⟩,?_⟩|refine ⟨by decide,?_⟩|refine lit_true ?_|refine lit_false ?_))
    refine aop_tells rfl rfl f28_spec trivial fun nx1 => ?_
    (repeat ((conv=>whnf);first|refine ω0 ?_|refine ω1 ?_|refine ω2 ?_|refine ω3 ?_|refine ω4 rfl ?_|refine ω5 rfl ?_|refine ω6 ?_|refine ω7 ?_|refine ω8 ?_|refine ⟨rfl,?_⟩|refine ⟨trivial,?_⟩|refine ⟨⟨rfl,Nat.le_of_ble_eq_true rfl⟩,?_⟩|refine ⟨⟨by kernel_rfl,by kernel_rfl⟩,?_⟩|refine ⟨by decide,?_⟩|refine lit_true ?_|refine lit_false ?_))
    refine aop_tells rfl rfl hx ⟨AVle.refl _, AVle.refl _, trivial⟩ fun nx2 => ?_
    (repeat ((conv=>whnf);first|refine ω0 ?_|refine ω1 ?_|refine ω2 ?_|refine ω3 ?_|refine ω4 rfl ?_|refine ω5 rfl ?_|refine ω6 ?_|refine ω7 ?_|refine ω8 ?_|refine ⟨rfl,?_⟩|refine ⟨trivial,?_⟩|refine ⟨⟨rfl,Nat.le_of_ble_eq_true rfl⟩,?_⟩|refine ⟨⟨by kernel_rfl,by kernel_rfl⟩,?_⟩|refine ⟨by decide,?_⟩|refine lit_true ?_|refine lit_false ?_))
    refine aop_tells rfl rfl (f26_out 0 (by omega)) ⟨AVle.refl _, trivial⟩ fun nx3 => ?_
    (repeat ((conv=>whnf);first|refine ω0 ?_|refine ω1 ?_|refine ω2 ?_|refine ω3 ?_|refine ω4 rfl ?_|refine ω5 rfl ?_|refine ω6 ?_|refine ω7 ?_|refine ω8 ?_|refine ⟨rfl,?_⟩|refine ⟨trivial,?_⟩|refine ⟨⟨rfl,Nat.le_of_ble_eq_true rfl⟩,?_⟩|refine ⟨⟨by kernel_rfl,by kernel_rfl⟩,?_⟩|refine ⟨by decide,?_⟩|refine lit_true ?_|refine lit_false ?_))
    exact ret_tells_all rfl ⟨rfl, trivial⟩ (AVle.refl _)
end Go.Proofs.W

namespace Go.Proofs.W
open Go.Vl
set_option maxRecDepth 100000

theorem le_u32' {a b : Int} (h : a = b) : AVle (.v (.int .u32 a)) (u32 b) := h ▸ AVle.refl _
theorem build9 : abuildCells Try.prog 33 9 [(0, int 0), (1, int 2147483648), (2, int 0), (3, int 196608), (4, int 327680), (5, int 2143289344), (6, int 2146435072), (7, int 2147221504), (8, int 2147418112)] = some (3, [int 0, int 2147483648, int 0, int 196608, int 327680, int 2143289344, int 2146435072, int 2147221504, int 2147418112]) := by kernel_rfl
theorem base_spec (k : Nat) (hk : k < 8) : Tells Try.prog 39 [int (k + 1 : Nat)] (int (kb k)) := by
  refine tells_of_aw Try.func39 rfl rfl fun nx => ?_
  ((repeat ((conv=>whnf);first|refine ω0 ?_|refine ω2 ?_|refine ω3 ?_|refine ω4 rfl ?_|refine ω5 rfl ?_|refine ω6 ?_|refine ω7 ?_|refine ω8 ?_|refine ⟨rfl,?_⟩|refine ⟨trivial,?_⟩|refine ⟨⟨rfl,Nat.le_of_ble_eq_true rfl⟩,?_⟩|refine ⟨⟨by kernel_rfl,by kernel_rfl⟩,?_⟩|refine ⟨by decide,?_⟩|refine lit_true ?_|refine lit_false ?_)); refine aw_region ?_; (repeat ((conv=>whnf);first|refine ω0 ?_|refine ω2 ?_|refine ω3 ?_|refine ω4 rfl ?_|refine ω5 rfl ?_|refine ω6 ?_|refine ω7 ?_|refine ω8 ?_|refine ⟨rfl,?_⟩|refine ⟨trivial,?_⟩|refine ⟨⟨rfl,Nat.le_of_ble_eq_true rfl⟩,?_⟩|refine ⟨⟨by kernel_rfl,by kernel_rfl⟩,?_⟩|refine ⟨by decide,?_⟩|refine lit_true ?_|refine lit_false ?_)))
  refine aw_regionY (fun n => match n with | 0 => true | _ => false) 1 ?_
  refine aop_build rfl build9 ?_
  (repeat ((conv=>whnf);first|refine ω0 ?_|refine ω1 ?_|refine ω2 ?_|refine ω3 ?_|refine ω4 rfl ?_|refine ω5 rfl ?_|refine ω6 ?_|refine ω7 ?_|refine ω8 ?_|refine ⟨rfl,?_⟩|refine ⟨trivial,?_⟩|refine ⟨⟨rfl,Nat.le_of_ble_eq_true rfl⟩,?_⟩|refine ⟨⟨by kernel_rfl,by kernel_rfl⟩,?_⟩|refine ⟨by decide,?_⟩|refine lit_true ?_|refine lit_false ?_))
  refine ⟨⟨by omega, by omega⟩, ?_⟩
  rcases k with _ | _ | _ | _ | _ | _ | _ | _ | k
  iterate 8
    · (repeat ((conv=>whnf);first|refine ω0 ?_|refine ω1 ?_|refine ω2 ?_|refine ω3 ?_|refine ω4 rfl ?_|refine ω5 rfl ?_|refine ω6 ?_|refine ω7 ?_|refine ω8 ?_|refine ⟨rfl,?_⟩|refine ⟨trivial,?_⟩|refine ⟨⟨rfl,Nat.le_of_ble_eq_true rfl⟩,?_⟩|refine ⟨⟨by kernel_rfl,by kernel_rfl⟩,?_⟩|refine ⟨by decide,?_⟩|refine lit_true ?_|refine lit_false ?_))
      exact ret_tells rfl (AVle.refl _)
  omega
theorem most09_spec (k : Nat) (hk : k < 8) : Tells Try.prog 40 [int (k + 1 : Nat)] (int (km k)) := by
  rw [show ((km k : Nat) : Int) = most9 ((k + 1 : Nat) : Int) by
    rcases k with _ | _ | _ | _ | _ | _ | _ | _ | k
    all_goals first | decide | omega]
  exact most9_spec _
theorem code_spec9 (k n : Nat) (hk : k < 8) (hn : n ≤ km k) : Tells Try.prog 43 [act (k + 1 : Nat) n] (.tup [u32 (kb k + n : Nat), int 0]) := by
  obtain ⟨s, m, hr1, hr2⟩ := row_kb k hk
  obtain ⟨s', c', m', h3, h4, _⟩ := row_most k hk
  have hm : m = m' := by
    rw [hr1] at h3
    have := AV.ag.inj h3
    simp at this
    exact this.2.2
  rw [← hm] at h4
  clear h3
  have hle := kb_le hk
  have ho := f26_in k hk
  rw [hr1] at ho
  have hR := f22_spec ((k + 1 : Nat) : Int) (n : Int)
  have hkm : ((km k : Nat) : Int) = most9 ((k + 1 : Nat) : Int) := by
    clear hr1 hr2 h4 hle ho hR hn
    rcases k with _ | _ | _ | _ | _ | _ | _ | _ | k
    all_goals first | decide | omega
  rw [show right9 ((k + 1 : Nat) : Int) (n : Int) = true by unfold right9; rw [← hkm]; simp; omega] at hR
  have e1 : IntKind.u32.wrap (n : Int) = (n : Int) := by simp [IntKind.wrap, IntKind.signed, IntKind.bits]; omega
  have e2 : IntKind.u32.wrap ((kb k : Int) + (n : Int)) = ((kb k + n : Nat) : Int) := by
    rw [show (kb k : Int) + (n : Int) = ((kb k + n : Nat) : Int) by omega]
    simp [IntKind.wrap, IntKind.signed, IntKind.bits]; omega
  rcases h4 with rfl | ⟨n', rfl⟩
  all_goals
    refine tells_of_aw Try.func43 rfl rfl fun nx => ?_
    (repeat ((conv=>whnf);first|refine ω0 ?_|refine ω1 ?_|refine ω2 ?_|refine ω3 ?_|refine ω4 rfl ?_|refine ω5 rfl ?_|refine ω6 ?_|refine ω7 ?_|refine ω8 ?_|refine ⟨rfl,?_⟩|refine ⟨trivial,?_⟩|refine ⟨⟨rfl,Nat.le_of_ble_eq_true rfl⟩,?_⟩|refine ⟨⟨by kernel_rfl,by kernel_rfl⟩,?_⟩|refine ⟨by decide,?_⟩|refine lit_true ?_|refine lit_false ?_))
    refine aop_tells rfl rfl hR ⟨AVle.refl _, trivial⟩ fun nx1 => ?_
    (repeat ((conv=>whnf);first|refine ω0 ?_|refine ω1 ?_|refine ω2 ?_|refine ω3 ?_|refine ω4 rfl ?_|refine ω5 rfl ?_|refine ω6 ?_|refine ω7 ?_|refine ω8 ?_|refine ⟨rfl,?_⟩|refine ⟨trivial,?_⟩|refine ⟨⟨rfl,Nat.le_of_ble_eq_true rfl⟩,?_⟩|refine ⟨⟨by kernel_rfl,by kernel_rfl⟩,?_⟩|refine ⟨by decide,?_⟩|refine lit_true ?_|refine lit_false ?_))
    refine aop_tells rfl rfl ho ⟨AVle.refl _, trivial⟩ fun nx2 => ?_
    (repeat ((conv=>whnf);first|refine ω0 ?_|refine ω1 ?_|refine ω2 ?_|refine ω3 ?_|refine ω4 rfl ?_|refine ω5 rfl ?_|refine ω6 ?_|refine ω7 ?_|refine ω8 ?_|refine ⟨rfl,?_⟩|refine ⟨trivial,?_⟩|refine ⟨⟨rfl,Nat.le_of_ble_eq_true rfl⟩,?_⟩|refine ⟨⟨by kernel_rfl,by kernel_rfl⟩,?_⟩|refine ⟨by decide,?_⟩|refine lit_true ?_|refine lit_false ?_))
    refine ret_tells rfl (AVle.tups ⟨le_u32' ?_, AVle.refl _, trivial⟩)
    show IntKind.u32.wrap ((kb k : Int) + IntKind.u32.wrap (n : Int)) = _
    rw [e1, e2]
theorem rcode_spec (k n : Nat) (hk : k < 8) (hn : n ≤ km k) : Tells Try.prog 13 [act (k + 1 : Nat) n] (int (kb k + n : Nat)) := by
  have hle := kb_le hk
  refine tells_of_aw Try.func13 rfl rfl fun nx => ?_
  (repeat ((conv=>whnf);first|refine ω0 ?_|refine ω1 ?_|refine ω2 ?_|refine ω3 ?_|refine ω4 rfl ?_|refine ω5 rfl ?_|refine ω6 ?_|refine ω7 ?_|refine ω8 ?_|refine ⟨rfl,?_⟩|refine ⟨trivial,?_⟩|refine ⟨⟨rfl,Nat.le_of_ble_eq_true rfl⟩,?_⟩|refine ⟨⟨by kernel_rfl,by kernel_rfl⟩,?_⟩|refine ⟨by decide,?_⟩|refine lit_true ?_|refine lit_false ?_))
  (refine aw_draw 6 ?_ ?_ ?_ ?_; (· kernel_rfl); (· kernel_rfl); (· kernel_rfl))
  (repeat ((conv=>whnf);first|refine ω0 ?_|refine ω1 ?_|refine ω2 ?_|refine ω3 ?_|refine ω4 rfl ?_|refine ω5 rfl ?_|refine ω6 ?_|refine ω7 ?_|refine ω8 ?_|refine ⟨rfl,?_⟩|refine ⟨trivial,?_⟩|refine ⟨⟨rfl,Nat.le_of_ble_eq_true rfl⟩,?_⟩|refine ⟨⟨by kernel_rfl,by kernel_rfl⟩,?_⟩|refine ⟨by decide,?_⟩|refine lit_true ?_|refine lit_false ?_))
  refine ex_yields (yields_tells rfl rfl (base_spec k hk) ⟨AVle.refl _, trivial⟩ (NoId.v _)) ?_
  (repeat ((conv=>whnf);first|refine ω0 ?_|refine ω1 ?_|refine ω2 ?_|refine ω3 ?_|refine ω4 rfl ?_|refine ω5 rfl ?_|refine ω6 ?_|refine ω7 ?_|refine ω8 ?_|refine ⟨rfl,?_⟩|refine ⟨trivial,?_⟩|refine ⟨⟨rfl,Nat.le_of_ble_eq_true rfl⟩,?_⟩|refine ⟨⟨by kernel_rfl,by kernel_rfl⟩,?_⟩|refine ⟨by decide,?_⟩|refine lit_true ?_|refine lit_false ?_))
  refine ret_tells rfl (le_int ?_)
  rw [wrap_id (by omega) (by omega)]
  omega
end Go.Proofs.W

namespace Go.Proofs.W
open Go.Vl
set_option maxRecDepth 100000

def fromQ (v : Nat) : A2 := match fromI v with
  | some k => (((k + 1 : Nat) : Int), ((v - kb k : Nat) : Int))
  | none => (0, 0)
theorem rfrom_spec (v : Nat) (hv : v < 4294967296) : Tells Try.prog 10 [int v] (actP (fromQ v)) := by
  refine tells_of_aw Try.func10 rfl rfl fun nx => ?_
  (repeat ((conv=>whnf);first|refine ω0 ?_|refine ω1 ?_|refine ω2 ?_|refine ω3 ?_|refine ω4 rfl ?_|refine ω5 rfl ?_|refine ω6 ?_|refine ω7 ?_|refine ω8 ?_|refine ⟨rfl,?_⟩|refine ⟨trivial,?_⟩|refine ⟨⟨rfl,Nat.le_of_ble_eq_true rfl⟩,?_⟩|refine ⟨⟨by kernel_rfl,by kernel_rfl⟩,?_⟩|refine ⟨by decide,?_⟩|refine lit_true ?_|refine lit_false ?_))
  refine aw_loop (fun s : Nat × Nat => mk 28 [(0, int v), (2, .bp (0, nx) 0), (3, int (s.1 + 1 : Nat))] ⟨[((0, nx), .c [int 0, int 0])], [], s.2, 1⟩) (fun s => s.1 ≤ 8 ∧ ∀ j, j < s.1 → fits v j = false) (fun s => 8 - s.1) ?_ ?_
  · exact ⟨(0, nx + 1), ⟨by simp, by intro j hj; simp at hj⟩, ele_tell (pm := []) _ [] rfl rfl (List.Sublist.refl _) (List.Sublist.refl _) ⟨rfl, OwnLe.refl _, trivial⟩ trivial ⟨AVle.refl _, AVle.refl _, AVle.refl _, trivial⟩⟩
  · rintro ⟨i, nx1⟩ ⟨h1, h2⟩
    dsimp only at h1 h2
    (repeat ((conv=>whnf);first|refine ω0 ?_|refine ω1 ?_|refine ω2 ?_|refine ω3 ?_|refine ω4 rfl ?_|refine ω5 rfl ?_|refine ω6 ?_|refine ω7 ?_|refine ω8 ?_|refine ⟨rfl,?_⟩|refine ⟨trivial,?_⟩|refine ⟨⟨rfl,Nat.le_of_ble_eq_true rfl⟩,?_⟩|refine ⟨⟨by kernel_rfl,by kernel_rfl⟩,?_⟩|refine ⟨by decide,?_⟩|refine lit_true ?_|refine lit_false ?_))
    intro c h3; cases c
    · have h3 := not_of h3
      dsimp only at h3
      have : fromI v = none := by
        unfold fromI
        rw [List.find?_range_eq_none]
        intro j hj
        rw [h2 j (by omega)]; rfl
      have hq : fromQ v = (0, 0) := by rw [fromQ, this]
      (repeat ((conv=>whnf);first|refine ω0 ?_|refine ω1 ?_|refine ω2 ?_|refine ω3 ?_|refine ω4 rfl ?_|refine ω5 rfl ?_|refine ω6 ?_|refine ω7 ?_|refine ω8 ?_|refine ⟨rfl,?_⟩|refine ⟨trivial,?_⟩|refine ⟨⟨rfl,Nat.le_of_ble_eq_true rfl⟩,?_⟩|refine ⟨⟨by kernel_rfl,by kernel_rfl⟩,?_⟩|refine ⟨by decide,?_⟩|refine lit_true ?_|refine lit_false ?_))
      rw [hq]
      exact ret_tells_all rfl ⟨rfl, trivial⟩ (AVle.refl _)
    · have h3 := yes_of h3
      dsimp only at h3
      have hi : i < 8 := by omega
      have hle := kb_le hi
      have hlk := km_le hi
      (repeat ((conv=>whnf);first|refine ω0 ?_|refine ω1 ?_|refine ω2 ?_|refine ω3 ?_|refine ω4 rfl ?_|refine ω5 rfl ?_|refine ω6 ?_|refine ω7 ?_|refine ω8 ?_|refine ⟨rfl,?_⟩|refine ⟨trivial,?_⟩|refine ⟨⟨rfl,Nat.le_of_ble_eq_true rfl⟩,?_⟩|refine ⟨⟨by kernel_rfl,by kernel_rfl⟩,?_⟩|refine ⟨by decide,?_⟩|refine lit_true ?_|refine lit_false ?_))
      refine aop_tells rfl rfl (base_spec i hi) ⟨AVle.refl _, trivial⟩ fun nx2 => ?_
      (repeat ((conv=>whnf);first|refine ω0 ?_|refine ω1 ?_|refine ω2 ?_|refine ω3 ?_|refine ω4 rfl ?_|refine ω5 rfl ?_|refine ω6 ?_|refine ω7 ?_|refine ω8 ?_|refine ⟨rfl,?_⟩|refine ⟨trivial,?_⟩|refine ⟨⟨rfl,Nat.le_of_ble_eq_true rfl⟩,?_⟩|refine ⟨⟨by kernel_rfl,by kernel_rfl⟩,?_⟩|refine ⟨by decide,?_⟩|refine lit_true ?_|refine lit_false ?_))
      intro c h4; cases c
      · simp only [fct_d0] at h4
        (repeat ((conv=>whnf);first|refine ω0 ?_|refine ω1 ?_|refine ω2 ?_|refine ω3 ?_|refine ω4 rfl ?_|refine ω5 rfl ?_|refine ω6 ?_|refine ω7 ?_|refine ω8 ?_|refine ⟨rfl,?_⟩|refine ⟨trivial,?_⟩|refine ⟨⟨rfl,Nat.le_of_ble_eq_true rfl⟩,?_⟩|refine ⟨⟨by kernel_rfl,by kernel_rfl⟩,?_⟩|refine ⟨by decide,?_⟩|refine lit_true ?_|refine lit_false ?_))
        refine back (i + 1, nx2) ⟨by dsimp only; omega, fun j hj => ?_⟩ (by dsimp only; omega) (ele_tell (pm := []) _ [] rfl rfl (List.Sublist.refl _) (List.Sublist.refl _) ⟨rfl, OwnLe.refl _, trivial⟩ trivial ⟨AVle.refl _, AVle.refl _, le_int (wrap_succ (by dsimp only; omega)), trivial⟩)
        dsimp only at hj
        rcases Nat.lt_or_ge j i with h | h
        · exact h2 j h
        · obtain rfl : j = i := by omega
          simp [fits]; omega
      · simp only [fct_d1] at h4
        (repeat ((conv=>whnf);first|refine ω0 ?_|refine ω1 ?_|refine ω2 ?_|refine ω3 ?_|refine ω4 rfl ?_|refine ω5 rfl ?_|refine ω6 ?_|refine ω7 ?_|refine ω8 ?_|refine ⟨rfl,?_⟩|refine ⟨trivial,?_⟩|refine ⟨⟨rfl,Nat.le_of_ble_eq_true rfl⟩,?_⟩|refine ⟨⟨by kernel_rfl,by kernel_rfl⟩,?_⟩|refine ⟨by decide,?_⟩|refine lit_true ?_|refine lit_false ?_))
        refine aop_tells rfl rfl (base_spec i hi) ⟨AVle.refl _, trivial⟩ fun nx3 => ?_
        (repeat ((conv=>whnf);first|refine ω0 ?_|refine ω1 ?_|refine ω2 ?_|refine ω3 ?_|refine ω4 rfl ?_|refine ω5 rfl ?_|refine ω6 ?_|refine ω7 ?_|refine ω8 ?_|refine ⟨rfl,?_⟩|refine ⟨trivial,?_⟩|refine ⟨⟨rfl,Nat.le_of_ble_eq_true rfl⟩,?_⟩|refine ⟨⟨by kernel_rfl,by kernel_rfl⟩,?_⟩|refine ⟨by decide,?_⟩|refine lit_true ?_|refine lit_false ?_))
        refine aop_tells rfl rfl (most09_spec i hi) ⟨AVle.refl _, trivial⟩ fun nx4 => ?_
        (repeat ((conv=>whnf);first|refine ω0 ?_|refine ω1 ?_|refine ω2 ?_|refine ω3 ?_|refine ω4 rfl ?_|refine ω5 rfl ?_|refine ω6 ?_|refine ω7 ?_|refine ω8 ?_|refine ⟨rfl,?_⟩|refine ⟨trivial,?_⟩|refine ⟨⟨rfl,Nat.le_of_ble_eq_true rfl⟩,?_⟩|refine ⟨⟨by kernel_rfl,by kernel_rfl⟩,?_⟩|refine ⟨by decide,?_⟩|refine lit_true ?_|refine lit_false ?_))
        intro c hc
        rw [wrap_id (by omega) (by omega)] at hc
        cases c
        · simp only [fct_d0] at hc
          (repeat ((conv=>whnf);first|refine ω0 ?_|refine ω1 ?_|refine ω2 ?_|refine ω3 ?_|refine ω4 rfl ?_|refine ω5 rfl ?_|refine ω6 ?_|refine ω7 ?_|refine ω8 ?_|refine ⟨rfl,?_⟩|refine ⟨trivial,?_⟩|refine ⟨⟨rfl,Nat.le_of_ble_eq_true rfl⟩,?_⟩|refine ⟨⟨by kernel_rfl,by kernel_rfl⟩,?_⟩|refine ⟨by decide,?_⟩|refine lit_true ?_|refine lit_false ?_))
          refine back (i + 1, nx4) ⟨by dsimp only; omega, fun j hj => ?_⟩ (by dsimp only; omega) (ele_tell (pm := []) _ [] rfl rfl (List.Sublist.refl _) (List.Sublist.refl _) ⟨rfl, OwnLe.refl _, trivial⟩ trivial ⟨AVle.refl _, AVle.refl _, le_int (wrap_succ (by dsimp only; omega)), trivial⟩)
          dsimp only at hj
          rcases Nat.lt_or_ge j i with h | h
          · exact h2 j h
          · obtain rfl : j = i := by omega
            simp [fits]; omega
        · simp only [fct_d1] at hc
          have hf : fits v i = true := by simp [fits]; omega
          have hfi : fromI v = some i := by
            unfold fromI
            rw [List.find?_range_eq_some]
            exact ⟨hf, by simp; omega, fun j hj => by rw [h2 j hj]; rfl⟩
          have hq : fromQ v = (((i + 1 : Nat) : Int), ((v - kb i : Nat) : Int)) := by rw [fromQ, hfi]
          (repeat ((conv=>whnf);first|refine ω0 ?_|refine ω1 ?_|refine ω2 ?_|refine ω3 ?_|refine ω4 rfl ?_|refine ω5 rfl ?_|refine ω6 ?_|refine ω7 ?_|refine ω8 ?_|refine ⟨rfl,?_⟩|refine ⟨trivial,?_⟩|refine ⟨⟨rfl,Nat.le_of_ble_eq_true rfl⟩,?_⟩|refine ⟨⟨by kernel_rfl,by kernel_rfl⟩,?_⟩|refine ⟨by decide,?_⟩|refine lit_true ?_|refine lit_false ?_))
          refine aop_tells rfl rfl (base_spec i hi) ⟨AVle.refl _, trivial⟩ fun nx5 => ?_
          (repeat ((conv=>whnf);first|refine ω0 ?_|refine ω1 ?_|refine ω2 ?_|refine ω3 ?_|refine ω4 rfl ?_|refine ω5 rfl ?_|refine ω6 ?_|refine ω7 ?_|refine ω8 ?_|refine ⟨rfl,?_⟩|refine ⟨trivial,?_⟩|refine ⟨⟨rfl,Nat.le_of_ble_eq_true rfl⟩,?_⟩|refine ⟨⟨by kernel_rfl,by kernel_rfl⟩,?_⟩|refine ⟨by decide,?_⟩|refine lit_true ?_|refine lit_false ?_))
          rw [hq]
          refine ret_tells_all rfl ⟨rfl, trivial⟩ (AVle.ags ⟨AVle.refl _, le_int ?_, trivial⟩)
          show IntKind.i64.wrap ((v : Int) - (kb i : Int)) = _
          rw [wrap_id (by omega) (by omega)]
          omega
end Go.Proofs.W

namespace Go.Proofs.W
open Go.Vl
set_option maxRecDepth 100000

def gR (x m : A2) : A2 := if x.1 < m.1 then x else m
theorem gR_strict (m x : A2) : (if x.1 ≤ m.1 then x else m) = gR m x := by
  unfold gR
  by_cases h : x.1 ≤ m.1
  · rw [if_pos h, if_neg (by omega)]
  · rw [if_neg h, if_pos (by omega)]
theorem gR_assoc (a b c : A2) : gR (gR a b) c = gR a (gR b c) := by
  unfold gR
  repeat' split
  all_goals first | rfl | omega
theorem strict_gR (a : A2) (l : List A2) : strict a l = l.foldl gR a := by
  unfold strict
  congr 1
  funext m x
  exact gR_strict m x
theorem foldl_gR (a b : A2) (l : List A2) : l.foldl gR (gR a b) = gR a (l.foldl gR b) := by
  induction l generalizing b with
  | nil => rfl
  | cons c l ih => rw [List.foldl_cons, gR_assoc, ih, List.foldl_cons]
theorem foldr_gR (a d : A2) (l : List A2) : (a :: l).foldr gR d = gR (l.foldl gR a) d := by
  induction l generalizing a with
  | nil => rfl
  | cons b l ih => rw [List.foldr_cons, ih, ← gR_assoc, List.foldl_cons, foldl_gR]
theorem gR_self (x y : A2) : gR (gR x y) y = gR x y := by
  rw [gR_assoc]; unfold gR; simp
theorem foldr_last (a : A2) (r : List A2) : (a :: r).foldr gR ((a :: r).getD r.length (0, 0)) = strict a r := by
  rw [foldr_gR, strict_gR]
  rcases List.eq_nil_or_concat r with rfl | ⟨r', x, rfl⟩
  · simp [gR]
  · rw [List.concat_eq_append, List.foldl_append]
    simp [gR_self]

theorem f11_spec (a : A2) (r : List A2) (hl : r.length ≤ 1000000000) : Tells Try.prog 14 [acts (a :: r)] (actP (strict a r)) := by
  refine tells_of_aw Try.func14 rfl rfl fun nx => ?_
  (repeat ((conv=>whnf);first|refine ω0 ?_|refine ω1 ?_|refine ω2 ?_|refine ω3 ?_|refine ω4 rfl ?_|refine ω5 rfl ?_|refine ω6 ?_|refine ω7 ?_|refine ω8 ?_|refine ⟨rfl,?_⟩|refine ⟨trivial,?_⟩|refine ⟨⟨rfl,Nat.le_of_ble_eq_true rfl⟩,?_⟩|refine ⟨⟨by kernel_rfl,by kernel_rfl⟩,?_⟩|refine ⟨by decide,?_⟩|refine lit_true ?_|refine lit_false ?_))
  have hw : IntKind.i64.wrap (((a :: r).length : Int) - 1) = (r.length : Int) := by
    have : (((a :: r).length : Nat) : Int) = (r.length : Int) + 1 := by simp
    rw [this, wrap_id (by omega) (by omega)]; omega
  refine ⟨⟨?_, ?_⟩, ?_⟩
  · rw [hw]; omega
  · rw [hw]; simp; omega
  rw [hw]
  (repeat ((conv=>whnf);first|refine ω0 ?_|refine ω1 ?_|refine ω2 ?_|refine ω3 ?_|refine ω4 rfl ?_|refine ω5 rfl ?_|refine ω6 ?_|refine ω7 ?_|refine ω8 ?_|refine ⟨rfl,?_⟩|refine ⟨trivial,?_⟩|refine ⟨⟨rfl,Nat.le_of_ble_eq_true rfl⟩,?_⟩|refine ⟨⟨by kernel_rfl,by kernel_rfl⟩,?_⟩|refine ⟨by decide,?_⟩|refine lit_true ?_|refine lit_false ?_))
  refine aw_loop (fun s : Int × A2 × Nat => mk 31 [(0, acts (a :: r)), (2, .bp (0, nx) 0), (3, .bp (1, nx + 1) 0), (4, int s.1)] ⟨[((1, nx + 1), .c [int s.2.1.1, int s.2.1.2]), ((0, nx), .c [int 0, int 0])], [], s.2.2, 2⟩)
    (fun s => -1 ≤ s.1 ∧ s.1 ≤ r.length ∧ s.2.1 = ((a :: r).drop (s.1 + 1).toNat).foldr gR ((a :: r).getD r.length (0, 0))) (fun s => (s.1 + 1).toNat) ?_ ?_
  · refine ⟨(r.length, (a :: r).getD r.length (0, 0), nx + 2), ⟨by dsimp only; omega, by dsimp only; omega, ?_⟩, ele_mk rfl rfl ⟨AVle.refl _, AVle.refl _, AVle.refl _, le_int hw, trivial⟩⟩
    dsimp only
    rw [List.drop_of_length_le (by simp)]; rfl
  · rintro ⟨i, m, nx2⟩ ⟨h2, h3, h4⟩
    dsimp only at h2 h3 h4
    (repeat ((conv=>whnf);first|refine ω0 ?_|refine ω1 ?_|refine ω2 ?_|refine ω3 ?_|refine ω4 rfl ?_|refine ω5 rfl ?_|refine ω6 ?_|refine ω7 ?_|refine ω8 ?_|refine ⟨rfl,?_⟩|refine ⟨trivial,?_⟩|refine ⟨⟨rfl,Nat.le_of_ble_eq_true rfl⟩,?_⟩|refine ⟨⟨by kernel_rfl,by kernel_rfl⟩,?_⟩|refine ⟨by decide,?_⟩|refine lit_true ?_|refine lit_false ?_))
    intro c h5; cases c
    · (repeat ((conv=>whnf);first|refine ω0 ?_|refine ω1 ?_|refine ω2 ?_|refine ω3 ?_|refine ω4 rfl ?_|refine ω5 rfl ?_|refine ω6 ?_|refine ω7 ?_|refine ω8 ?_|refine ⟨rfl,?_⟩|refine ⟨trivial,?_⟩|refine ⟨⟨rfl,Nat.le_of_ble_eq_true rfl⟩,?_⟩|refine ⟨⟨by kernel_rfl,by kernel_rfl⟩,?_⟩|refine ⟨by decide,?_⟩|refine lit_true ?_|refine lit_false ?_))
      (refine ret_tells_all rfl ?_ ?_; (· exact ⟨rfl, trivial⟩))
      have h6 := not_of h5
      obtain rfl : i = -1 := by omega
      have : m = strict a r := by rw [h4, ← foldr_last]; rfl
      subst this
      exact AVle.refl _
    · obtain ⟨j, rfl⟩ := Int.eq_ofNat_of_zero_le (yes_of h5)
      have hd : (a :: r).drop j = (a :: r).getD j (0, 0) :: (a :: r).drop (j + 1) := by
        have hj : j < (a :: r).length := by simp; omega
        rw [List.drop_eq_getElem_cons hj, List.getD_eq_getElem?_getD, List.getElem?_eq_getElem hj]; rfl
      have hs : ((a :: r).drop j).foldr gR ((a :: r).getD r.length (0, 0)) = gR ((a :: r).getD j (0, 0)) m := by
        rw [hd, List.foldr_cons, h4]; rfl
      have hw2 : IntKind.i64.wrap ((j : Int) - 1) = (j : Int) - 1 := wrap_id (by omega) (by omega)
      (repeat ((conv=>whnf);first|refine ω0 ?_|refine ω1 ?_|refine ω2 ?_|refine ω3 ?_|refine ω4 rfl ?_|refine ω5 rfl ?_|refine ω6 ?_|refine ω7 ?_|refine ω8 ?_|refine ⟨rfl,?_⟩|refine ⟨trivial,?_⟩|refine ⟨⟨rfl,Nat.le_of_ble_eq_true rfl⟩,?_⟩|refine ⟨⟨by kernel_rfl,by kernel_rfl⟩,?_⟩|refine ⟨by decide,?_⟩|refine lit_true ?_|refine lit_false ?_))
      (refine aw_draw 8 ?_ ?_ ?_ ?_; (· kernel_rfl); (· kernel_rfl); (· kernel_rfl))
      refine ⟨⟨by omega, by simp; omega⟩, ?_⟩
      (repeat ((conv=>whnf);first|refine ω0 ?_|refine ω1 ?_|refine ω2 ?_|refine ω3 ?_|refine ω4 rfl ?_|refine ω5 rfl ?_|refine ω6 ?_|refine ω7 ?_|refine ω8 ?_|refine ⟨rfl,?_⟩|refine ⟨trivial,?_⟩|refine ⟨⟨rfl,Nat.le_of_ble_eq_true rfl⟩,?_⟩|refine ⟨⟨by kernel_rfl,by kernel_rfl⟩,?_⟩|refine ⟨by decide,?_⟩|refine lit_true ?_|refine lit_false ?_))
      intro c h6; cases c
      · (repeat ((conv=>whnf);first|refine ω0 ?_|refine ω1 ?_|refine ω2 ?_|refine ω3 ?_|refine ω4 rfl ?_|refine ω5 rfl ?_|refine ω6 ?_|refine ω7 ?_|refine ω8 ?_|refine ⟨rfl,?_⟩|refine ⟨trivial,?_⟩|refine ⟨⟨rfl,Nat.le_of_ble_eq_true rfl⟩,?_⟩|refine ⟨⟨by kernel_rfl,by kernel_rfl⟩,?_⟩|refine ⟨by decide,?_⟩|refine lit_true ?_|refine lit_false ?_))
        refine back ((j : Int) - 1, m, nx2) ⟨by dsimp only; omega, by dsimp only; omega, ?_⟩ (by dsimp only; omega) (ele_mk rfl rfl ⟨AVle.refl _, AVle.refl _, AVle.refl _, le_int hw2, trivial⟩)
        have h7 : ¬ ((a :: r).getD j (0, 0)).1 < m.1 := not_of h6
        dsimp only
        rw [Int.sub_add_cancel, Int.toNat_natCast, hs, gR, if_neg h7]
      · (repeat ((conv=>whnf);first|refine ω0 ?_|refine ω1 ?_|refine ω2 ?_|refine ω3 ?_|refine ω4 rfl ?_|refine ω5 rfl ?_|refine ω6 ?_|refine ω7 ?_|refine ω8 ?_|refine ⟨rfl,?_⟩|refine ⟨trivial,?_⟩|refine ⟨⟨rfl,Nat.le_of_ble_eq_true rfl⟩,?_⟩|refine ⟨⟨by kernel_rfl,by kernel_rfl⟩,?_⟩|refine ⟨by decide,?_⟩|refine lit_true ?_|refine lit_false ?_))
        refine ⟨⟨by omega, by simp; omega⟩, ?_⟩
        (repeat ((conv=>whnf);first|refine ω0 ?_|refine ω1 ?_|refine ω2 ?_|refine ω3 ?_|refine ω4 rfl ?_|refine ω5 rfl ?_|refine ω6 ?_|refine ω7 ?_|refine ω8 ?_|refine ⟨rfl,?_⟩|refine ⟨trivial,?_⟩|refine ⟨⟨rfl,Nat.le_of_ble_eq_true rfl⟩,?_⟩|refine ⟨⟨by kernel_rfl,by kernel_rfl⟩,?_⟩|refine ⟨by decide,?_⟩|refine lit_true ?_|refine lit_false ?_))
        refine back ((j : Int) - 1, (a :: r).getD j (0, 0), nx2) ⟨by dsimp only; omega, by dsimp only; omega, ?_⟩ (by dsimp only; omega) (ele_mk rfl rfl ⟨AVle.refl _, AVle.refl _, AVle.refl _, le_int hw2, trivial⟩)
        have h7 : ((a :: r).getD j (0, 0)).1 < m.1 := yes_of h6
        dsimp only
        rw [Int.sub_add_cancel, Int.toNat_natCast, hs, gR, if_pos h7]

theorem f10_spec : Tells Try.prog 12 [] (boolA true) := by
  refine tells_of_aw Try.func12 rfl rfl fun nx => ?_
  (repeat ((conv=>whnf);first|refine ω0 ?_|refine ω1 ?_|refine ω2 ?_|refine ω3 ?_|refine ω4 rfl ?_|refine ω5 rfl ?_|refine ω6 ?_|refine ω7 ?_|refine ω8 ?_|refine ⟨rfl,?_⟩|refine ⟨trivial,?_⟩|refine ⟨⟨rfl,Nat.le_of_ble_eq_true rfl⟩,?_⟩|refine ⟨⟨by kernel_rfl,by kernel_rfl⟩,?_⟩|refine ⟨by decide,?_⟩|refine lit_true ?_|refine lit_false ?_))
  refine aop_tells (s := .tup [act 4 1, int 0]) rfl rfl ((f9_spec [(7, 0), (4, 1)] (by decide)).of_eq rfl) ⟨AVle.os_sl.trans (AVle.sl_fun (allK_use ⟨⟨trivial, rfl⟩, rfl⟩)), trivial⟩ fun nx' => ?_
  (repeat ((conv=>whnf);first|refine ω0 ?_|refine ω1 ?_|refine ω2 ?_|refine ω3 ?_|refine ω4 rfl ?_|refine ω5 rfl ?_|refine ω6 ?_|refine ω7 ?_|refine ω8 ?_|refine ⟨rfl,?_⟩|refine ⟨trivial,?_⟩|refine ⟨⟨rfl,Nat.le_of_ble_eq_true rfl⟩,?_⟩|refine ⟨⟨by kernel_rfl,by kernel_rfl⟩,?_⟩|refine ⟨by decide,?_⟩|refine lit_true ?_|refine lit_false ?_))
  refine aop_tells (s := .tup [act 4 2, int 0]) rfl rfl ((f9_spec [(4, 1), (4, 2)] (by decide)).of_eq rfl) ⟨AVle.os_sl.trans (AVle.sl_fun (allK_use ⟨⟨trivial, rfl⟩, rfl⟩)), trivial⟩ fun nx' => ?_
  (repeat ((conv=>whnf);first|refine ω0 ?_|refine ω1 ?_|refine ω2 ?_|refine ω3 ?_|refine ω4 rfl ?_|refine ω5 rfl ?_|refine ω6 ?_|refine ω7 ?_|refine ω8 ?_|refine ⟨rfl,?_⟩|refine ⟨trivial,?_⟩|refine ⟨⟨rfl,Nat.le_of_ble_eq_true rfl⟩,?_⟩|refine ⟨⟨by kernel_rfl,by kernel_rfl⟩,?_⟩|refine ⟨by decide,?_⟩|refine lit_true ?_|refine lit_false ?_))
  refine ret_tells rfl (AVle.refl _)

end Go.Proofs.W

namespace Go.Proofs.W
open Go.Vl
set_option maxRecDepth 100000

def valI (l : List Ins) (b : List Nat) : Nat := if (checkI l).2 = 0 then (runI b l).1 else 0
theorem vmI_val {l : List Ins} {b : List Nat} (hb : b.length = 64) : (vmI l b).2.1 = valI l b ∧ (vmI l b).1 = (checkI l).2 := by
  unfold vmI valI
  by_cases h : (checkI l).2 = 0
  · rw [if_neg (by omega), if_neg (by omega), if_neg (by omega), if_pos h]; exact ⟨rfl, h.symm⟩
  · rw [if_pos h, if_neg h]; exact ⟨rfl, rfl⟩
theorem valI_lt {l : List Ins} {b : List Nat} (hl : okL l) (hb : okB b) : valI l b < 4294967296 := by
  unfold valI
  split
  · rename_i h
    exact runI_lt hb hl (check_iff.1 h).1
  · omega
theorem brun_spec (l : List Ins) (hok : okL l) (hl : l.length ≤ 4096) (b : List Nat) (hb : okB b) (hbl : b.length = 64) : Tells Try.prog 8 [bytesA (writeB l), bytesA b] (.tup [u32 (valI l b), int (checkI l).2]) := by
  have hvm := vmrun_spec l hok (by omega) b hb (by omega)
  rw [(vmI_val hbl).1, (vmI_val hbl).2] at hvm
  generalize (vmI l b).2.2 = s at hvm
  refine tells_of_aw Try.func8 rfl rfl fun nx => ?_
  (repeat ((conv=>whnf);first|refine ω0 ?_|refine ω1 ?_|refine ω2 ?_|refine ω3 ?_|refine ω4 rfl ?_|refine ω5 rfl ?_|refine ω6 ?_|refine ω7 ?_|refine ω8 ?_|refine ⟨rfl,?_⟩|refine ⟨trivial,?_⟩|refine ⟨⟨rfl,Nat.le_of_ble_eq_true rfl⟩,?_⟩|refine ⟨⟨by kernel_rfl,by kernel_rfl⟩,?_⟩|refine ⟨by decide,?_⟩|refine lit_true ?_|refine lit_false ?_))
  refine aop_tells rfl rfl (read_spec l hok hl) ⟨AVle.refl _, trivial⟩ fun nx1 => ?_
  (repeat ((conv=>whnf);first|refine ω0 ?_|refine ω1 ?_|refine ω2 ?_|refine ω3 ?_|refine ω4 rfl ?_|refine ω5 rfl ?_|refine ω6 ?_|refine ω7 ?_|refine ω8 ?_|refine ⟨rfl,?_⟩|refine ⟨trivial,?_⟩|refine ⟨⟨rfl,Nat.le_of_ble_eq_true rfl⟩,?_⟩|refine ⟨⟨by kernel_rfl,by kernel_rfl⟩,?_⟩|refine ⟨by decide,?_⟩|refine lit_true ?_|refine lit_false ?_))
  refine aop_tells rfl rfl hvm ⟨AVle.refl _, AVle.refl _, trivial⟩ fun nx2 => ?_
  (repeat ((conv=>whnf);first|refine ω0 ?_|refine ω1 ?_|refine ω2 ?_|refine ω3 ?_|refine ω4 rfl ?_|refine ω5 rfl ?_|refine ω6 ?_|refine ω7 ?_|refine ω8 ?_|refine ⟨rfl,?_⟩|refine ⟨trivial,?_⟩|refine ⟨⟨rfl,Nat.le_of_ble_eq_true rfl⟩,?_⟩|refine ⟨⟨by kernel_rfl,by kernel_rfl⟩,?_⟩|refine ⟨by decide,?_⟩|refine lit_true ?_|refine lit_false ?_))
  exact ret_tells rfl (AVle.refl _)
theorem outZ : AVle (.ag [u32 0, int 0, .os 0 0 (fun _ => .any) none]) (outA 0 rn0) := AVle.ags (cs := [_, _, _]) ⟨AVle.refl _, AVle.refl _, AVle.os_sl0, trivial⟩
theorem rrun_spec (l : List Ins) (hok : okL l) (hl : l.length ≤ 4096) (b : List Nat) (hb : okB b) (hbl : b.length = 64) : ∃ s n f, Tells Try.prog 9 [bytesA (writeB l), bytesA b] (.tup [outA (valI l b) s, int n, boolA f]) := by
  have hck := checkR_spec l hok (by omega)
  by_cases h : (checkI l).2 = 0
  · have hr := refrun_spec l hok (check_iff.1 h) b hb hbl
    rw [h] at hck
    refine ⟨(runI b l).2, l.length, true, ?_⟩
    rw [valI, if_pos h]
    refine tells_of_aw Try.func9 rfl rfl fun nx => ?_
    (repeat ((conv=>whnf);first|refine ω0 ?_|refine ω1 ?_|refine ω2 ?_|refine ω3 ?_|refine ω4 rfl ?_|refine ω5 rfl ?_|refine ω6 ?_|refine ω7 ?_|refine ω8 ?_|refine ⟨rfl,?_⟩|refine ⟨trivial,?_⟩|refine ⟨⟨rfl,Nat.le_of_ble_eq_true rfl⟩,?_⟩|refine ⟨⟨by kernel_rfl,by kernel_rfl⟩,?_⟩|refine ⟨by decide,?_⟩|refine lit_true ?_|refine lit_false ?_))
    refine aop_tells rfl rfl (read02_spec l hok hl) ⟨AVle.refl _, trivial⟩ fun nx1 => ?_
    (repeat ((conv=>whnf);first|refine ω0 ?_|refine ω1 ?_|refine ω2 ?_|refine ω3 ?_|refine ω4 rfl ?_|refine ω5 rfl ?_|refine ω6 ?_|refine ω7 ?_|refine ω8 ?_|refine ⟨rfl,?_⟩|refine ⟨trivial,?_⟩|refine ⟨⟨rfl,Nat.le_of_ble_eq_true rfl⟩,?_⟩|refine ⟨⟨by kernel_rfl,by kernel_rfl⟩,?_⟩|refine ⟨by decide,?_⟩|refine lit_true ?_|refine lit_false ?_))
    refine aop_tells rfl rfl hck ⟨AVle.refl _, trivial⟩ fun nx2 => ?_
    (repeat ((conv=>whnf);first|refine ω0 ?_|refine ω1 ?_|refine ω2 ?_|refine ω3 ?_|refine ω4 rfl ?_|refine ω5 rfl ?_|refine ω6 ?_|refine ω7 ?_|refine ω8 ?_|refine ⟨rfl,?_⟩|refine ⟨trivial,?_⟩|refine ⟨⟨rfl,Nat.le_of_ble_eq_true rfl⟩,?_⟩|refine ⟨⟨by kernel_rfl,by kernel_rfl⟩,?_⟩|refine ⟨by decide,?_⟩|refine lit_true ?_|refine lit_false ?_))
    refine aop_tells rfl rfl hr ⟨AVle.refl _, AVle.refl _, trivial⟩ fun nx3 => ?_
    (repeat ((conv=>whnf);first|refine ω0 ?_|refine ω1 ?_|refine ω2 ?_|refine ω3 ?_|refine ω4 rfl ?_|refine ω5 rfl ?_|refine ω6 ?_|refine ω7 ?_|refine ω8 ?_|refine ⟨rfl,?_⟩|refine ⟨trivial,?_⟩|refine ⟨⟨rfl,Nat.le_of_ble_eq_true rfl⟩,?_⟩|refine ⟨⟨by kernel_rfl,by kernel_rfl⟩,?_⟩|refine ⟨by decide,?_⟩|refine lit_true ?_|refine lit_false ?_))
    exact ret_tells_all rfl ⟨rfl, trivial⟩ (AVle.refl _)
  · refine ⟨rn0, 0, false, ?_⟩
    rw [valI, if_neg h]
    refine tells_of_aw Try.func9 rfl rfl fun nx => ?_
    (repeat ((conv=>whnf);first|refine ω0 ?_|refine ω1 ?_|refine ω2 ?_|refine ω3 ?_|refine ω4 rfl ?_|refine ω5 rfl ?_|refine ω6 ?_|refine ω7 ?_|refine ω8 ?_|refine ⟨rfl,?_⟩|refine ⟨trivial,?_⟩|refine ⟨⟨rfl,Nat.le_of_ble_eq_true rfl⟩,?_⟩|refine ⟨⟨by kernel_rfl,by kernel_rfl⟩,?_⟩|refine ⟨by decide,?_⟩|refine lit_true ?_|refine lit_false ?_))
    refine aop_tells rfl rfl (read02_spec l hok hl) ⟨AVle.refl _, trivial⟩ fun nx1 => ?_
    (repeat ((conv=>whnf);first|refine ω0 ?_|refine ω1 ?_|refine ω2 ?_|refine ω3 ?_|refine ω4 rfl ?_|refine ω5 rfl ?_|refine ω6 ?_|refine ω7 ?_|refine ω8 ?_|refine ⟨rfl,?_⟩|refine ⟨trivial,?_⟩|refine ⟨⟨rfl,Nat.le_of_ble_eq_true rfl⟩,?_⟩|refine ⟨⟨by kernel_rfl,by kernel_rfl⟩,?_⟩|refine ⟨by decide,?_⟩|refine lit_true ?_|refine lit_false ?_))
    refine aop_tells rfl rfl hck ⟨AVle.refl _, trivial⟩ fun nx2 => ?_
    (repeat ((conv=>whnf);first|refine ω0 ?_|refine ω1 ?_|refine ω2 ?_|refine ω3 ?_|refine ω4 rfl ?_|refine ω5 rfl ?_|refine ω6 ?_|refine ω7 ?_|refine ω8 ?_|refine ⟨rfl,?_⟩|refine ⟨trivial,?_⟩|refine ⟨⟨rfl,Nat.le_of_ble_eq_true rfl⟩,?_⟩|refine ⟨⟨by kernel_rfl,by kernel_rfl⟩,?_⟩|refine ⟨by decide,?_⟩|refine lit_true ?_|refine lit_false ?_))
    intro c g; cases c
    · exact absurd (fct_n0.1 g) (fun e => h (Int.ofNat_inj.1 e))
    (repeat ((conv=>whnf);first|refine ω0 ?_|refine ω1 ?_|refine ω2 ?_|refine ω3 ?_|refine ω4 rfl ?_|refine ω5 rfl ?_|refine ω6 ?_|refine ω7 ?_|refine ω8 ?_|refine ⟨rfl,?_⟩|refine ⟨trivial,?_⟩|refine ⟨⟨rfl,Nat.le_of_ble_eq_true rfl⟩,?_⟩|refine ⟨⟨by kernel_rfl,by kernel_rfl⟩,?_⟩|refine ⟨by decide,?_⟩|refine lit_true ?_|refine lit_false ?_))
    exact ret_tells_all rfl ⟨rfl, trivial⟩ (AVle.tups ⟨outZ, AVle.refl _, AVle.refl _, trivial⟩)
end Go.Proofs.W

namespace Go.Proofs.W
open Go.Vl
set_option maxRecDepth 100000

def progs (ps : List (List Ins)) : AV := slOf 1 (fun l => bytesA (writeB l)) [] ps
def okPs (ps : List (List Ins)) : Prop := ∀ l ∈ ps, okL l ∧ l.length ≤ 4096
theorem okPs.get {ps : List (List Ins)} (h : okPs ps) {i : Nat} (hi : i < ps.length) : okL (ps.getD i []) ∧ (ps.getD i []).length ≤ 4096 := by
  have : ps.getD i [] ∈ ps := by simp [List.getD, hi]
  exact h _ this
/-- What is told of an action that a program tells. -/
def tellA (b : List Nat) (l : List Ins) : A2 := fromA (valI l b)
def form9 (x : A2) : Prop := ∃ k n : Nat, k < 8 ∧ n ≤ km k ∧ x = (((k + 1 : Nat) : Int), (n : Int))
theorem fromA_form (v : Nat) : form9 (fromA v) := by
  unfold fromA
  cases h : fromI v with
  | none => exact ⟨0, 0, by decide, by decide, rfl⟩
  | some k =>
    obtain ⟨h1, h2, h3⟩ := fromI_some h
    exact ⟨k, v - kb k, h1, by omega, rfl⟩
theorem form_right {x : A2} (h : form9 x) : wrongA x = false := by
  obtain ⟨k, n, h1, h2, rfl⟩ := h
  have hkm : ((km k : Nat) : Int) = most9 ((k + 1 : Nat) : Int) := by
    clear h2
    rcases k with _ | _ | _ | _ | _ | _ | _ | _ | k
    all_goals first | decide | omega
  unfold wrongA right9
  rw [← hkm]
  simp
  omega
def codeI (x : A2) : Nat := kb (x.1 - 1).toNat + x.2.toNat
theorem tellA_some {b : List Nat} {l : List Ins} {k : Nat} (h : fromI (valI l b) = some k) : tellA b l = (((k + 1 : Nat) : Int), ((valI l b - kb k : Nat) : Int)) ∧ fromR (valI l b) = (tellA b l, 0) := by
  have e1 : tellA b l = (((k + 1 : Nat) : Int), ((valI l b - kb k : Nat) : Int)) := by unfold tellA fromA; rw [h]
  refine ⟨e1, ?_⟩
  rw [e1]
  unfold fromR
  rw [h]
theorem tellA_none {b : List Nat} {l : List Ins} (h : fromI (valI l b) = none) : tellA b l = (1, 0) ∧ fromR (valI l b) = ((0, 0), 5) := by
  refine ⟨by unfold tellA fromA; rw [h], by unfold fromR; rw [h]⟩
theorem code_form {x : A2} (h : form9 x) : Tells Try.prog 43 [actP x] (.tup [u32 (codeI x), int 0]) ∧ Tells Try.prog 13 [actP x] (int (codeI x)) ∧ codeI x < 4294967296 := by
  obtain ⟨k, n, h1, h2, rfl⟩ := h
  have e : codeI (((k + 1 : Nat) : Int), (n : Int)) = kb k + n := by
    unfold codeI
    dsimp only
    rw [show (((k + 1 : Nat) : Int) - 1).toNat = k by omega, Int.toNat_natCast]
  rw [e]
  exact ⟨code_spec9 k n h1 h2, rcode_spec k n h1 h2, by have := kb_le h1; omega⟩
theorem strict_mem (a : A2) (r : List A2) : strict a r ∈ a :: r := by
  unfold strict
  induction r generalizing a with
  | nil => simp
  | cons x r ih =>
    rw [List.foldl_cons]
    split
    · exact List.mem_cons_of_mem _ (ih x)
    · rcases List.mem_cons.1 (ih a) with h | h
      · rw [h]; exact List.mem_cons_self
      · exact List.mem_cons_of_mem _ (List.mem_cons_of_mem _ h)
theorem strict_form {a : A2} {r : List A2} (h : ∀ x ∈ a :: r, form9 x) : form9 (strict a r) := h _ (strict_mem a r)
theorem strictest_form {a : A2} {r : List A2} (h : ∀ x ∈ a :: r, form9 x) : strictest (a :: r) = (strict a r, 0) := by
  show (if ((a :: r).findIdx? wrongA).isSome then _ else _) = _
  rw [if_neg]
  rw [List.findIdx?_isSome]
  simp only [Bool.not_eq_true, List.any_eq_false]
  intro x hx
  rw [form_right (h x hx)]
set_option maxHeartbeats 2000000 in
theorem srun_spec (ps : List (List Ins)) (hps : okPs ps) (hl : ps.length ≤ 1000) (b : List Nat) (hb : okB b) (hbl : b.length = 64) (m : Nat) (hm : m ≤ ps.length) (hne : ps.length ≠ 0) (hbf : ∀ j, j < m → (checkI (ps.getD j [])).2 = 0)
    (R E : Nat) (hR : m < ps.length → R = 0 ∧ E = (checkI (ps.getD m [])).2 ∧ E ≠ 0) (hR2 : m = ps.length → ∃ a r, ps.map (tellA b) = a :: r ∧ R = codeI (strict a r) ∧ E = 0) :
    Tells Try.prog 11 [progs ps, bytesA b] (.tup [u32 R, int E]) := by
  refine tells_of_aw Try.func11 rfl rfl fun nx => ?_
  (repeat ((conv=>whnf);first|refine ω0 ?_|refine ω1 ?_|refine ω2 ?_|refine ω3 ?_|refine ω4 rfl ?_|refine ω5 rfl ?_|refine ω6 ?_|refine ω7 ?_|refine ω8 ?_|refine ⟨rfl,?_⟩|refine ⟨trivial,?_⟩|refine ⟨⟨rfl,Nat.le_of_ble_eq_true rfl⟩,?_⟩|refine ⟨⟨by kernel_rfl,by kernel_rfl⟩,?_⟩|refine ⟨by decide,?_⟩|refine lit_true ?_|refine lit_false ?_))
  intro c hc
  obtain rfl : c = false := hc.trans (beq_eq_false_iff_ne.2 (by omega))
  (repeat ((conv=>whnf);first|refine ω0 ?_|refine ω1 ?_|refine ω2 ?_|refine ω3 ?_|refine ω4 rfl ?_|refine ω5 rfl ?_|refine ω6 ?_|refine ω7 ?_|refine ω8 ?_|refine ⟨rfl,?_⟩|refine ⟨trivial,?_⟩|refine ⟨⟨rfl,Nat.le_of_ble_eq_true rfl⟩,?_⟩|refine ⟨⟨by kernel_rfl,by kernel_rfl⟩,?_⟩|refine ⟨by decide,?_⟩|refine lit_true ?_|refine lit_false ?_))
  refine aw_loop (fun s : Nat × Option Nat × Nat => mk 55 [(1, bytesA b), (18, progs ps), (19, int ps.length), (20, int s.1), (4, u32 0), (5, int 0), (6, .os 2 s.1 (fun k => actP (tellA b (ps.getD k []))) (nmd s.2.1))] ⟨[], pmOf (nmd s.2.1) (s.1 * 2), s.2.2, 0⟩) (fun s => s.1 ≤ m ∧ (s.2.1 = none → s.1 = 0)) (fun s => m + 1 - s.1) ?_ ?_
  · exact ⟨(0, none, nx), ⟨by simp, fun _ => rfl⟩, ele_mk rfl rfl ⟨AVle.refl _, AVle.refl _, AVle.refl _, AVle.refl _, AVle.refl _, AVle.refl _, AVle.os_nil, trivial⟩⟩
  · rintro ⟨i, oi, nx2⟩ ⟨h3, h4⟩
    dsimp only at h3 h4
    by_cases hil : i < ps.length
    rotate_left
    · obtain ⟨a, r, e1, e2, e3⟩ := hR2 (by omega)
      obtain rfl : i = ps.length := by omega
      have hform : ∀ x ∈ a :: r, form9 x := by
        rw [← e1]
        intro x hx
        obtain ⟨l, _, rfl⟩ := List.mem_map.1 hx
        exact fromA_form _
      have hst := f9_spec (a :: r) (by rw [← e1]; simp; omega)
      rw [strictest_form hform, ← e1] at hst
      obtain ⟨hc1, _, _⟩ := code_form (strict_form hform)
      rw [← e2] at hc1
      rw [e3]
      (repeat ((conv=>whnf);first|refine ω0 ?_|refine ω1 ?_|refine ω2 ?_|refine ω3 ?_|refine ω4 rfl ?_|refine ω5 rfl ?_|refine ω6 ?_|refine ω7 ?_|refine ω8 ?_|refine ⟨rfl,?_⟩|refine ⟨trivial,?_⟩|refine ⟨⟨rfl,Nat.le_of_ble_eq_true rfl⟩,?_⟩|refine ⟨⟨by kernel_rfl,by kernel_rfl⟩,?_⟩|refine ⟨by decide,?_⟩|refine lit_true ?_|refine lit_false ?_))
      intro c hc
      obtain rfl : c = false := hc.trans (decide_eq_false (by dsimp only; omega))
      (repeat ((conv=>whnf);first|refine ω0 ?_|refine ω1 ?_|refine ω2 ?_|refine ω3 ?_|refine ω4 rfl ?_|refine ω5 rfl ?_|refine ω6 ?_|refine ω7 ?_|refine ω8 ?_|refine ⟨rfl,?_⟩|refine ⟨trivial,?_⟩|refine ⟨⟨rfl,Nat.le_of_ble_eq_true rfl⟩,?_⟩|refine ⟨⟨by kernel_rfl,by kernel_rfl⟩,?_⟩|refine ⟨by decide,?_⟩|refine lit_true ?_|refine lit_false ?_))
      refine aop_tells rfl rfl hst ⟨AVle.os_sl.trans ?_, trivial⟩ fun nx3 => ?_
      · unfold acts slOf
        rw [List.length_map]
        exact AVle.sl_fun fun k hk => by simp [List.getD, hk]
      (repeat ((conv=>whnf);first|refine ω0 ?_|refine ω1 ?_|refine ω2 ?_|refine ω3 ?_|refine ω4 rfl ?_|refine ω5 rfl ?_|refine ω6 ?_|refine ω7 ?_|refine ω8 ?_|refine ⟨rfl,?_⟩|refine ⟨trivial,?_⟩|refine ⟨⟨rfl,Nat.le_of_ble_eq_true rfl⟩,?_⟩|refine ⟨⟨by kernel_rfl,by kernel_rfl⟩,?_⟩|refine ⟨by decide,?_⟩|refine lit_true ?_|refine lit_false ?_))
      refine aop_tells rfl rfl hc1 ⟨AVle.refl _, trivial⟩ fun nx4 => ?_
      (repeat ((conv=>whnf);first|refine ω0 ?_|refine ω1 ?_|refine ω2 ?_|refine ω3 ?_|refine ω4 rfl ?_|refine ω5 rfl ?_|refine ω6 ?_|refine ω7 ?_|refine ω8 ?_|refine ⟨rfl,?_⟩|refine ⟨trivial,?_⟩|refine ⟨⟨rfl,Nat.le_of_ble_eq_true rfl⟩,?_⟩|refine ⟨⟨by kernel_rfl,by kernel_rfl⟩,?_⟩|refine ⟨by decide,?_⟩|refine lit_true ?_|refine lit_false ?_))
      exact ret_tells rfl (AVle.refl _)
    · have hk := hps.get hil
      have hbr := brun_spec _ hk.1 hk.2 b hb hbl
      by_cases him : i = m
      · cases him
        obtain ⟨e1, e2, e3⟩ := hR hil
        rw [← e2] at hbr
        rw [e1]
        (repeat ((conv=>whnf);first|refine ω0 ?_|refine ω1 ?_|refine ω2 ?_|refine ω3 ?_|refine ω4 rfl ?_|refine ω5 rfl ?_|refine ω6 ?_|refine ω7 ?_|refine ω8 ?_|refine ⟨rfl,?_⟩|refine ⟨trivial,?_⟩|refine ⟨⟨rfl,Nat.le_of_ble_eq_true rfl⟩,?_⟩|refine ⟨⟨by kernel_rfl,by kernel_rfl⟩,?_⟩|refine ⟨by decide,?_⟩|refine lit_true ?_|refine lit_false ?_))
        intro c hc
        obtain rfl : c = true := hc.trans (decide_eq_true (by dsimp only; omega))
        (repeat ((conv=>whnf);first|refine ω0 ?_|refine ω1 ?_|refine ω2 ?_|refine ω3 ?_|refine ω4 rfl ?_|refine ω5 rfl ?_|refine ω6 ?_|refine ω7 ?_|refine ω8 ?_|refine ⟨rfl,?_⟩|refine ⟨trivial,?_⟩|refine ⟨⟨rfl,Nat.le_of_ble_eq_true rfl⟩,?_⟩|refine ⟨⟨by kernel_rfl,by kernel_rfl⟩,?_⟩|refine ⟨by decide,?_⟩|refine lit_true ?_|refine lit_false ?_))
        refine ⟨⟨by dsimp only; omega, by dsimp only; omega⟩, ?_⟩
        (repeat ((conv=>whnf);first|refine ω0 ?_|refine ω1 ?_|refine ω2 ?_|refine ω3 ?_|refine ω4 rfl ?_|refine ω5 rfl ?_|refine ω6 ?_|refine ω7 ?_|refine ω8 ?_|refine ⟨rfl,?_⟩|refine ⟨trivial,?_⟩|refine ⟨⟨rfl,Nat.le_of_ble_eq_true rfl⟩,?_⟩|refine ⟨⟨by kernel_rfl,by kernel_rfl⟩,?_⟩|refine ⟨by decide,?_⟩|refine lit_true ?_|refine lit_false ?_))
        refine aop_tells rfl rfl hbr ⟨AVle.refl _, AVle.refl _, trivial⟩ fun nx3 => ?_
        (repeat ((conv=>whnf);first|refine ω0 ?_|refine ω1 ?_|refine ω2 ?_|refine ω3 ?_|refine ω4 rfl ?_|refine ω5 rfl ?_|refine ω6 ?_|refine ω7 ?_|refine ω8 ?_|refine ⟨rfl,?_⟩|refine ⟨trivial,?_⟩|refine ⟨⟨rfl,Nat.le_of_ble_eq_true rfl⟩,?_⟩|refine ⟨⟨by kernel_rfl,by kernel_rfl⟩,?_⟩|refine ⟨by decide,?_⟩|refine lit_true ?_|refine lit_false ?_))
        intro c hc
        obtain rfl : c = true := hc.trans (by simp; exact e3)
        (repeat ((conv=>whnf);first|refine ω0 ?_|refine ω1 ?_|refine ω2 ?_|refine ω3 ?_|refine ω4 rfl ?_|refine ω5 rfl ?_|refine ω6 ?_|refine ω7 ?_|refine ω8 ?_|refine ⟨rfl,?_⟩|refine ⟨trivial,?_⟩|refine ⟨⟨rfl,Nat.le_of_ble_eq_true rfl⟩,?_⟩|refine ⟨⟨by kernel_rfl,by kernel_rfl⟩,?_⟩|refine ⟨by decide,?_⟩|refine lit_true ?_|refine lit_false ?_))
        exact ret_tells rfl (AVle.refl _)
      · have hz := hbf i (by omega)
        rw [hz] at hbr
        have hv := valI_lt (l := ps.getD i []) (b := b) hk.1 hb
        have hfr := from_spec (valI (ps.getD i []) b) hv
        cases hf : fromI (valI (ps.getD i []) b) with
        | some k =>
          rw [(tellA_some hf).2] at hfr
          rcases oi with _ | id
          · obtain rfl := h4 rfl
            (repeat ((conv=>whnf);first|refine ω0 ?_|refine ω1 ?_|refine ω2 ?_|refine ω3 ?_|refine ω4 rfl ?_|refine ω5 rfl ?_|refine ω6 ?_|refine ω7 ?_|refine ω8 ?_|refine ⟨rfl,?_⟩|refine ⟨trivial,?_⟩|refine ⟨⟨rfl,Nat.le_of_ble_eq_true rfl⟩,?_⟩|refine ⟨⟨by kernel_rfl,by kernel_rfl⟩,?_⟩|refine ⟨by decide,?_⟩|refine lit_true ?_|refine lit_false ?_))
            intro c hc
            obtain rfl : c = true := hc.trans (decide_eq_true (by dsimp only; omega))
            (repeat ((conv=>whnf);first|refine ω0 ?_|refine ω1 ?_|refine ω2 ?_|refine ω3 ?_|refine ω4 rfl ?_|refine ω5 rfl ?_|refine ω6 ?_|refine ω7 ?_|refine ω8 ?_|refine ⟨rfl,?_⟩|refine ⟨trivial,?_⟩|refine ⟨⟨rfl,Nat.le_of_ble_eq_true rfl⟩,?_⟩|refine ⟨⟨by kernel_rfl,by kernel_rfl⟩,?_⟩|refine ⟨by decide,?_⟩|refine lit_true ?_|refine lit_false ?_))
            refine ⟨⟨by dsimp only; omega, by dsimp only; omega⟩, ?_⟩
            (repeat ((conv=>whnf);first|refine ω0 ?_|refine ω1 ?_|refine ω2 ?_|refine ω3 ?_|refine ω4 rfl ?_|refine ω5 rfl ?_|refine ω6 ?_|refine ω7 ?_|refine ω8 ?_|refine ⟨rfl,?_⟩|refine ⟨trivial,?_⟩|refine ⟨⟨rfl,Nat.le_of_ble_eq_true rfl⟩,?_⟩|refine ⟨⟨by kernel_rfl,by kernel_rfl⟩,?_⟩|refine ⟨by decide,?_⟩|refine lit_true ?_|refine lit_false ?_))
            refine aop_tells rfl rfl hbr ⟨AVle.refl _, AVle.refl _, trivial⟩ fun nx3 => ?_
            (repeat ((conv=>whnf);first|refine ω0 ?_|refine ω1 ?_|refine ω2 ?_|refine ω3 ?_|refine ω4 rfl ?_|refine ω5 rfl ?_|refine ω6 ?_|refine ω7 ?_|refine ω8 ?_|refine ⟨rfl,?_⟩|refine ⟨trivial,?_⟩|refine ⟨⟨rfl,Nat.le_of_ble_eq_true rfl⟩,?_⟩|refine ⟨⟨by kernel_rfl,by kernel_rfl⟩,?_⟩|refine ⟨by decide,?_⟩|refine lit_true ?_|refine lit_false ?_))
            refine aop_tells rfl rfl hfr ⟨AVle.refl _, trivial⟩ fun nx4 => ?_
            (repeat ((conv=>whnf);first|refine ω0 ?_|refine ω1 ?_|refine ω2 ?_|refine ω3 ?_|refine ω4 rfl ?_|refine ω5 rfl ?_|refine ω6 ?_|refine ω7 ?_|refine ω8 ?_|refine ⟨rfl,?_⟩|refine ⟨trivial,?_⟩|refine ⟨⟨rfl,Nat.le_of_ble_eq_true rfl⟩,?_⟩|refine ⟨⟨by kernel_rfl,by kernel_rfl⟩,?_⟩|refine ⟨by decide,?_⟩|refine lit_true ?_|refine lit_false ?_))
            refine ⟨oneRow_one rfl, by show (0 + 1) * 16 ≤ _; omega, by dsimp only; omega, ?_⟩
            (repeat ((conv=>whnf);first|refine ω0 ?_|refine ω1 ?_|refine ω2 ?_|refine ω3 ?_|refine ω4 rfl ?_|refine ω5 rfl ?_|refine ω6 ?_|refine ω7 ?_|refine ω8 ?_|refine ⟨rfl,?_⟩|refine ⟨trivial,?_⟩|refine ⟨⟨rfl,Nat.le_of_ble_eq_true rfl⟩,?_⟩|refine ⟨⟨by kernel_rfl,by kernel_rfl⟩,?_⟩|refine ⟨by decide,?_⟩|refine lit_true ?_|refine lit_false ?_))
            refine back (0 + 1, some (nx4 + 1), nx4 + 2) ⟨by dsimp only; omega, (fun h => by cases h)⟩ (by dsimp only; omega) (ele_tell (pm := [((0, nx4 + 1), (0 + 1) * 2)]) [] _ rfl rfl (.cons _ .slnil) (List.Sublist.refl _) trivial ⟨rfl, rfl, trivial⟩ ⟨AVle.refl _, AVle.refl _, AVle.refl _, le_int (wrap_succ (by dsimp only; omega)), AVle.refl _, AVle.refl _, (AVle.os_fun (appF_one (fun k h => absurd h (Nat.not_lt_zero k)) ?_)).trans (AVle.os_nm rfl), trivial⟩)
            exact rfl
          · (repeat ((conv=>whnf);first|refine ω0 ?_|refine ω1 ?_|refine ω2 ?_|refine ω3 ?_|refine ω4 rfl ?_|refine ω5 rfl ?_|refine ω6 ?_|refine ω7 ?_|refine ω8 ?_|refine ⟨rfl,?_⟩|refine ⟨trivial,?_⟩|refine ⟨⟨rfl,Nat.le_of_ble_eq_true rfl⟩,?_⟩|refine ⟨⟨by kernel_rfl,by kernel_rfl⟩,?_⟩|refine ⟨by decide,?_⟩|refine lit_true ?_|refine lit_false ?_))
            intro c hc
            obtain rfl : c = true := hc.trans (decide_eq_true (by dsimp only; omega))
            (repeat ((conv=>whnf);first|refine ω0 ?_|refine ω1 ?_|refine ω2 ?_|refine ω3 ?_|refine ω4 rfl ?_|refine ω5 rfl ?_|refine ω6 ?_|refine ω7 ?_|refine ω8 ?_|refine ⟨rfl,?_⟩|refine ⟨trivial,?_⟩|refine ⟨⟨rfl,Nat.le_of_ble_eq_true rfl⟩,?_⟩|refine ⟨⟨by kernel_rfl,by kernel_rfl⟩,?_⟩|refine ⟨by decide,?_⟩|refine lit_true ?_|refine lit_false ?_))
            refine ⟨⟨by dsimp only; omega, by dsimp only; omega⟩, ?_⟩
            (repeat ((conv=>whnf);first|refine ω0 ?_|refine ω1 ?_|refine ω2 ?_|refine ω3 ?_|refine ω4 rfl ?_|refine ω5 rfl ?_|refine ω6 ?_|refine ω7 ?_|refine ω8 ?_|refine ⟨rfl,?_⟩|refine ⟨trivial,?_⟩|refine ⟨⟨rfl,Nat.le_of_ble_eq_true rfl⟩,?_⟩|refine ⟨⟨by kernel_rfl,by kernel_rfl⟩,?_⟩|refine ⟨by decide,?_⟩|refine lit_true ?_|refine lit_false ?_))
            refine aop_tells rfl rfl hbr ⟨AVle.refl _, AVle.refl _, trivial⟩ fun nx3 => ?_
            (repeat ((conv=>whnf);first|refine ω0 ?_|refine ω1 ?_|refine ω2 ?_|refine ω3 ?_|refine ω4 rfl ?_|refine ω5 rfl ?_|refine ω6 ?_|refine ω7 ?_|refine ω8 ?_|refine ⟨rfl,?_⟩|refine ⟨trivial,?_⟩|refine ⟨⟨rfl,Nat.le_of_ble_eq_true rfl⟩,?_⟩|refine ⟨⟨by kernel_rfl,by kernel_rfl⟩,?_⟩|refine ⟨by decide,?_⟩|refine lit_true ?_|refine lit_false ?_))
            refine aop_tells rfl rfl hfr ⟨AVle.refl _, trivial⟩ fun nx4 => ?_
            (repeat ((conv=>whnf);first|refine ω0 ?_|refine ω1 ?_|refine ω2 ?_|refine ω3 ?_|refine ω4 rfl ?_|refine ω5 rfl ?_|refine ω6 ?_|refine ω7 ?_|refine ω8 ?_|refine ⟨rfl,?_⟩|refine ⟨trivial,?_⟩|refine ⟨⟨rfl,Nat.le_of_ble_eq_true rfl⟩,?_⟩|refine ⟨⟨by kernel_rfl,by kernel_rfl⟩,?_⟩|refine ⟨by decide,?_⟩|refine lit_true ?_|refine lit_false ?_))
            refine ⟨oneRow_one rfl, by show (i + 1) * 16 ≤ _; omega, by dsimp only; omega, ?_⟩
            (repeat ((conv=>whnf);first|refine ω0 ?_|refine ω1 ?_|refine ω2 ?_|refine ω3 ?_|refine ω4 rfl ?_|refine ω5 rfl ?_|refine ω6 ?_|refine ω7 ?_|refine ω8 ?_|refine ⟨rfl,?_⟩|refine ⟨trivial,?_⟩|refine ⟨⟨rfl,Nat.le_of_ble_eq_true rfl⟩,?_⟩|refine ⟨⟨by kernel_rfl,by kernel_rfl⟩,?_⟩|refine ⟨by decide,?_⟩|refine lit_true ?_|refine lit_false ?_))
            refine back (i + 1, some (nx4 + 1), nx4 + 2) ⟨by dsimp only; omega, (fun h => by cases h)⟩ (by dsimp only; omega) (ele_tell (pm := [((0, nx4 + 1), (i + 1) * 2)]) [] _ rfl rfl (.cons _ .slnil) (List.Sublist.refl _) trivial ⟨rfl, rfl, trivial⟩ ⟨AVle.refl _, AVle.refl _, AVle.refl _, le_int (wrap_succ (by dsimp only; omega)), AVle.refl _, AVle.refl _, (AVle.os_fun (appF_one (fun k hk => rfl) ?_)).trans (AVle.os_nm rfl), trivial⟩)
            exact rfl
        | none =>
          rw [(tellA_none hf).2] at hfr
          have ht := (tellA_none hf).1
          rcases oi with _ | id
          · obtain rfl := h4 rfl
            (repeat ((conv=>whnf);first|refine ω0 ?_|refine ω1 ?_|refine ω2 ?_|refine ω3 ?_|refine ω4 rfl ?_|refine ω5 rfl ?_|refine ω6 ?_|refine ω7 ?_|refine ω8 ?_|refine ⟨rfl,?_⟩|refine ⟨trivial,?_⟩|refine ⟨⟨rfl,Nat.le_of_ble_eq_true rfl⟩,?_⟩|refine ⟨⟨by kernel_rfl,by kernel_rfl⟩,?_⟩|refine ⟨by decide,?_⟩|refine lit_true ?_|refine lit_false ?_))
            intro c hc
            obtain rfl : c = true := hc.trans (decide_eq_true (by dsimp only; omega))
            (repeat ((conv=>whnf);first|refine ω0 ?_|refine ω1 ?_|refine ω2 ?_|refine ω3 ?_|refine ω4 rfl ?_|refine ω5 rfl ?_|refine ω6 ?_|refine ω7 ?_|refine ω8 ?_|refine ⟨rfl,?_⟩|refine ⟨trivial,?_⟩|refine ⟨⟨rfl,Nat.le_of_ble_eq_true rfl⟩,?_⟩|refine ⟨⟨by kernel_rfl,by kernel_rfl⟩,?_⟩|refine ⟨by decide,?_⟩|refine lit_true ?_|refine lit_false ?_))
            refine ⟨⟨by dsimp only; omega, by dsimp only; omega⟩, ?_⟩
            (repeat ((conv=>whnf);first|refine ω0 ?_|refine ω1 ?_|refine ω2 ?_|refine ω3 ?_|refine ω4 rfl ?_|refine ω5 rfl ?_|refine ω6 ?_|refine ω7 ?_|refine ω8 ?_|refine ⟨rfl,?_⟩|refine ⟨trivial,?_⟩|refine ⟨⟨rfl,Nat.le_of_ble_eq_true rfl⟩,?_⟩|refine ⟨⟨by kernel_rfl,by kernel_rfl⟩,?_⟩|refine ⟨by decide,?_⟩|refine lit_true ?_|refine lit_false ?_))
            refine aop_tells rfl rfl hbr ⟨AVle.refl _, AVle.refl _, trivial⟩ fun nx3 => ?_
            (repeat ((conv=>whnf);first|refine ω0 ?_|refine ω1 ?_|refine ω2 ?_|refine ω3 ?_|refine ω4 rfl ?_|refine ω5 rfl ?_|refine ω6 ?_|refine ω7 ?_|refine ω8 ?_|refine ⟨rfl,?_⟩|refine ⟨trivial,?_⟩|refine ⟨⟨rfl,Nat.le_of_ble_eq_true rfl⟩,?_⟩|refine ⟨⟨by kernel_rfl,by kernel_rfl⟩,?_⟩|refine ⟨by decide,?_⟩|refine lit_true ?_|refine lit_false ?_))
            refine aop_tells rfl rfl hfr ⟨AVle.refl _, trivial⟩ fun nx4 => ?_
            (repeat ((conv=>whnf);first|refine ω0 ?_|refine ω1 ?_|refine ω2 ?_|refine ω3 ?_|refine ω4 rfl ?_|refine ω5 rfl ?_|refine ω6 ?_|refine ω7 ?_|refine ω8 ?_|refine ⟨rfl,?_⟩|refine ⟨trivial,?_⟩|refine ⟨⟨rfl,Nat.le_of_ble_eq_true rfl⟩,?_⟩|refine ⟨⟨by kernel_rfl,by kernel_rfl⟩,?_⟩|refine ⟨by decide,?_⟩|refine lit_true ?_|refine lit_false ?_))
            refine ⟨oneRow_one rfl, by show (0 + 1) * 16 ≤ _; omega, by dsimp only; omega, ?_⟩
            (repeat ((conv=>whnf);first|refine ω0 ?_|refine ω1 ?_|refine ω2 ?_|refine ω3 ?_|refine ω4 rfl ?_|refine ω5 rfl ?_|refine ω6 ?_|refine ω7 ?_|refine ω8 ?_|refine ⟨rfl,?_⟩|refine ⟨trivial,?_⟩|refine ⟨⟨rfl,Nat.le_of_ble_eq_true rfl⟩,?_⟩|refine ⟨⟨by kernel_rfl,by kernel_rfl⟩,?_⟩|refine ⟨by decide,?_⟩|refine lit_true ?_|refine lit_false ?_))
            refine back (0 + 1, some (nx4 + 1), nx4 + 2) ⟨by dsimp only; omega, (fun h => by cases h)⟩ (by dsimp only; omega) (ele_tell (pm := [((0, nx4 + 1), (0 + 1) * 2)]) [] _ rfl rfl (.cons _ .slnil) (List.Sublist.refl _) trivial ⟨rfl, rfl, trivial⟩ ⟨AVle.refl _, AVle.refl _, AVle.refl _, le_int (wrap_succ (by dsimp only; omega)), AVle.refl _, AVle.refl _, (AVle.os_fun (appF_one (fun k h => absurd h (Nat.not_lt_zero k)) ?_)).trans (AVle.os_nm rfl), trivial⟩)
            exact (congrArg actP ht).symm
          · (repeat ((conv=>whnf);first|refine ω0 ?_|refine ω1 ?_|refine ω2 ?_|refine ω3 ?_|refine ω4 rfl ?_|refine ω5 rfl ?_|refine ω6 ?_|refine ω7 ?_|refine ω8 ?_|refine ⟨rfl,?_⟩|refine ⟨trivial,?_⟩|refine ⟨⟨rfl,Nat.le_of_ble_eq_true rfl⟩,?_⟩|refine ⟨⟨by kernel_rfl,by kernel_rfl⟩,?_⟩|refine ⟨by decide,?_⟩|refine lit_true ?_|refine lit_false ?_))
            intro c hc
            obtain rfl : c = true := hc.trans (decide_eq_true (by dsimp only; omega))
            (repeat ((conv=>whnf);first|refine ω0 ?_|refine ω1 ?_|refine ω2 ?_|refine ω3 ?_|refine ω4 rfl ?_|refine ω5 rfl ?_|refine ω6 ?_|refine ω7 ?_|refine ω8 ?_|refine ⟨rfl,?_⟩|refine ⟨trivial,?_⟩|refine ⟨⟨rfl,Nat.le_of_ble_eq_true rfl⟩,?_⟩|refine ⟨⟨by kernel_rfl,by kernel_rfl⟩,?_⟩|refine ⟨by decide,?_⟩|refine lit_true ?_|refine lit_false ?_))
            refine ⟨⟨by dsimp only; omega, by dsimp only; omega⟩, ?_⟩
            (repeat ((conv=>whnf);first|refine ω0 ?_|refine ω1 ?_|refine ω2 ?_|refine ω3 ?_|refine ω4 rfl ?_|refine ω5 rfl ?_|refine ω6 ?_|refine ω7 ?_|refine ω8 ?_|refine ⟨rfl,?_⟩|refine ⟨trivial,?_⟩|refine ⟨⟨rfl,Nat.le_of_ble_eq_true rfl⟩,?_⟩|refine ⟨⟨by kernel_rfl,by kernel_rfl⟩,?_⟩|refine ⟨by decide,?_⟩|refine lit_true ?_|refine lit_false ?_))
            refine aop_tells rfl rfl hbr ⟨AVle.refl _, AVle.refl _, trivial⟩ fun nx3 => ?_
            (repeat ((conv=>whnf);first|refine ω0 ?_|refine ω1 ?_|refine ω2 ?_|refine ω3 ?_|refine ω4 rfl ?_|refine ω5 rfl ?_|refine ω6 ?_|refine ω7 ?_|refine ω8 ?_|refine ⟨rfl,?_⟩|refine ⟨trivial,?_⟩|refine ⟨⟨rfl,Nat.le_of_ble_eq_true rfl⟩,?_⟩|refine ⟨⟨by kernel_rfl,by kernel_rfl⟩,?_⟩|refine ⟨by decide,?_⟩|refine lit_true ?_|refine lit_false ?_))
            refine aop_tells rfl rfl hfr ⟨AVle.refl _, trivial⟩ fun nx4 => ?_
            (repeat ((conv=>whnf);first|refine ω0 ?_|refine ω1 ?_|refine ω2 ?_|refine ω3 ?_|refine ω4 rfl ?_|refine ω5 rfl ?_|refine ω6 ?_|refine ω7 ?_|refine ω8 ?_|refine ⟨rfl,?_⟩|refine ⟨trivial,?_⟩|refine ⟨⟨rfl,Nat.le_of_ble_eq_true rfl⟩,?_⟩|refine ⟨⟨by kernel_rfl,by kernel_rfl⟩,?_⟩|refine ⟨by decide,?_⟩|refine lit_true ?_|refine lit_false ?_))
            refine ⟨oneRow_one rfl, by show (i + 1) * 16 ≤ _; omega, by dsimp only; omega, ?_⟩
            (repeat ((conv=>whnf);first|refine ω0 ?_|refine ω1 ?_|refine ω2 ?_|refine ω3 ?_|refine ω4 rfl ?_|refine ω5 rfl ?_|refine ω6 ?_|refine ω7 ?_|refine ω8 ?_|refine ⟨rfl,?_⟩|refine ⟨trivial,?_⟩|refine ⟨⟨rfl,Nat.le_of_ble_eq_true rfl⟩,?_⟩|refine ⟨⟨by kernel_rfl,by kernel_rfl⟩,?_⟩|refine ⟨by decide,?_⟩|refine lit_true ?_|refine lit_false ?_))
            refine back (i + 1, some (nx4 + 1), nx4 + 2) ⟨by dsimp only; omega, (fun h => by cases h)⟩ (by dsimp only; omega) (ele_tell (pm := [((0, nx4 + 1), (i + 1) * 2)]) [] _ rfl rfl (.cons _ .slnil) (List.Sublist.refl _) trivial ⟨rfl, rfl, trivial⟩ ⟨AVle.refl _, AVle.refl _, AVle.refl _, le_int (wrap_succ (by dsimp only; omega)), AVle.refl _, AVle.refl _, (AVle.os_fun (appF_one (fun k hk => rfl) ?_)).trans (AVle.os_nm rfl), trivial⟩)
            exact (congrArg actP ht).symm
end Go.Proofs.W
