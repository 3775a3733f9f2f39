import Derived.Test.YtbgpfhgpjbfcgaaYaStk
namespace Go.Proofs.Ytb
open Go.Vl

def gR (x m : A2) : A2 := if x.1 < m.1 then x else m
theorem gR_strict (m x : A2) : (if x.1 ≤ m.1 then x else m) = gR m x := by
  unfold gR
  by_cases h : x.1 ≤ m.1
  · rw [if_pos h, if_neg (by omega)]
  · rw [if_neg h, if_pos (by omega)]
theorem gR_assoc (a b c : A2) : gR (gR a b) c = gR a (gR b c) := by
  unfold gR
  repeat' split
  all_goals first | rfl | omega
theorem strict_gR (a : A2) (l : List A2) : strict a l = l.foldl gR a := by
  unfold strict
  congr 1
  funext m x
  exact gR_strict m x
theorem foldl_gR (a b : A2) (l : List A2) : l.foldl gR (gR a b) = gR a (l.foldl gR b) := by
  induction l generalizing b with
  | nil => rfl
  | cons c l ih => rw [List.foldl_cons, gR_assoc, ih, List.foldl_cons]
theorem foldr_gR (a d : A2) (l : List A2) : (a :: l).foldr gR d = gR (l.foldl gR a) d := by
  induction l generalizing a with
  | nil => rfl
  | cons b l ih => rw [List.foldr_cons, ih, ← gR_assoc, List.foldl_cons, foldl_gR]
theorem gR_self (x y : A2) : gR (gR x y) y = gR x y := by
  rw [gR_assoc]; unfold gR; simp
theorem foldr_last (a : A2) (r : List A2) : (a :: r).foldr gR ((a :: r).getD r.length (0, 0)) = strict a r := by
  rw [foldr_gR, strict_gR]
  rcases List.eq_nil_or_concat r with rfl | ⟨r', x, rfl⟩
  · simp [gR]
  · rw [List.concat_eq_append, List.foldl_append]
    simp [gR_self]

theorem f11_spec (a : A2) (r : List A2) (hl : r.length ≤ 1000000000) : Tells Try.prog 11 [acts (a :: r)] (actP (strict a r)) := by
  refine tells_of_aw Try.func11 rfl rfl fun nx => ?_
  (repeat ((conv => whnf); first | refine aw_seq ?_ | refine aw_region ?_ | refine aw_block ?_ | refine aw_skip ?_ | refine aw_true rfl ?_ | refine aw_false rfl ?_ | refine aw_exit ?_ | refine aw_label ?_ | refine aw_ret ?_ | refine And.intro rfl ?_ | refine And.intro (And.intro rfl (Nat.le_of_ble_eq_true rfl)) ?_ | refine And.intro (And.intro (by kernel_rfl) (by kernel_rfl)) ?_ | refine lit_true ?_ | refine lit_false ?_))
  have hw : IntKind.i64.wrap (((a :: r).length : Int) - 1) = (r.length : Int) := by
    have : (((a :: r).length : Nat) : Int) = (r.length : Int) + 1 := by simp
    rw [this, wrap_id (by omega) (by omega)]; omega
  refine ⟨⟨?_, ?_⟩, ?_⟩
  · rw [hw]; omega
  · rw [hw]; simp; omega
  rw [hw]
  (repeat ((conv => whnf); first | refine aw_seq ?_ | refine aw_region ?_ | refine aw_block ?_ | refine aw_skip ?_ | refine aw_true rfl ?_ | refine aw_false rfl ?_ | refine aw_exit ?_ | refine aw_label ?_ | refine aw_ret ?_ | refine And.intro rfl ?_ | refine And.intro (And.intro rfl (Nat.le_of_ble_eq_true rfl)) ?_ | refine And.intro (And.intro (by kernel_rfl) (by kernel_rfl)) ?_ | refine lit_true ?_ | refine lit_false ?_))
  refine aw_loop (fun s : Int × A2 × Nat => mk 31 [(0, acts (a :: r)), (2, .bp (0, nx) 0), (3, .bp (1, nx + 1) 0), (4, int s.1)] ⟨[((0, nx), [int 0, int 0]), ((1, nx + 1), [int s.2.1.1, int s.2.1.2])], [], s.2.2, 2⟩)
    (fun s => -1 ≤ s.1 ∧ s.1 ≤ r.length ∧ s.2.1 = ((a :: r).drop (s.1 + 1).toNat).foldr gR ((a :: r).getD r.length (0, 0))) (fun s => (s.1 + 1).toNat) ?_ ?_
  · refine ⟨(r.length, (a :: r).getD r.length (0, 0), nx + 2), ⟨by dsimp only; omega, by dsimp only; omega, ?_⟩, ele_mk rfl rfl ⟨AVle.refl _, AVle.refl _, AVle.refl _, le_int hw, trivial⟩⟩
    dsimp only
    rw [List.drop_of_length_le (by simp)]; rfl
  · rintro ⟨i, m, nx2⟩ ⟨h2, h3, h4⟩
    dsimp only at h2 h3 h4
    (repeat ((conv => whnf); first | refine aw_seq ?_ | refine aw_region ?_ | refine aw_block ?_ | refine aw_skip ?_ | refine aw_true rfl ?_ | refine aw_false rfl ?_ | refine aw_exit ?_ | refine aw_label ?_ | refine aw_ret ?_ | refine And.intro rfl ?_ | refine And.intro (And.intro rfl (Nat.le_of_ble_eq_true rfl)) ?_ | refine And.intro (And.intro (by kernel_rfl) (by kernel_rfl)) ?_ | refine lit_true ?_ | refine lit_false ?_))
    intro c h5; cases c
    · (repeat ((conv => whnf); first | refine aw_seq ?_ | refine aw_region ?_ | refine aw_block ?_ | refine aw_skip ?_ | refine aw_true rfl ?_ | refine aw_false rfl ?_ | refine aw_exit ?_ | refine aw_label ?_ | refine aw_ret ?_ | refine And.intro rfl ?_ | refine And.intro (And.intro rfl (Nat.le_of_ble_eq_true rfl)) ?_ | refine And.intro (And.intro (by kernel_rfl) (by kernel_rfl)) ?_ | refine lit_true ?_ | refine lit_false ?_))
      (refine ret_tells_all rfl ?_ ?_; (· exact ⟨rfl, trivial⟩))
      have h6 := not_of h5
      obtain rfl : i = -1 := by omega
      have : m = strict a r := by rw [h4, ← foldr_last]; rfl
      subst this
      exact AVle.refl _
    · obtain ⟨j, rfl⟩ := Int.eq_ofNat_of_zero_le (yes_of h5)
      have hd : (a :: r).drop j = (a :: r).getD j (0, 0) :: (a :: r).drop (j + 1) := by
        have hj : j < (a :: r).length := by simp; omega
        rw [List.drop_eq_getElem_cons hj, List.getD_eq_getElem?_getD, List.getElem?_eq_getElem hj]; rfl
      have hs : ((a :: r).drop j).foldr gR ((a :: r).getD r.length (0, 0)) = gR ((a :: r).getD j (0, 0)) m := by
        rw [hd, List.foldr_cons, h4]; rfl
      have hw2 : IntKind.i64.wrap ((j : Int) - 1) = (j : Int) - 1 := wrap_id (by omega) (by omega)
      (repeat ((conv => whnf); first | refine aw_seq ?_ | refine aw_region ?_ | refine aw_block ?_ | refine aw_skip ?_ | refine aw_true rfl ?_ | refine aw_false rfl ?_ | refine aw_exit ?_ | refine aw_label ?_ | refine aw_ret ?_ | refine And.intro rfl ?_ | refine And.intro (And.intro rfl (Nat.le_of_ble_eq_true rfl)) ?_ | refine And.intro (And.intro (by kernel_rfl) (by kernel_rfl)) ?_ | refine lit_true ?_ | refine lit_false ?_))
      (refine aw_draw 8 ?_ ?_ ?_ ?_; (· kernel_rfl); (· kernel_rfl); (· kernel_rfl))
      refine ⟨⟨by omega, by simp; omega⟩, ?_⟩
      (repeat ((conv => whnf); first | refine aw_seq ?_ | refine aw_region ?_ | refine aw_block ?_ | refine aw_skip ?_ | refine aw_true rfl ?_ | refine aw_false rfl ?_ | refine aw_exit ?_ | refine aw_label ?_ | refine aw_ret ?_ | refine And.intro rfl ?_ | refine And.intro (And.intro rfl (Nat.le_of_ble_eq_true rfl)) ?_ | refine And.intro (And.intro (by kernel_rfl) (by kernel_rfl)) ?_ | refine lit_true ?_ | refine lit_false ?_))
      intro c h6; cases c
      · (repeat ((conv => whnf); first | refine aw_seq ?_ | refine aw_region ?_ | refine aw_block ?_ | refine aw_skip ?_ | refine aw_true rfl ?_ | refine aw_false rfl ?_ | refine aw_exit ?_ | refine aw_label ?_ | refine aw_ret ?_ | refine And.intro rfl ?_ | refine And.intro (And.intro rfl (Nat.le_of_ble_eq_true rfl)) ?_ | refine And.intro (And.intro (by kernel_rfl) (by kernel_rfl)) ?_ | refine lit_true ?_ | refine lit_false ?_))
        refine back ((j : Int) - 1, m, nx2) ⟨by dsimp only; omega, by dsimp only; omega, ?_⟩ (by dsimp only; omega) (ele_mk rfl rfl ⟨AVle.refl _, AVle.refl _, AVle.refl _, le_int hw2, trivial⟩)
        have h7 : ¬ ((a :: r).getD j (0, 0)).1 < m.1 := not_of h6
        dsimp only
        rw [Int.sub_add_cancel, Int.toNat_natCast, hs, gR, if_neg h7]
      · (repeat ((conv => whnf); first | refine aw_seq ?_ | refine aw_region ?_ | refine aw_block ?_ | refine aw_skip ?_ | refine aw_true rfl ?_ | refine aw_false rfl ?_ | refine aw_exit ?_ | refine aw_label ?_ | refine aw_ret ?_ | refine And.intro rfl ?_ | refine And.intro (And.intro rfl (Nat.le_of_ble_eq_true rfl)) ?_ | refine And.intro (And.intro (by kernel_rfl) (by kernel_rfl)) ?_ | refine lit_true ?_ | refine lit_false ?_))
        refine ⟨⟨by omega, by simp; omega⟩, ?_⟩
        (repeat ((conv => whnf); first | refine aw_seq ?_ | refine aw_region ?_ | refine aw_block ?_ | refine aw_skip ?_ | refine aw_true rfl ?_ | refine aw_false rfl ?_ | refine aw_exit ?_ | refine aw_label ?_ | refine aw_ret ?_ | refine And.intro rfl ?_ | refine And.intro (And.intro rfl (Nat.le_of_ble_eq_true rfl)) ?_ | refine And.intro (And.intro (by kernel_rfl) (by kernel_rfl)) ?_ | refine lit_true ?_ | refine lit_false ?_))
        refine back ((j : Int) - 1, (a :: r).getD j (0, 0), nx2) ⟨by dsimp only; omega, by dsimp only; omega, ?_⟩ (by dsimp only; omega) (ele_mk rfl rfl ⟨AVle.refl _, AVle.refl _, AVle.refl _, le_int hw2, trivial⟩)
        have h7 : ((a :: r).getD j (0, 0)).1 < m.1 := yes_of h6
        dsimp only
        rw [Int.sub_add_cancel, Int.toNat_natCast, hs, gR, if_pos h7]

theorem f10_spec : Tells Try.prog 10 [] (boolA true) := by
  refine tells_of_aw Try.func10 rfl rfl fun nx => ?_
  (repeat ((conv => whnf); first | refine aw_seq ?_ | refine aw_region ?_ | refine aw_block ?_ | refine aw_skip ?_ | refine aw_true rfl ?_ | refine aw_false rfl ?_ | refine aw_exit ?_ | refine aw_label ?_ | refine aw_ret ?_ | refine And.intro rfl ?_ | refine And.intro (And.intro rfl (Nat.le_of_ble_eq_true rfl)) ?_ | refine And.intro (And.intro (by kernel_rfl) (by kernel_rfl)) ?_ | refine lit_true ?_ | refine lit_false ?_))
  refine aop_tells (s := .tup [act 4 1, int 0]) rfl rfl ((f9_spec [(7, 0), (4, 1)] (by decide)).of_eq rfl) ⟨AVle.os_sl.trans (AVle.sl_fun (allK_use ⟨⟨trivial, rfl⟩, rfl⟩)), trivial⟩ fun nx' => ?_
  (repeat ((conv => whnf); first | refine aw_seq ?_ | refine aw_region ?_ | refine aw_block ?_ | refine aw_skip ?_ | refine aw_true rfl ?_ | refine aw_false rfl ?_ | refine aw_exit ?_ | refine aw_label ?_ | refine aw_ret ?_ | refine And.intro rfl ?_ | refine And.intro (And.intro rfl (Nat.le_of_ble_eq_true rfl)) ?_ | refine And.intro (And.intro (by kernel_rfl) (by kernel_rfl)) ?_ | refine lit_true ?_ | refine lit_false ?_))
  refine aop_tells (s := .tup [act 4 2, int 0]) rfl rfl ((f9_spec [(4, 1), (4, 2)] (by decide)).of_eq rfl) ⟨AVle.os_sl.trans (AVle.sl_fun (allK_use ⟨⟨trivial, rfl⟩, rfl⟩)), trivial⟩ fun nx' => ?_
  (repeat ((conv => whnf); first | refine aw_seq ?_ | refine aw_region ?_ | refine aw_block ?_ | refine aw_skip ?_ | refine aw_true rfl ?_ | refine aw_false rfl ?_ | refine aw_exit ?_ | refine aw_label ?_ | refine aw_ret ?_ | refine And.intro rfl ?_ | refine And.intro (And.intro rfl (Nat.le_of_ble_eq_true rfl)) ?_ | refine And.intro (And.intro (by kernel_rfl) (by kernel_rfl)) ?_ | refine lit_true ?_ | refine lit_false ?_))
  refine ret_tells rfl (AVle.refl _)

/-- The law, over lists. -/
theorem strict_law (a : A2) (r : List A2) : (act (strict a r).1 (strict a r).2) = actP (strict a r) := rfl
def growL (l : List A2) (i : Nat) : List A2 := l.take i
theorem law_spec (l : List A2) (hm : l.length ≤ maxLen) : PCall Try.prog 3 [acts l] (fun r => r = .v (.bool true)) := by
  refine pcall_of_aw Try.func3 rfl rfl fun nx => ?_
  (repeat ((conv => whnf); first | refine aw_seq ?_ | refine aw_region ?_ | refine aw_block ?_ | refine aw_skip ?_ | refine aw_true rfl ?_ | refine aw_false rfl ?_ | refine aw_exit ?_ | refine aw_label ?_ | refine aw_ret ?_ | refine And.intro rfl ?_ | refine And.intro (And.intro rfl (Nat.le_of_ble_eq_true rfl)) ?_ | refine And.intro (And.intro (by kernel_rfl) (by kernel_rfl)) ?_ | refine lit_true ?_ | refine lit_false ?_))
  intro c h0; cases c
  · have hl := not_of h0
    (repeat ((conv => whnf); first | refine aw_seq ?_ | refine aw_region ?_ | refine aw_block ?_ | refine aw_skip ?_ | refine aw_true rfl ?_ | refine aw_false rfl ?_ | refine aw_exit ?_ | refine aw_label ?_ | refine aw_ret ?_ | refine And.intro rfl ?_ | refine And.intro (And.intro rfl (Nat.le_of_ble_eq_true rfl)) ?_ | refine And.intro (And.intro (by kernel_rfl) (by kernel_rfl)) ?_ | refine lit_true ?_ | refine lit_false ?_))
    refine aw_loop (fun s : Nat × Option Nat × Bool × Nat => mk 88 [(0, acts l), (2, boolA false), (3, .os 2 s.1 (fun k => actP (l.getD k (0, 0))) (nmd s.2.1)), (4, boolA s.2.2.1), (5, int s.1)] ⟨[], pmOf (nmd s.2.1) (s.1 * 2), s.2.2.2, 0⟩)
      (fun s => s.1 ≤ l.length ∧ (s.2.1 = none → s.1 = 0) ∧ s.2.2.1 = !(l.take s.1).any wrongA) (fun s => l.length - s.1) ?_ ?_
    · exact ⟨(0, none, true, nx), ⟨by simp, fun _ => rfl, by simp⟩, ele_mk rfl rfl ⟨AVle.refl _, AVle.refl _, AVle.os_nil, AVle.refl _, AVle.refl _, trivial⟩⟩
    · rintro ⟨i, oi, b, nx2⟩ ⟨h2, h3, h6⟩
      dsimp only at h2 h3 h6
      (repeat ((conv => whnf); first | refine aw_seq ?_ | refine aw_region ?_ | refine aw_block ?_ | refine aw_skip ?_ | refine aw_true rfl ?_ | refine aw_false rfl ?_ | refine aw_exit ?_ | refine aw_label ?_ | refine aw_ret ?_ | refine And.intro rfl ?_ | refine And.intro (And.intro rfl (Nat.le_of_ble_eq_true rfl)) ?_ | refine And.intro (And.intro (by kernel_rfl) (by kernel_rfl)) ?_ | refine lit_true ?_ | refine lit_false ?_))
      intro c h4; cases c
      · have h5 := not_of h4
        dsimp only at h5
        obtain rfl : i = l.length := by omega
        rw [List.take_length] at h6
        rcases l with _ | ⟨a, r⟩
        · (repeat ((conv => whnf); first | refine aw_seq ?_ | refine aw_region ?_ | refine aw_block ?_ | refine aw_skip ?_ | refine aw_true rfl ?_ | refine aw_false rfl ?_ | refine aw_exit ?_ | refine aw_label ?_ | refine aw_ret ?_ | refine And.intro rfl ?_ | refine And.intro (And.intro rfl (Nat.le_of_ble_eq_true rfl)) ?_ | refine And.intro (And.intro (by kernel_rfl) (by kernel_rfl)) ?_ | refine lit_true ?_ | refine lit_false ?_))
          refine aop_tells (s := .tup [act 0 0, int 4]) rfl rfl (f9_spec [] (by simp)) ⟨AVle.os_sl, trivial⟩ fun nx3 => ?_
          (repeat ((conv => whnf); first | refine aw_seq ?_ | refine aw_region ?_ | refine aw_block ?_ | refine aw_skip ?_ | refine aw_true rfl ?_ | refine aw_false rfl ?_ | refine aw_exit ?_ | refine aw_label ?_ | refine aw_ret ?_ | refine And.intro rfl ?_ | refine And.intro (And.intro rfl (Nat.le_of_ble_eq_true rfl)) ?_ | refine And.intro (And.intro (by kernel_rfl) (by kernel_rfl)) ?_ | refine lit_true ?_ | refine lit_false ?_))
          refine aop_tells rfl rfl f10_spec trivial fun nx4 => ?_
          (repeat ((conv => whnf); first | refine aw_seq ?_ | refine aw_region ?_ | refine aw_block ?_ | refine aw_skip ?_ | refine aw_true rfl ?_ | refine aw_false rfl ?_ | refine aw_exit ?_ | refine aw_label ?_ | refine aw_ret ?_ | refine And.intro rfl ?_ | refine And.intro (And.intro rfl (Nat.le_of_ble_eq_true rfl)) ?_ | refine And.intro (And.intro (by kernel_rfl) (by kernel_rfl)) ?_ | refine lit_true ?_ | refine lit_false ?_))
          refine ret_all rfl trivial rfl
        · by_cases hw : ((a :: r).findIdx? wrongA).isSome
          · have h9 := (f9_spec (a :: r) (by omega)).of_eq (s' := .tup [act 0 0, int 16]) (by rw [strictest, if_pos hw]; rfl)
            rw [List.findIdx?_isSome] at hw
            rw [hw] at h6
            subst h6
            (repeat ((conv => whnf); first | refine aw_seq ?_ | refine aw_region ?_ | refine aw_block ?_ | refine aw_skip ?_ | refine aw_true rfl ?_ | refine aw_false rfl ?_ | refine aw_exit ?_ | refine aw_label ?_ | refine aw_ret ?_ | refine And.intro rfl ?_ | refine And.intro (And.intro rfl (Nat.le_of_ble_eq_true rfl)) ?_ | refine And.intro (And.intro (by kernel_rfl) (by kernel_rfl)) ?_ | refine lit_true ?_ | refine lit_false ?_))
            refine aop_tells rfl rfl h9 ⟨AVle.os_sl, trivial⟩ fun nx3 => ?_
            (repeat ((conv => whnf); first | refine aw_seq ?_ | refine aw_region ?_ | refine aw_block ?_ | refine aw_skip ?_ | refine aw_true rfl ?_ | refine aw_false rfl ?_ | refine aw_exit ?_ | refine aw_label ?_ | refine aw_ret ?_ | refine And.intro rfl ?_ | refine And.intro (And.intro rfl (Nat.le_of_ble_eq_true rfl)) ?_ | refine And.intro (And.intro (by kernel_rfl) (by kernel_rfl)) ?_ | refine lit_true ?_ | refine lit_false ?_))
            refine aop_tells rfl rfl f10_spec trivial fun nx4 => ?_
            (repeat ((conv => whnf); first | refine aw_seq ?_ | refine aw_region ?_ | refine aw_block ?_ | refine aw_skip ?_ | refine aw_true rfl ?_ | refine aw_false rfl ?_ | refine aw_exit ?_ | refine aw_label ?_ | refine aw_ret ?_ | refine And.intro rfl ?_ | refine And.intro (And.intro rfl (Nat.le_of_ble_eq_true rfl)) ?_ | refine And.intro (And.intro (by kernel_rfl) (by kernel_rfl)) ?_ | refine lit_true ?_ | refine lit_false ?_))
            refine ret_all rfl trivial rfl
          · have h9 := (f9_spec (a :: r) (by omega)).of_eq (s' := .tup [actP (strict a r), int 0]) (by rw [strictest, if_neg hw])
            rw [List.findIdx?_isSome] at hw
            have hw' : (a :: r).any wrongA = false := by simpa using hw
            rw [hw'] at h6
            subst h6
            (repeat ((conv => whnf); first | refine aw_seq ?_ | refine aw_region ?_ | refine aw_block ?_ | refine aw_skip ?_ | refine aw_true rfl ?_ | refine aw_false rfl ?_ | refine aw_exit ?_ | refine aw_label ?_ | refine aw_ret ?_ | refine And.intro rfl ?_ | refine And.intro (And.intro rfl (Nat.le_of_ble_eq_true rfl)) ?_ | refine And.intro (And.intro (by kernel_rfl) (by kernel_rfl)) ?_ | refine lit_true ?_ | refine lit_false ?_))
            refine aop_tells rfl rfl h9 ⟨AVle.os_sl, trivial⟩ fun nx3 => ?_
            (repeat ((conv => whnf); first | refine aw_seq ?_ | refine aw_region ?_ | refine aw_block ?_ | refine aw_skip ?_ | refine aw_true rfl ?_ | refine aw_false rfl ?_ | refine aw_exit ?_ | refine aw_label ?_ | refine aw_ret ?_ | refine And.intro rfl ?_ | refine And.intro (And.intro rfl (Nat.le_of_ble_eq_true rfl)) ?_ | refine And.intro (And.intro (by kernel_rfl) (by kernel_rfl)) ?_ | refine lit_true ?_ | refine lit_false ?_))
            refine aop_tells rfl rfl (f11_spec a r (by simp at hl; omega)) ⟨AVle.refl _, trivial⟩ fun nx4 => ?_
            (repeat ((conv => whnf); first | refine aw_seq ?_ | refine aw_region ?_ | refine aw_block ?_ | refine aw_skip ?_ | refine aw_true rfl ?_ | refine aw_false rfl ?_ | refine aw_exit ?_ | refine aw_label ?_ | refine aw_ret ?_ | refine And.intro rfl ?_ | refine And.intro (And.intro rfl (Nat.le_of_ble_eq_true rfl)) ?_ | refine And.intro (And.intro (by kernel_rfl) (by kernel_rfl)) ?_ | refine lit_true ?_ | refine lit_false ?_))
            intro c h10; cases c
            · simp at h10
            (repeat ((conv => whnf); first | refine aw_seq ?_ | refine aw_region ?_ | refine aw_block ?_ | refine aw_skip ?_ | refine aw_true rfl ?_ | refine aw_false rfl ?_ | refine aw_exit ?_ | refine aw_label ?_ | refine aw_ret ?_ | refine And.intro rfl ?_ | refine And.intro (And.intro rfl (Nat.le_of_ble_eq_true rfl)) ?_ | refine And.intro (And.intro (by kernel_rfl) (by kernel_rfl)) ?_ | refine lit_true ?_ | refine lit_false ?_))
            refine aop_tells rfl rfl f10_spec trivial fun nx4 => ?_
            (repeat ((conv => whnf); first | refine aw_seq ?_ | refine aw_region ?_ | refine aw_block ?_ | refine aw_skip ?_ | refine aw_true rfl ?_ | refine aw_false rfl ?_ | refine aw_exit ?_ | refine aw_label ?_ | refine aw_ret ?_ | refine And.intro rfl ?_ | refine And.intro (And.intro rfl (Nat.le_of_ble_eq_true rfl)) ?_ | refine And.intro (And.intro (by kernel_rfl) (by kernel_rfl)) ?_ | refine lit_true ?_ | refine lit_false ?_))
            refine ret_all rfl trivial rfl
      · have h5 := yes_of h4
        dsimp only at h5
        have hany : (!(l.take (i + 1)).any wrongA) = ((!(l.take i).any wrongA) && right9 (l.getD i (0, 0)).1 (l.getD i (0, 0)).2) := by
          rw [take_getD (0, 0) (by omega), List.any_append]; simp [wrongA]
        rcases oi with _ | id
        · obtain rfl := h3 rfl
          (repeat ((conv => whnf); first | refine aw_seq ?_ | refine aw_region ?_ | refine aw_block ?_ | refine aw_skip ?_ | refine aw_true rfl ?_ | refine aw_false rfl ?_ | refine aw_exit ?_ | refine aw_label ?_ | refine aw_ret ?_ | refine And.intro rfl ?_ | refine And.intro (And.intro rfl (Nat.le_of_ble_eq_true rfl)) ?_ | refine And.intro (And.intro (by kernel_rfl) (by kernel_rfl)) ?_ | refine lit_true ?_ | refine lit_false ?_))
          (refine aw_draw 13 ?_ ?_ ?_ ?_; (· kernel_rfl); (· kernel_rfl); (· kernel_rfl))
          refine ⟨⟨by omega, by simp; omega⟩, ?_⟩
          (repeat ((conv => whnf); first | refine aw_seq ?_ | refine aw_region ?_ | refine aw_block ?_ | refine aw_skip ?_ | refine aw_true rfl ?_ | refine aw_false rfl ?_ | refine aw_exit ?_ | refine aw_label ?_ | refine aw_ret ?_ | refine And.intro rfl ?_ | refine And.intro (And.intro rfl (Nat.le_of_ble_eq_true rfl)) ?_ | refine And.intro (And.intro (by kernel_rfl) (by kernel_rfl)) ?_ | refine lit_true ?_ | refine lit_false ?_))
          refine ⟨⟨by omega, by simp; omega⟩, ?_⟩
          (repeat ((conv => whnf); first | refine aw_seq ?_ | refine aw_region ?_ | refine aw_block ?_ | refine aw_skip ?_ | refine aw_true rfl ?_ | refine aw_false rfl ?_ | refine aw_exit ?_ | refine aw_label ?_ | refine aw_ret ?_ | refine And.intro rfl ?_ | refine And.intro (And.intro rfl (Nat.le_of_ble_eq_true rfl)) ?_ | refine And.intro (And.intro (by kernel_rfl) (by kernel_rfl)) ?_ | refine lit_true ?_ | refine lit_false ?_))
          refine ⟨trivial, ?_⟩
          (conv => whnf)
          refine ⟨oneRow_one rfl, by show (0 + 1) * 16 ≤ _; omega, by dsimp only; omega, ?_⟩
          (repeat ((conv => whnf); first | refine aw_seq ?_ | refine aw_region ?_ | refine aw_block ?_ | refine aw_skip ?_ | refine aw_true rfl ?_ | refine aw_false rfl ?_ | refine aw_exit ?_ | refine aw_label ?_ | refine aw_ret ?_ | refine And.intro rfl ?_ | refine And.intro (And.intro rfl (Nat.le_of_ble_eq_true rfl)) ?_ | refine And.intro (And.intro (by kernel_rfl) (by kernel_rfl)) ?_ | refine lit_true ?_ | refine lit_false ?_))
          rcases b with _ | _
          · (repeat ((conv => whnf); first | refine aw_seq ?_ | refine aw_region ?_ | refine aw_block ?_ | refine aw_skip ?_ | refine aw_true rfl ?_ | refine aw_false rfl ?_ | refine aw_exit ?_ | refine aw_label ?_ | refine aw_ret ?_ | refine And.intro rfl ?_ | refine And.intro (And.intro rfl (Nat.le_of_ble_eq_true rfl)) ?_ | refine And.intro (And.intro (by kernel_rfl) (by kernel_rfl)) ?_ | refine lit_true ?_ | refine lit_false ?_))
            refine back (0 + 1, some nx2, false, nx2 + 1) ⟨by dsimp only; omega, (fun h => by cases h), by dsimp only; rw [hany, ← h6]; rfl⟩ (by dsimp only; omega) (ele_keep rfl rfl .slnil (.cons_cons _ .slnil) ⟨AVle.refl _, AVle.refl _, AVle.os_fun (appF_one (fun k hk => rfl) rfl), AVle.refl _, le_int (wrap_succ (by omega)), trivial⟩)
          · (repeat ((conv => whnf); first | refine aw_seq ?_ | refine aw_region ?_ | refine aw_block ?_ | refine aw_skip ?_ | refine aw_true rfl ?_ | refine aw_false rfl ?_ | refine aw_exit ?_ | refine aw_label ?_ | refine aw_ret ?_ | refine And.intro rfl ?_ | refine And.intro (And.intro rfl (Nat.le_of_ble_eq_true rfl)) ?_ | refine And.intro (And.intro (by kernel_rfl) (by kernel_rfl)) ?_ | refine lit_true ?_ | refine lit_false ?_))
            refine ⟨⟨by omega, by simp; omega⟩, ?_⟩
            (repeat ((conv => whnf); first | refine aw_seq ?_ | refine aw_region ?_ | refine aw_block ?_ | refine aw_skip ?_ | refine aw_true rfl ?_ | refine aw_false rfl ?_ | refine aw_exit ?_ | refine aw_label ?_ | refine aw_ret ?_ | refine And.intro rfl ?_ | refine And.intro (And.intro rfl (Nat.le_of_ble_eq_true rfl)) ?_ | refine And.intro (And.intro (by kernel_rfl) (by kernel_rfl)) ?_ | refine lit_true ?_ | refine lit_false ?_))
            refine aop_tells rfl rfl (right9_spec (l.getD 0 (0, 0)).1 (l.getD 0 (0, 0)).2) ⟨AVle.refl _, trivial⟩ fun nx3 => ?_
            intro c h7; cases c
            all_goals
              (repeat ((conv => whnf); first | refine aw_seq ?_ | refine aw_region ?_ | refine aw_block ?_ | refine aw_skip ?_ | refine aw_true rfl ?_ | refine aw_false rfl ?_ | refine aw_exit ?_ | refine aw_label ?_ | refine aw_ret ?_ | refine And.intro rfl ?_ | refine And.intro (And.intro rfl (Nat.le_of_ble_eq_true rfl)) ?_ | refine And.intro (And.intro (by kernel_rfl) (by kernel_rfl)) ?_ | refine lit_true ?_ | refine lit_false ?_))
              refine back (0 + 1, some nx2, _, nx3) ⟨by dsimp only; omega, (fun h => by cases h), by dsimp only; rw [hany, ← h6, ← h7]; rfl⟩ (by dsimp only; omega) (ele_keep rfl rfl .slnil (.cons_cons _ .slnil) ⟨AVle.refl _, AVle.refl _, AVle.os_fun (appF_one (fun k hk => rfl) rfl), AVle.refl _, le_int (wrap_succ (by omega)), trivial⟩)
        · (repeat ((conv => whnf); first | refine aw_seq ?_ | refine aw_region ?_ | refine aw_block ?_ | refine aw_skip ?_ | refine aw_true rfl ?_ | refine aw_false rfl ?_ | refine aw_exit ?_ | refine aw_label ?_ | refine aw_ret ?_ | refine And.intro rfl ?_ | refine And.intro (And.intro rfl (Nat.le_of_ble_eq_true rfl)) ?_ | refine And.intro (And.intro (by kernel_rfl) (by kernel_rfl)) ?_ | refine lit_true ?_ | refine lit_false ?_))
          (refine aw_draw 13 ?_ ?_ ?_ ?_; (· kernel_rfl); (· kernel_rfl); (· kernel_rfl))
          refine ⟨⟨by omega, by simp; omega⟩, ?_⟩
          (repeat ((conv => whnf); first | refine aw_seq ?_ | refine aw_region ?_ | refine aw_block ?_ | refine aw_skip ?_ | refine aw_true rfl ?_ | refine aw_false rfl ?_ | refine aw_exit ?_ | refine aw_label ?_ | refine aw_ret ?_ | refine And.intro rfl ?_ | refine And.intro (And.intro rfl (Nat.le_of_ble_eq_true rfl)) ?_ | refine And.intro (And.intro (by kernel_rfl) (by kernel_rfl)) ?_ | refine lit_true ?_ | refine lit_false ?_))
          refine ⟨⟨by omega, by simp; omega⟩, ?_⟩
          (repeat ((conv => whnf); first | refine aw_seq ?_ | refine aw_region ?_ | refine aw_block ?_ | refine aw_skip ?_ | refine aw_true rfl ?_ | refine aw_false rfl ?_ | refine aw_exit ?_ | refine aw_label ?_ | refine aw_ret ?_ | refine And.intro rfl ?_ | refine And.intro (And.intro rfl (Nat.le_of_ble_eq_true rfl)) ?_ | refine And.intro (And.intro (by kernel_rfl) (by kernel_rfl)) ?_ | refine lit_true ?_ | refine lit_false ?_))
          refine ⟨oneRow_one rfl, by show (i + 1) * 16 ≤ _; omega, by dsimp only; omega, ?_⟩
          (repeat ((conv => whnf); first | refine aw_seq ?_ | refine aw_region ?_ | refine aw_block ?_ | refine aw_skip ?_ | refine aw_true rfl ?_ | refine aw_false rfl ?_ | refine aw_exit ?_ | refine aw_label ?_ | refine aw_ret ?_ | refine And.intro rfl ?_ | refine And.intro (And.intro rfl (Nat.le_of_ble_eq_true rfl)) ?_ | refine And.intro (And.intro (by kernel_rfl) (by kernel_rfl)) ?_ | refine lit_true ?_ | refine lit_false ?_))
          rcases b with _ | _
          · (repeat ((conv => whnf); first | refine aw_seq ?_ | refine aw_region ?_ | refine aw_block ?_ | refine aw_skip ?_ | refine aw_true rfl ?_ | refine aw_false rfl ?_ | refine aw_exit ?_ | refine aw_label ?_ | refine aw_ret ?_ | refine And.intro rfl ?_ | refine And.intro (And.intro rfl (Nat.le_of_ble_eq_true rfl)) ?_ | refine And.intro (And.intro (by kernel_rfl) (by kernel_rfl)) ?_ | refine lit_true ?_ | refine lit_false ?_))
            refine back (i + 1, some nx2, false, nx2 + 1) ⟨by dsimp only; omega, (fun h => by cases h), by dsimp only; rw [hany, ← h6]; rfl⟩ (by dsimp only; omega) (ele_keep rfl rfl .slnil (.cons_cons _ .slnil) ⟨AVle.refl _, AVle.refl _, AVle.os_fun (appF_one (fun k hk => rfl) rfl), AVle.refl _, le_int (wrap_succ (by omega)), trivial⟩)
          · (repeat ((conv => whnf); first | refine aw_seq ?_ | refine aw_region ?_ | refine aw_block ?_ | refine aw_skip ?_ | refine aw_true rfl ?_ | refine aw_false rfl ?_ | refine aw_exit ?_ | refine aw_label ?_ | refine aw_ret ?_ | refine And.intro rfl ?_ | refine And.intro (And.intro rfl (Nat.le_of_ble_eq_true rfl)) ?_ | refine And.intro (And.intro (by kernel_rfl) (by kernel_rfl)) ?_ | refine lit_true ?_ | refine lit_false ?_))
            refine ⟨⟨by omega, by simp; omega⟩, ?_⟩
            (repeat ((conv => whnf); first | refine aw_seq ?_ | refine aw_region ?_ | refine aw_block ?_ | refine aw_skip ?_ | refine aw_true rfl ?_ | refine aw_false rfl ?_ | refine aw_exit ?_ | refine aw_label ?_ | refine aw_ret ?_ | refine And.intro rfl ?_ | refine And.intro (And.intro rfl (Nat.le_of_ble_eq_true rfl)) ?_ | refine And.intro (And.intro (by kernel_rfl) (by kernel_rfl)) ?_ | refine lit_true ?_ | refine lit_false ?_))
            refine aop_tells rfl rfl (right9_spec (l.getD i (0, 0)).1 (l.getD i (0, 0)).2) ⟨AVle.refl _, trivial⟩ fun nx3 => ?_
            intro c h7; cases c
            all_goals
              (repeat ((conv => whnf); first | refine aw_seq ?_ | refine aw_region ?_ | refine aw_block ?_ | refine aw_skip ?_ | refine aw_true rfl ?_ | refine aw_false rfl ?_ | refine aw_exit ?_ | refine aw_label ?_ | refine aw_ret ?_ | refine And.intro rfl ?_ | refine And.intro (And.intro rfl (Nat.le_of_ble_eq_true rfl)) ?_ | refine And.intro (And.intro (by kernel_rfl) (by kernel_rfl)) ?_ | refine lit_true ?_ | refine lit_false ?_))
              refine back (i + 1, some nx2, _, nx3) ⟨by dsimp only; omega, (fun h => by cases h), by dsimp only; rw [hany, ← h6, ← h7]; rfl⟩ (by dsimp only; omega) (ele_keep rfl rfl .slnil (.cons_cons _ .slnil) ⟨AVle.refl _, AVle.refl _, AVle.os_fun (appF_one (fun k hk => rfl) rfl), AVle.refl _, le_int (wrap_succ (by omega)), trivial⟩)
  · (repeat ((conv => whnf); first | refine aw_seq ?_ | refine aw_region ?_ | refine aw_block ?_ | refine aw_skip ?_ | refine aw_true rfl ?_ | refine aw_false rfl ?_ | refine aw_exit ?_ | refine aw_label ?_ | refine aw_ret ?_ | refine And.intro rfl ?_ | refine And.intro (And.intro rfl (Nat.le_of_ble_eq_true rfl)) ?_ | refine And.intro (And.intro (by kernel_rfl) (by kernel_rfl)) ?_ | refine lit_true ?_ | refine lit_false ?_))
    refine ret_all rfl trivial rfl
end Go.Proofs.Ytb
