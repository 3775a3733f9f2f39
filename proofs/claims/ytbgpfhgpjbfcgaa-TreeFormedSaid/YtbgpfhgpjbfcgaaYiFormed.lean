import Derived.Test.YtbgpfhgpjbfcgaaYhLong
namespace Go.Proofs.Ytb
open Go.Vl

def cnt (t : List Node) (i : Nat) : Nat := (t.take i).countP (·.leaf)
theorem cnt_succ {t : List Node} {i : Nat} (h : i < t.length) : cnt t (i + 1) = cnt t i + (if (t.getD i node0).leaf then 1 else 0) := by
  unfold cnt
  rw [take_getD node0 h, List.countP_append]
  simp [List.countP_cons]
theorem cnt_le (t : List Node) (i : Nat) : cnt t i ≤ t.length := by
  unfold cnt
  have h1 := List.countP_le_length (p := fun n : Node => n.leaf) (l := t.take i)
  have h2 := List.length_take_le i t
  have h3 : (t.take i).length ≤ t.length := by rw [List.length_take]; omega
  omega
set_option maxHeartbeats 4000000 in
theorem formed_spec (l : List Int) (hm : l.length ≤ maxLen) : PCall Try.prog 5 [u32s l] (fun r => r = .v (.bool true)) := by
  refine pcall_of_aw Try.func5 rfl rfl fun nx => ?_
  (repeat ((conv => whnf); first | refine aw_seq ?_ | refine aw_region ?_ | refine aw_block ?_ | refine aw_skip ?_ | refine aw_true rfl ?_ | refine aw_false rfl ?_ | refine aw_exit ?_ | refine aw_label ?_ | refine aw_ret ?_ | refine And.intro rfl ?_ | refine And.intro trivial ?_ | refine And.intro (And.intro rfl (Nat.le_of_ble_eq_true rfl)) ?_ | refine And.intro (And.intro (by kernel_rfl) (by kernel_rfl)) ?_ | refine And.intro (by decide) ?_ | refine lit_true ?_ | refine lit_false ?_))
  intro c h1; cases c
  rotate_left
  · (repeat ((conv => whnf); first | refine aw_seq ?_ | refine aw_region ?_ | refine aw_block ?_ | refine aw_skip ?_ | refine aw_true rfl ?_ | refine aw_false rfl ?_ | refine aw_exit ?_ | refine aw_label ?_ | refine aw_ret ?_ | refine And.intro rfl ?_ | refine And.intro trivial ?_ | refine And.intro (And.intro rfl (Nat.le_of_ble_eq_true rfl)) ?_ | refine And.intro (And.intro (by kernel_rfl) (by kernel_rfl)) ?_ | refine And.intro (by decide) ?_ | refine lit_true ?_ | refine lit_false ?_))
    refine ret_all rfl trivial rfl
  have h2 := not_of h1
  have hl : l.length ≤ 300 := by omega
  by_cases hr : rises l
  rotate_left
  · have hb := (f12_spec l (by omega)).of_eq (s' := .tup [nodes [], int' 15]) (by rw [buildN_bad hr])
    (repeat ((conv => whnf); first | refine aw_seq ?_ | refine aw_region ?_ | refine aw_block ?_ | refine aw_skip ?_ | refine aw_true rfl ?_ | refine aw_false rfl ?_ | refine aw_exit ?_ | refine aw_label ?_ | refine aw_ret ?_ | refine And.intro rfl ?_ | refine And.intro trivial ?_ | refine And.intro (And.intro rfl (Nat.le_of_ble_eq_true rfl)) ?_ | refine And.intro (And.intro (by kernel_rfl) (by kernel_rfl)) ?_ | refine And.intro (by decide) ?_ | refine lit_true ?_ | refine lit_false ?_))
    refine aop_tells rfl rfl hb ⟨AVle.refl _, trivial⟩ fun nx3 => ?_
    (repeat ((conv => whnf); first | refine aw_seq ?_ | refine aw_region ?_ | refine aw_block ?_ | refine aw_skip ?_ | refine aw_true rfl ?_ | refine aw_false rfl ?_ | refine aw_exit ?_ | refine aw_label ?_ | refine aw_ret ?_ | refine And.intro rfl ?_ | refine And.intro trivial ?_ | refine And.intro (And.intro rfl (Nat.le_of_ble_eq_true rfl)) ?_ | refine And.intro (And.intro (by kernel_rfl) (by kernel_rfl)) ?_ | refine And.intro (by decide) ?_ | refine lit_true ?_ | refine lit_false ?_))
    refine aop_tells rfl rfl f14_spec trivial fun nx6 => ?_
    (repeat ((conv => whnf); first | refine aw_seq ?_ | refine aw_region ?_ | refine aw_block ?_ | refine aw_skip ?_ | refine aw_true rfl ?_ | refine aw_false rfl ?_ | refine aw_exit ?_ | refine aw_label ?_ | refine aw_ret ?_ | refine And.intro rfl ?_ | refine And.intro trivial ?_ | refine And.intro (And.intro rfl (Nat.le_of_ble_eq_true rfl)) ?_ | refine And.intro (And.intro (by kernel_rfl) (by kernel_rfl)) ?_ | refine And.intro (by decide) ?_ | refine lit_true ?_ | refine lit_false ?_))
    refine ret_all rfl trivial rfl
  by_cases h0 : l.length = 0
  · obtain rfl : l = [] := List.eq_nil_of_length_eq_zero h0
    have hb := (f12_spec [] (by decide)).of_eq (s' := .tup [nodes [⟨true, 0, -1, 0, 0⟩], int' 0]) (by rw [buildN, if_neg (by simpa using hr), if_neg (by decide), if_pos (by rfl)])
    have hd := (f17_spec [⟨true, 0, -1, 0, 0⟩] (by intro i hi; obtain rfl : i = 0 := (by simpa using hi); left; rfl) (by decide)).of_eq (s' := int' 0) (by rfl)
    (repeat ((conv => whnf); first | refine aw_seq ?_ | refine aw_region ?_ | refine aw_block ?_ | refine aw_skip ?_ | refine aw_true rfl ?_ | refine aw_false rfl ?_ | refine aw_exit ?_ | refine aw_label ?_ | refine aw_ret ?_ | refine And.intro rfl ?_ | refine And.intro trivial ?_ | refine And.intro (And.intro rfl (Nat.le_of_ble_eq_true rfl)) ?_ | refine And.intro (And.intro (by kernel_rfl) (by kernel_rfl)) ?_ | refine And.intro (by decide) ?_ | refine lit_true ?_ | refine lit_false ?_))
    refine aop_tells rfl rfl hb ⟨AVle.refl _, trivial⟩ fun nx3 => ?_
    (repeat ((conv => whnf); first | refine aw_seq ?_ | refine aw_region ?_ | refine aw_block ?_ | refine aw_skip ?_ | refine aw_true rfl ?_ | refine aw_false rfl ?_ | refine aw_exit ?_ | refine aw_label ?_ | refine aw_ret ?_ | refine And.intro rfl ?_ | refine And.intro trivial ?_ | refine And.intro (And.intro rfl (Nat.le_of_ble_eq_true rfl)) ?_ | refine And.intro (And.intro (by kernel_rfl) (by kernel_rfl)) ?_ | refine And.intro (by decide) ?_ | refine lit_true ?_ | refine lit_false ?_))
    refine aw_loop (fun s : Nat × Nat => mk 135 [(0, u32s []), (3, nodes [⟨true, 0, -1, 0, 0⟩]), (5, .hs (0, nx3) 0 1 1), (6, int' 0), (7, int' s.1)] ⟨[((0, nx3), .c [int' 0])], [], s.2, 1⟩) (fun s => s.1 = 0 ∨ s.1 = 1) (fun s => 1 - s.1) ?_ ?_
    · exact ⟨(0, nx3 + 1), .inl rfl, ele_tell _ _ rfl rfl (.cons_cons _ .slnil) .slnil ⟨rfl, OwnLe.refl _, trivial⟩ trivial ⟨AVle.refl _, AVle.refl _, AVle.refl _, AVle.refl _, AVle.refl _, trivial⟩⟩
    · rintro ⟨i, nx4⟩ (h3 | h3)
      · dsimp only at h3
        subst h3
        (repeat ((conv => whnf); first | refine aw_seq ?_ | refine aw_region ?_ | refine aw_block ?_ | refine aw_skip ?_ | refine aw_true rfl ?_ | refine aw_false rfl ?_ | refine aw_exit ?_ | refine aw_label ?_ | refine aw_ret ?_ | refine And.intro rfl ?_ | refine And.intro trivial ?_ | refine And.intro (And.intro rfl (Nat.le_of_ble_eq_true rfl)) ?_ | refine And.intro (And.intro (by kernel_rfl) (by kernel_rfl)) ?_ | refine And.intro (by decide) ?_ | refine lit_true ?_ | refine lit_false ?_))
        refine ⟨⟨by simp, by simp⟩, ?_⟩
        (repeat ((conv => whnf); first | refine aw_seq ?_ | refine aw_region ?_ | refine aw_block ?_ | refine aw_skip ?_ | refine aw_true rfl ?_ | refine aw_false rfl ?_ | refine aw_exit ?_ | refine aw_label ?_ | refine aw_ret ?_ | refine And.intro rfl ?_ | refine And.intro trivial ?_ | refine And.intro (And.intro rfl (Nat.le_of_ble_eq_true rfl)) ?_ | refine And.intro (And.intro (by kernel_rfl) (by kernel_rfl)) ?_ | refine And.intro (by decide) ?_ | refine lit_true ?_ | refine lit_false ?_))
        refine back (1, nx4 + 1) (.inr rfl) (by simp) (ele_tell _ _ rfl rfl (.cons_cons _ (.cons _ .slnil)) .slnil ⟨rfl, OwnLe.refl _, trivial⟩ trivial ⟨AVle.refl _, AVle.refl _, AVle.refl _, AVle.refl _, AVle.refl _, trivial⟩)
      · dsimp only at h3
        subst h3
        (repeat ((conv => whnf); first | refine aw_seq ?_ | refine aw_region ?_ | refine aw_block ?_ | refine aw_skip ?_ | refine aw_true rfl ?_ | refine aw_false rfl ?_ | refine aw_exit ?_ | refine aw_label ?_ | refine aw_ret ?_ | refine And.intro rfl ?_ | refine And.intro trivial ?_ | refine And.intro (And.intro rfl (Nat.le_of_ble_eq_true rfl)) ?_ | refine And.intro (And.intro (by kernel_rfl) (by kernel_rfl)) ?_ | refine And.intro (by decide) ?_ | refine lit_true ?_ | refine lit_false ?_))
        refine aop_tells rfl rfl hd ⟨AVle.refl _, trivial⟩ fun nx5 => ?_
        (repeat ((conv => whnf); first | refine aw_seq ?_ | refine aw_region ?_ | refine aw_block ?_ | refine aw_skip ?_ | refine aw_true rfl ?_ | refine aw_false rfl ?_ | refine aw_exit ?_ | refine aw_label ?_ | refine aw_ret ?_ | refine And.intro rfl ?_ | refine And.intro trivial ?_ | refine And.intro (And.intro rfl (Nat.le_of_ble_eq_true rfl)) ?_ | refine And.intro (And.intro (by kernel_rfl) (by kernel_rfl)) ?_ | refine And.intro (by decide) ?_ | refine lit_true ?_ | refine lit_false ?_))
        refine aop_tells rfl rfl (f18_spec 0 0 (by decide) (by decide) (fun j hj => by omega)) ⟨AVle.refl _, trivial⟩ fun nx6 => ?_
        (repeat ((conv => whnf); first | refine aw_seq ?_ | refine aw_region ?_ | refine aw_block ?_ | refine aw_skip ?_ | refine aw_true rfl ?_ | refine aw_false rfl ?_ | refine aw_exit ?_ | refine aw_label ?_ | refine aw_ret ?_ | refine And.intro rfl ?_ | refine And.intro trivial ?_ | refine And.intro (And.intro rfl (Nat.le_of_ble_eq_true rfl)) ?_ | refine And.intro (And.intro (by kernel_rfl) (by kernel_rfl)) ?_ | refine And.intro (by decide) ?_ | refine lit_true ?_ | refine lit_false ?_))
        refine aop_tells rfl rfl f14_spec trivial fun nx7 => ?_
        (repeat ((conv => whnf); first | refine aw_seq ?_ | refine aw_region ?_ | refine aw_block ?_ | refine aw_skip ?_ | refine aw_true rfl ?_ | refine aw_false rfl ?_ | refine aw_exit ?_ | refine aw_label ?_ | refine aw_ret ?_ | refine And.intro rfl ?_ | refine And.intro trivial ?_ | refine And.intro (And.intro rfl (Nat.le_of_ble_eq_true rfl)) ?_ | refine And.intro (And.intro (by kernel_rfl) (by kernel_rfl)) ?_ | refine And.intro (by decide) ?_ | refine lit_true ?_ | refine lit_false ?_))
        refine ret_all rfl trivial rfl
  have hN : 1 ≤ l.length := by omega
  obtain ⟨d, g1, g2, g3⟩ := build_tree l hN
  obtain ⟨hcount, hfacts⟩ := tr_facts l.length l 0 0 rfl hN
  have hlen := tr_len hN
  have hform := build_formed l hN
  have hb := (f12_spec l (by omega)).of_eq (s' := .tup [nodes (tr l 0 0), int' 0]) (by rw [buildN_ok hr (by omega) (by omega)])
  generalize tr l 0 0 = t at *
  have hd := f17_spec t hform (by omega)
  have e : (0 :: deepL t).getD t.length 0 = d := by
    obtain ⟨m, hm⟩ : ∃ m, t.length = m + 1 := ⟨t.length - 1, by omega⟩
    rw [hm] at g3 ⊢
    simpa using g3
  rw [e] at hd
  obtain ⟨k, k1, k2⟩ := least_pow l.length
  have hk := f18_spec l.length k (by omega) k1 k2
  have hdk := g2 k k1
  (repeat ((conv => whnf); first | refine aw_seq ?_ | refine aw_region ?_ | refine aw_block ?_ | refine aw_skip ?_ | refine aw_true rfl ?_ | refine aw_false rfl ?_ | refine aw_exit ?_ | refine aw_label ?_ | refine aw_ret ?_ | refine And.intro rfl ?_ | refine And.intro trivial ?_ | refine And.intro (And.intro rfl (Nat.le_of_ble_eq_true rfl)) ?_ | refine And.intro (And.intro (by kernel_rfl) (by kernel_rfl)) ?_ | refine And.intro (by decide) ?_ | refine lit_true ?_ | refine lit_false ?_))
  refine aop_tells rfl rfl hb ⟨AVle.refl _, trivial⟩ fun nx3 => ?_
  (repeat ((conv => whnf); first | refine aw_seq ?_ | refine aw_region ?_ | refine aw_block ?_ | refine aw_skip ?_ | refine aw_true rfl ?_ | refine aw_false rfl ?_ | refine aw_exit ?_ | refine aw_label ?_ | refine aw_ret ?_ | refine And.intro rfl ?_ | refine And.intro trivial ?_ | refine And.intro (And.intro rfl (Nat.le_of_ble_eq_true rfl)) ?_ | refine And.intro (And.intro (by kernel_rfl) (by kernel_rfl)) ?_ | refine And.intro (by decide) ?_ | refine lit_true ?_ | refine lit_false ?_))
  intro c h3; cases c
  rotate_left
  · have := yes_of (p := (t.length : Int) = 0) (by simpa using h3); omega
  (repeat ((conv => whnf); first | refine aw_seq ?_ | refine aw_region ?_ | refine aw_block ?_ | refine aw_skip ?_ | refine aw_true rfl ?_ | refine aw_false rfl ?_ | refine aw_exit ?_ | refine aw_label ?_ | refine aw_ret ?_ | refine And.intro rfl ?_ | refine And.intro trivial ?_ | refine And.intro (And.intro rfl (Nat.le_of_ble_eq_true rfl)) ?_ | refine And.intro (And.intro (by kernel_rfl) (by kernel_rfl)) ?_ | refine And.intro (by decide) ?_ | refine lit_true ?_ | refine lit_false ?_))
  refine ⟨by omega, by omega, by show (8 : Int) * _ ≤ _; omega, by omega, ?_⟩
  (repeat ((conv => whnf); first | refine aw_seq ?_ | refine aw_region ?_ | refine aw_block ?_ | refine aw_skip ?_ | refine aw_true rfl ?_ | refine aw_false rfl ?_ | refine aw_exit ?_ | refine aw_label ?_ | refine aw_ret ?_ | refine And.intro rfl ?_ | refine And.intro trivial ?_ | refine And.intro (And.intro rfl (Nat.le_of_ble_eq_true rfl)) ?_ | refine And.intro (And.intro (by kernel_rfl) (by kernel_rfl)) ?_ | refine And.intro (by decide) ?_ | refine lit_true ?_ | refine lit_false ?_))
  refine aw_loop (fun s : Nat × Nat => mk 135 [(0, u32s l), (3, nodes t), (5, .hs (0, nx3) 0 t.length t.length), (6, int' (cnt t s.1)), (7, int' s.1)] ⟨[((0, nx3), .c ((deepL (t.take s.1) ++ List.replicate (t.length - s.1) 0).map int'))], [], s.2, 1⟩) (fun s => s.1 ≤ t.length) (fun s => t.length - s.1) ?_ ?_
  · refine ⟨(0, nx3 + 1), by simp, ele_tell _ _ rfl rfl (.cons_cons _ .slnil) .slnil ⟨rfl, ?_, trivial⟩ trivial ⟨AVle.refl _, AVle.refl _, AVle.refl _, AVle.refl _, AVle.refl _, trivial⟩⟩
    refine LeL.of_eq (?_ : List.replicate ((t.length : Int).toNat) (int' 0) = _)
    simp [deepL]
  · rintro ⟨i, nx4⟩ h4
    dsimp only at h4
    (repeat ((conv => whnf); first | refine aw_seq ?_ | refine aw_region ?_ | refine aw_block ?_ | refine aw_skip ?_ | refine aw_true rfl ?_ | refine aw_false rfl ?_ | refine aw_exit ?_ | refine aw_label ?_ | refine aw_ret ?_ | refine And.intro rfl ?_ | refine And.intro trivial ?_ | refine And.intro (And.intro rfl (Nat.le_of_ble_eq_true rfl)) ?_ | refine And.intro (And.intro (by kernel_rfl) (by kernel_rfl)) ?_ | refine And.intro (by decide) ?_ | refine lit_true ?_ | refine lit_false ?_))
    intro c h5; cases c
    · have h6 := not_of h5
      dsimp only at h6
      obtain rfl : i = t.length := by omega
      have hw : IntKind.i64.wrap ((t.length : Int) - 1) = ((t.length - 1 : Nat) : Int) := by rw [wrap_id (by omega) (by omega)]; omega
      have hct : cnt t t.length = l.length := by rw [cnt, List.take_length]; exact hcount
      (repeat ((conv => whnf); first | refine aw_seq ?_ | refine aw_region ?_ | refine aw_block ?_ | refine aw_skip ?_ | refine aw_true rfl ?_ | refine aw_false rfl ?_ | refine aw_exit ?_ | refine aw_label ?_ | refine aw_ret ?_ | refine And.intro rfl ?_ | refine And.intro trivial ?_ | refine And.intro (And.intro rfl (Nat.le_of_ble_eq_true rfl)) ?_ | refine And.intro (And.intro (by kernel_rfl) (by kernel_rfl)) ?_ | refine And.intro (by decide) ?_ | refine lit_true ?_ | refine lit_false ?_))
      (conv => whnf)
      rw [hw]
      refine ⟨⟨by omega, by omega⟩, ?_⟩
      (repeat ((conv => whnf); first | refine aw_seq ?_ | refine aw_region ?_ | refine aw_block ?_ | refine aw_skip ?_ | refine aw_true rfl ?_ | refine aw_false rfl ?_ | refine aw_exit ?_ | refine aw_label ?_ | refine aw_ret ?_ | refine And.intro rfl ?_ | refine And.intro trivial ?_ | refine And.intro (And.intro rfl (Nat.le_of_ble_eq_true rfl)) ?_ | refine And.intro (And.intro (by kernel_rfl) (by kernel_rfl)) ?_ | refine And.intro (by decide) ?_ | refine lit_true ?_ | refine lit_false ?_))
      refine ⟨⟨rfl, by simp [c3, deepL_len]; omega⟩, ?_⟩
      refine splitO_eq (b := int' d) (by
        show ((deepL (t.take t.length) ++ List.replicate (t.length - t.length) 0).map int').getD (0 + ((t.length - 1 : Nat) : Int).toNat * Try.prog.cellsOf 3) .any = _
        rw [c3, Nat.zero_add, Int.toNat_natCast, Nat.mul_one, getD_map (d := 0) (by simp [deepL_len]; omega), List.take_length, Nat.sub_self, List.replicate_zero, List.append_nil, g3]) ?_
      (repeat ((conv => whnf); first | refine aw_seq ?_ | refine aw_region ?_ | refine aw_block ?_ | refine aw_skip ?_ | refine aw_true rfl ?_ | refine aw_false rfl ?_ | refine aw_exit ?_ | refine aw_label ?_ | refine aw_ret ?_ | refine And.intro rfl ?_ | refine And.intro trivial ?_ | refine And.intro (And.intro rfl (Nat.le_of_ble_eq_true rfl)) ?_ | refine And.intro (And.intro (by kernel_rfl) (by kernel_rfl)) ?_ | refine And.intro (by decide) ?_ | refine lit_true ?_ | refine lit_false ?_))
      intro c h7; cases c
      · have := not_of (p := (cnt t t.length : Int) = l.length) (by simpa using h7); omega
      (repeat ((conv => whnf); first | refine aw_seq ?_ | refine aw_region ?_ | refine aw_block ?_ | refine aw_skip ?_ | refine aw_true rfl ?_ | refine aw_false rfl ?_ | refine aw_exit ?_ | refine aw_label ?_ | refine aw_ret ?_ | refine And.intro rfl ?_ | refine And.intro trivial ?_ | refine And.intro (And.intro rfl (Nat.le_of_ble_eq_true rfl)) ?_ | refine And.intro (And.intro (by kernel_rfl) (by kernel_rfl)) ?_ | refine And.intro (by decide) ?_ | refine lit_true ?_ | refine lit_false ?_))
      refine aop_tells rfl rfl hd ⟨AVle.refl _, trivial⟩ fun nx5 => ?_
      (repeat ((conv => whnf); first | refine aw_seq ?_ | refine aw_region ?_ | refine aw_block ?_ | refine aw_skip ?_ | refine aw_true rfl ?_ | refine aw_false rfl ?_ | refine aw_exit ?_ | refine aw_label ?_ | refine aw_ret ?_ | refine And.intro rfl ?_ | refine And.intro trivial ?_ | refine And.intro (And.intro rfl (Nat.le_of_ble_eq_true rfl)) ?_ | refine And.intro (And.intro (by kernel_rfl) (by kernel_rfl)) ?_ | refine And.intro (by decide) ?_ | refine lit_true ?_ | refine lit_false ?_))
      intro c h8; cases c
      · simp at h8
      (repeat ((conv => whnf); first | refine aw_seq ?_ | refine aw_region ?_ | refine aw_block ?_ | refine aw_skip ?_ | refine aw_true rfl ?_ | refine aw_false rfl ?_ | refine aw_exit ?_ | refine aw_label ?_ | refine aw_ret ?_ | refine And.intro rfl ?_ | refine And.intro trivial ?_ | refine And.intro (And.intro rfl (Nat.le_of_ble_eq_true rfl)) ?_ | refine And.intro (And.intro (by kernel_rfl) (by kernel_rfl)) ?_ | refine And.intro (by decide) ?_ | refine lit_true ?_ | refine lit_false ?_))
      refine aop_tells rfl rfl hk ⟨AVle.refl _, trivial⟩ fun nx6 => ?_
      (repeat ((conv => whnf); first | refine aw_seq ?_ | refine aw_region ?_ | refine aw_block ?_ | refine aw_skip ?_ | refine aw_true rfl ?_ | refine aw_false rfl ?_ | refine aw_exit ?_ | refine aw_label ?_ | refine aw_ret ?_ | refine And.intro rfl ?_ | refine And.intro trivial ?_ | refine And.intro (And.intro rfl (Nat.le_of_ble_eq_true rfl)) ?_ | refine And.intro (And.intro (by kernel_rfl) (by kernel_rfl)) ?_ | refine And.intro (by decide) ?_ | refine lit_true ?_ | refine lit_false ?_))
      intro c h9; cases c
      · have := not_of h9; omega
      (repeat ((conv => whnf); first | refine aw_seq ?_ | refine aw_region ?_ | refine aw_block ?_ | refine aw_skip ?_ | refine aw_true rfl ?_ | refine aw_false rfl ?_ | refine aw_exit ?_ | refine aw_label ?_ | refine aw_ret ?_ | refine And.intro rfl ?_ | refine And.intro trivial ?_ | refine And.intro (And.intro rfl (Nat.le_of_ble_eq_true rfl)) ?_ | refine And.intro (And.intro (by kernel_rfl) (by kernel_rfl)) ?_ | refine And.intro (by decide) ?_ | refine lit_true ?_ | refine lit_false ?_))
      refine aop_tells rfl rfl f14_spec trivial fun nx7 => ?_
      (repeat ((conv => whnf); first | refine aw_seq ?_ | refine aw_region ?_ | refine aw_block ?_ | refine aw_skip ?_ | refine aw_true rfl ?_ | refine aw_false rfl ?_ | refine aw_exit ?_ | refine aw_label ?_ | refine aw_ret ?_ | refine And.intro rfl ?_ | refine And.intro trivial ?_ | refine And.intro (And.intro rfl (Nat.le_of_ble_eq_true rfl)) ?_ | refine And.intro (And.intro (by kernel_rfl) (by kernel_rfl)) ?_ | refine And.intro (by decide) ?_ | refine lit_true ?_ | refine lit_false ?_))
      refine ret_all rfl trivial rfl
    · have h6 := yes_of h5
      dsimp only at h6
      have hi : i < t.length := by omega
      have hs := deepL_succ hi
      have hc := cnt_succ hi
      have hcl := cnt_le t i
      have hdl : (deepL (t.take i)).length = i := by rw [deepL_len, List.length_take]; omega
      obtain ⟨m, hm'⟩ : ∃ m, t.length - i = m + 1 := ⟨t.length - i - 1, by omega⟩
      (repeat ((conv => whnf); first | refine aw_seq ?_ | refine aw_region ?_ | refine aw_block ?_ | refine aw_skip ?_ | refine aw_true rfl ?_ | refine aw_false rfl ?_ | refine aw_exit ?_ | refine aw_label ?_ | refine aw_ret ?_ | refine And.intro rfl ?_ | refine And.intro trivial ?_ | refine And.intro (And.intro rfl (Nat.le_of_ble_eq_true rfl)) ?_ | refine And.intro (And.intro (by kernel_rfl) (by kernel_rfl)) ?_ | refine And.intro (by decide) ?_ | refine lit_true ?_ | refine lit_false ?_))
      refine ⟨⟨by omega, by omega⟩, ?_⟩
      rcases hfacts i hi with ⟨j, hj, hn⟩ | ⟨x, lo, hg, q1, q2, hn⟩
      · rw [Nat.zero_add] at hn
        rw [hn] at hs hc
        refine splitO_eq (b := .rp (nodeA ⟨true, l.getD j 0, j, 0, 0⟩).cells) (by show AV.rp (nodeA (t.getD i node0)).cells = _; rw [hn]) ?_
        (repeat ((conv => whnf); first | refine aw_seq ?_ | refine aw_region ?_ | refine aw_block ?_ | refine aw_skip ?_ | refine aw_true rfl ?_ | refine aw_false rfl ?_ | refine aw_exit ?_ | refine aw_label ?_ | refine aw_ret ?_ | refine And.intro rfl ?_ | refine And.intro trivial ?_ | refine And.intro (And.intro rfl (Nat.le_of_ble_eq_true rfl)) ?_ | refine And.intro (And.intro (by kernel_rfl) (by kernel_rfl)) ?_ | refine And.intro (by decide) ?_ | refine lit_true ?_ | refine lit_false ?_))
        (refine aw_draw 20 ?_ ?_ ?_ ?_; (· kernel_rfl); (· kernel_rfl); (· kernel_rfl))
        (repeat ((conv => whnf); first | refine aw_seq ?_ | refine aw_region ?_ | refine aw_block ?_ | refine aw_skip ?_ | refine aw_true rfl ?_ | refine aw_false rfl ?_ | refine aw_exit ?_ | refine aw_label ?_ | refine aw_ret ?_ | refine And.intro rfl ?_ | refine And.intro trivial ?_ | refine And.intro (And.intro rfl (Nat.le_of_ble_eq_true rfl)) ?_ | refine And.intro (And.intro (by kernel_rfl) (by kernel_rfl)) ?_ | refine And.intro (by decide) ?_ | refine lit_true ?_ | refine lit_false ?_))
        intro c h7; cases c
        rotate_left
        · have := yes_of h7; dsimp only at this; omega
        (repeat ((conv => whnf); first | refine aw_seq ?_ | refine aw_region ?_ | refine aw_block ?_ | refine aw_skip ?_ | refine aw_true rfl ?_ | refine aw_false rfl ?_ | refine aw_exit ?_ | refine aw_label ?_ | refine aw_ret ?_ | refine And.intro rfl ?_ | refine And.intro trivial ?_ | refine And.intro (And.intro rfl (Nat.le_of_ble_eq_true rfl)) ?_ | refine And.intro (And.intro (by kernel_rfl) (by kernel_rfl)) ?_ | refine And.intro (by decide) ?_ | refine lit_true ?_ | refine lit_false ?_))
        refine ⟨⟨(by first | omega | (dsimp only at *; omega) | (simp; done) | (simp; omega)), (by first | omega | (dsimp only at *; omega) | (simp; done) | (simp; omega))⟩, ?_⟩
        (repeat ((conv => whnf); first | refine aw_seq ?_ | refine aw_region ?_ | refine aw_block ?_ | refine aw_skip ?_ | refine aw_true rfl ?_ | refine aw_false rfl ?_ | refine aw_exit ?_ | refine aw_label ?_ | refine aw_ret ?_ | refine And.intro rfl ?_ | refine And.intro trivial ?_ | refine And.intro (And.intro rfl (Nat.le_of_ble_eq_true rfl)) ?_ | refine And.intro (And.intro (by kernel_rfl) (by kernel_rfl)) ?_ | refine And.intro (by decide) ?_ | refine lit_true ?_ | refine lit_false ?_))
        intro c h8; cases c
        rotate_left
        · simp at h8
        (repeat ((conv => whnf); first | refine aw_seq ?_ | refine aw_region ?_ | refine aw_block ?_ | refine aw_skip ?_ | refine aw_true rfl ?_ | refine aw_false rfl ?_ | refine aw_exit ?_ | refine aw_label ?_ | refine aw_ret ?_ | refine And.intro rfl ?_ | refine And.intro trivial ?_ | refine And.intro (And.intro rfl (Nat.le_of_ble_eq_true rfl)) ?_ | refine And.intro (And.intro (by kernel_rfl) (by kernel_rfl)) ?_ | refine And.intro (by decide) ?_ | refine lit_true ?_ | refine lit_false ?_))
        refine back (i + 1, nx4 + 1) (by dsimp only; omega) (by dsimp only; omega) (ele_tell _ _ rfl rfl (.cons_cons _ (.cons _ .slnil)) .slnil ⟨rfl, ?_, trivial⟩ trivial ⟨AVle.refl _, AVle.refl _, AVle.refl _, le_int ?_, le_int (wrap_succ (by omega)), trivial⟩)
        · refine LeL.of_eq (congrArg (List.map int') ?_)
          dsimp only
          rw [hs, hm', show t.length - (i + 1) = m by omega, fill_same]; simp [deepS]
        · dsimp only
          rw [hc, wrap_id (by omega) (by omega)]; simp
      · rw [Nat.zero_add] at q1 q2
        rw [hn] at hs hc
        have ld : ∀ j, j < i → ((deepL (t.take i) ++ List.replicate (t.length - i) 0).map int').getD (0 + (j : Int).toNat * Try.prog.cellsOf 3) .any = int' ((deepL (t.take i)).getD j 0) := fun j hj => by
          rw [c3, Nat.zero_add, Int.toNat_natCast, Nat.mul_one, getD_map (d := 0) (by simp [hdl]; omega), fill_get (by omega)]
        have bd : ∀ j, j < i → 0 + (j : Int).toNat * Try.prog.cellsOf 3 < ((deepL (t.take i) ++ List.replicate (t.length - i) 0).map int').length := fun j hj => by
          simp [hdl, c3]; omega
        have hlo := deepL_bd i (by omega) lo
        have hhi := deepL_bd i (by omega) hg
        refine splitO_eq (b := .rp (nodeA ⟨false, x, 0, lo, hg⟩).cells) (by show AV.rp (nodeA (t.getD i node0)).cells = _; rw [hn]) ?_
        (repeat ((conv => whnf); first | refine aw_seq ?_ | refine aw_region ?_ | refine aw_block ?_ | refine aw_skip ?_ | refine aw_true rfl ?_ | refine aw_false rfl ?_ | refine aw_exit ?_ | refine aw_label ?_ | refine aw_ret ?_ | refine And.intro rfl ?_ | refine And.intro trivial ?_ | refine And.intro (And.intro rfl (Nat.le_of_ble_eq_true rfl)) ?_ | refine And.intro (And.intro (by kernel_rfl) (by kernel_rfl)) ?_ | refine And.intro (by decide) ?_ | refine lit_true ?_ | refine lit_false ?_))
        intro c h7; cases c
        rotate_left
        · have := yes_of h7; dsimp only at this; omega
        (repeat ((conv => whnf); first | refine aw_seq ?_ | refine aw_region ?_ | refine aw_block ?_ | refine aw_skip ?_ | refine aw_true rfl ?_ | refine aw_false rfl ?_ | refine aw_exit ?_ | refine aw_label ?_ | refine aw_ret ?_ | refine And.intro rfl ?_ | refine And.intro trivial ?_ | refine And.intro (And.intro rfl (Nat.le_of_ble_eq_true rfl)) ?_ | refine And.intro (And.intro (by kernel_rfl) (by kernel_rfl)) ?_ | refine And.intro (by decide) ?_ | refine lit_true ?_ | refine lit_false ?_))
        intro c h8; cases c
        rotate_left
        · have := yes_of h8; dsimp only at this; omega
        (repeat ((conv => whnf); first | refine aw_seq ?_ | refine aw_region ?_ | refine aw_block ?_ | refine aw_skip ?_ | refine aw_true rfl ?_ | refine aw_false rfl ?_ | refine aw_exit ?_ | refine aw_label ?_ | refine aw_ret ?_ | refine And.intro rfl ?_ | refine And.intro trivial ?_ | refine And.intro (And.intro rfl (Nat.le_of_ble_eq_true rfl)) ?_ | refine And.intro (And.intro (by kernel_rfl) (by kernel_rfl)) ?_ | refine And.intro (by decide) ?_ | refine lit_true ?_ | refine lit_false ?_))
        (refine aw_draw 15 ?_ ?_ ?_ ?_; (· kernel_rfl); (· kernel_rfl); (· kernel_rfl))
        (repeat ((conv => whnf); first | refine aw_seq ?_ | refine aw_region ?_ | refine aw_block ?_ | refine aw_skip ?_ | refine aw_true rfl ?_ | refine aw_false rfl ?_ | refine aw_exit ?_ | refine aw_label ?_ | refine aw_ret ?_ | refine And.intro rfl ?_ | refine And.intro trivial ?_ | refine And.intro (And.intro rfl (Nat.le_of_ble_eq_true rfl)) ?_ | refine And.intro (And.intro (by kernel_rfl) (by kernel_rfl)) ?_ | refine And.intro (by decide) ?_ | refine lit_true ?_ | refine lit_false ?_))
        refine ⟨⟨(by first | omega | (dsimp only at *; omega) | (simp; done) | (simp; omega)), (by first | omega | (dsimp only at *; omega) | (simp; done) | (simp; omega))⟩, ?_⟩
        (repeat ((conv => whnf); first | refine aw_seq ?_ | refine aw_region ?_ | refine aw_block ?_ | refine aw_skip ?_ | refine aw_true rfl ?_ | refine aw_false rfl ?_ | refine aw_exit ?_ | refine aw_label ?_ | refine aw_ret ?_ | refine And.intro rfl ?_ | refine And.intro trivial ?_ | refine And.intro (And.intro rfl (Nat.le_of_ble_eq_true rfl)) ?_ | refine And.intro (And.intro (by kernel_rfl) (by kernel_rfl)) ?_ | refine And.intro (by decide) ?_ | refine lit_true ?_ | refine lit_false ?_))
        refine ⟨⟨rfl, bd lo q1⟩, ?_⟩
        refine splitO_eq (ld lo q1) ?_
        (repeat ((conv => whnf); first | refine aw_seq ?_ | refine aw_region ?_ | refine aw_block ?_ | refine aw_skip ?_ | refine aw_true rfl ?_ | refine aw_false rfl ?_ | refine aw_exit ?_ | refine aw_label ?_ | refine aw_ret ?_ | refine And.intro rfl ?_ | refine And.intro trivial ?_ | refine And.intro (And.intro rfl (Nat.le_of_ble_eq_true rfl)) ?_ | refine And.intro (And.intro (by kernel_rfl) (by kernel_rfl)) ?_ | refine And.intro (by decide) ?_ | refine lit_true ?_ | refine lit_false ?_))
        refine ⟨⟨(by first | omega | (dsimp only at *; omega) | (simp; done) | (simp; omega)), (by first | omega | (dsimp only at *; omega) | (simp; done) | (simp; omega))⟩, ?_⟩
        (repeat ((conv => whnf); first | refine aw_seq ?_ | refine aw_region ?_ | refine aw_block ?_ | refine aw_skip ?_ | refine aw_true rfl ?_ | refine aw_false rfl ?_ | refine aw_exit ?_ | refine aw_label ?_ | refine aw_ret ?_ | refine And.intro rfl ?_ | refine And.intro trivial ?_ | refine And.intro (And.intro rfl (Nat.le_of_ble_eq_true rfl)) ?_ | refine And.intro (And.intro (by kernel_rfl) (by kernel_rfl)) ?_ | refine And.intro (by decide) ?_ | refine lit_true ?_ | refine lit_false ?_))
        refine ⟨⟨rfl, bd hg q2⟩, ?_⟩
        refine splitO_eq (ld hg q2) ?_
        (repeat ((conv => whnf); first | refine aw_seq ?_ | refine aw_region ?_ | refine aw_block ?_ | refine aw_skip ?_ | refine aw_true rfl ?_ | refine aw_false rfl ?_ | refine aw_exit ?_ | refine aw_label ?_ | refine aw_ret ?_ | refine And.intro rfl ?_ | refine And.intro trivial ?_ | refine And.intro (And.intro rfl (Nat.le_of_ble_eq_true rfl)) ?_ | refine And.intro (And.intro (by kernel_rfl) (by kernel_rfl)) ?_ | refine And.intro (by decide) ?_ | refine lit_true ?_ | refine lit_false ?_))
        refine ⟨⟨(by first | omega | (dsimp only at *; omega) | (simp; done) | (simp; omega)), (by first | omega | (dsimp only at *; omega) | (simp; done) | (simp; omega))⟩, ?_⟩
        (repeat ((conv => whnf); first | refine aw_seq ?_ | refine aw_region ?_ | refine aw_block ?_ | refine aw_skip ?_ | refine aw_true rfl ?_ | refine aw_false rfl ?_ | refine aw_exit ?_ | refine aw_label ?_ | refine aw_ret ?_ | refine And.intro rfl ?_ | refine And.intro trivial ?_ | refine And.intro (And.intro rfl (Nat.le_of_ble_eq_true rfl)) ?_ | refine And.intro (And.intro (by kernel_rfl) (by kernel_rfl)) ?_ | refine And.intro (by decide) ?_ | refine lit_true ?_ | refine lit_false ?_))
        refine ⟨⟨rfl, by simp [hdl, c3]; omega⟩, ?_⟩
        (repeat ((conv => whnf); first | refine aw_seq ?_ | refine aw_region ?_ | refine aw_block ?_ | refine aw_skip ?_ | refine aw_true rfl ?_ | refine aw_false rfl ?_ | refine aw_exit ?_ | refine aw_label ?_ | refine aw_ret ?_ | refine And.intro rfl ?_ | refine And.intro trivial ?_ | refine And.intro (And.intro rfl (Nat.le_of_ble_eq_true rfl)) ?_ | refine And.intro (And.intro (by kernel_rfl) (by kernel_rfl)) ?_ | refine And.intro (by decide) ?_ | refine lit_true ?_ | refine lit_false ?_))
        refine back (i + 1, nx4 + 1) (by dsimp only; omega) (by dsimp only; omega) (ele_tell _ _ rfl rfl (.cons_cons _ (.cons _ .slnil)) .slnil ⟨rfl, ?_, trivial⟩ trivial ⟨AVle.refl _, AVle.refl _, AVle.refl _, le_int (by dsimp only; rw [hc]; simp), le_int (wrap_succ (by omega)), trivial⟩)
        refine LeL.of_eq ?_
        generalize hv : (if (deepL (t.take i)).getD hg 0 > (deepL (t.take i)).getD lo 0 then (deepL (t.take i)).getD hg 0 else (deepL (t.take i)).getD lo 0) = v at hs
        have hvb : 0 ≤ v ∧ v ≤ i := by rw [← hv]; split <;> omega
        show splice ((deepL (t.take i) ++ List.replicate (t.length - i) 0).map int') (0 + (i : Int).toNat * Try.prog.cellsOf 3) [int' (IntKind.i64.wrap (1 + v))] = (deepL (t.take (i + 1)) ++ List.replicate (t.length - (i + 1)) 0).map int'
        rw [wrap_id (by omega) (by omega), c3, Nat.zero_add, Int.toNat_natCast, Nat.mul_one, splice_one (by simp [hdl]; omega), hs, hm', show t.length - (i + 1) = m by omega]
        have := fill_set (deepL (t.take i)) m (1 + v) 0
        rw [hdl] at this
        rw [this]
        simp [deepS, ← hv]
end Go.Proofs.Ytb
