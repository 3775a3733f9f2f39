import Derived.Test.YtbgpfhgpjbfcgaaYePlain
namespace Go.Proofs.Ytb
open Go.Vl

theorem buildN_bad {l : List Int} (h : ¬ rises l) : buildN l = ([], 15) := by rw [buildN, if_pos h]
theorem buildN_ok {l : List Int} (h : rises l) (h1 : 1 ≤ l.length) (h2 : l.length ≤ 4096) : buildN l = (tr l 0 0, 0) := by
  rw [buildN, if_neg (by simpa using h), if_neg (by omega), if_neg (by omega)]
theorem wrongN_bad {l : List Int} (h : ¬ rises l) : wrongN l = 15 := by rw [wrongN, if_pos h]
theorem wrongN_ok {l : List Int} (h : rises l) (h2 : l.length ≤ 4096) : wrongN l = 0 := by
  rw [wrongN, if_neg (by simpa using h), if_neg (by omega)]
theorem tr_len {l : List Int} (h : 1 ≤ l.length) : (tr l 0 0).length = 2 * l.length - 1 := tr_length _ l 0 0 rfl h
theorem find_ok {l : List Int} (h : rises l) (h2 : l.length ≤ 4096) : ∃ t, buildN l = (t, 0) ∧ 1 ≤ t.length ∧ t.length ≤ 10000 ∧ ∀ n, Tells Try.prog 15 [nodes t, u32' n] (int' (placeI l n)) := by
  by_cases h1 : 1 ≤ l.length
  · have hl := tr_len h1
    obtain ⟨d, g1, _, _⟩ := build_tree l h1
    exact ⟨_, buildN_ok h h1 h2, by omega, by omega, fun n => f15_spec _ n l d g1 h (by omega)⟩
  · obtain rfl : l = [] := List.eq_nil_of_length_eq_zero (by omega)
    exact ⟨[⟨true, 0, -1, 0, 0⟩], by rw [buildN, if_neg (by simpa using h), if_neg (by decide), if_pos (by rfl)], by decide, by decide, fun n => f15_empty n⟩
theorem f14_spec : Tells Try.prog 14 [] (bool' true) := by
  have hr : rises [3, 7, 9] := by decide
  obtain ⟨d, g1, _, g2⟩ := build_tree [3, 7, 9] (by decide)
  have hb := (f12_spec [3, 7, 9] (by decide)).of_eq (s' := .tup [nodes (tr [3, 7, 9] 0 0), int' 0]) (by rw [buildN_ok hr (by decide) (by decide)])
  have hl := tr_len (l := [3, 7, 9]) (by decide)
  have hd := f17_spec (tr [3, 7, 9] 0 0) (build_formed _ (by decide)) (by rw [hl]; decide)
  have e : (0 :: deepL (tr [3, 7, 9] 0 0)).getD (tr [3, 7, 9] 0 0).length 0 = 2 := by
    have : tr [3, 7, 9] 0 0 = [⟨true, 3, 0, 0, 0⟩, ⟨true, 7, 1, 0, 0⟩, ⟨true, 9, 2, 0, 0⟩, ⟨false, 9, 0, 1, 2⟩, ⟨false, 7, 0, 0, 3⟩] := by
      rw [tr_more (by decide)]
      simp only [List.length_cons, List.length_nil]
      rw [show List.take ((0 + 1 + 1 + 1) / 2) [(3 : Int), 7, 9] = [3] from rfl, show List.drop ((0 + 1 + 1 + 1) / 2) [(3 : Int), 7, 9] = [7, 9] from rfl, tr_one (l := [3]) (by decide)]
      rw [tr_more (l := [7, 9]) (by decide)]
      simp only [List.length_cons, List.length_nil]
      rw [show List.take ((0 + 1 + 1) / 2) [(7 : Int), 9] = [7] from rfl, show List.drop ((0 + 1 + 1) / 2) [(7 : Int), 9] = [9] from rfl, tr_one (l := [7]) (by decide), tr_one (l := [9]) (by decide)]
      simp
    rw [this]; rfl
  rw [e] at hd
  generalize tr [3, 7, 9] 0 0 = t at *
  refine tells_of_aw Try.func14 rfl rfl fun nx => ?_
  (repeat ((conv => whnf); first | refine aw_seq ?_ | refine aw_region ?_ | refine aw_block ?_ | refine aw_skip ?_ | refine aw_true rfl ?_ | refine aw_false rfl ?_ | refine aw_exit ?_ | refine aw_label ?_ | refine aw_ret ?_ | refine And.intro rfl ?_ | refine And.intro trivial ?_ | refine And.intro (And.intro rfl (Nat.le_of_ble_eq_true rfl)) ?_ | refine And.intro (And.intro (by kernel_rfl) (by kernel_rfl)) ?_ | refine And.intro (by decide) ?_ | refine lit_true ?_ | refine lit_false ?_))
  refine aop_tells rfl rfl hb ⟨AVle.os_sl.trans (AVle.sl_fun (allK_use ⟨⟨⟨trivial, rfl⟩, rfl⟩, rfl⟩)), trivial⟩ fun nx2 => ?_
  (repeat ((conv => whnf); first | refine aw_seq ?_ | refine aw_region ?_ | refine aw_block ?_ | refine aw_skip ?_ | refine aw_true rfl ?_ | refine aw_false rfl ?_ | refine aw_exit ?_ | refine aw_label ?_ | refine aw_ret ?_ | refine And.intro rfl ?_ | refine And.intro trivial ?_ | refine And.intro (And.intro rfl (Nat.le_of_ble_eq_true rfl)) ?_ | refine And.intro (And.intro (by kernel_rfl) (by kernel_rfl)) ?_ | refine And.intro (by decide) ?_ | refine lit_true ?_ | refine lit_false ?_))
  refine aop_tells (s := int' 1) rfl rfl ((f15_spec t 7 [3, 7, 9] d g1 hr (by rw [hl]; decide)).of_eq rfl) ⟨AVle.refl _, AVle.refl _, trivial⟩ fun nx3 => ?_
  (repeat ((conv => whnf); first | refine aw_seq ?_ | refine aw_region ?_ | refine aw_block ?_ | refine aw_skip ?_ | refine aw_true rfl ?_ | refine aw_false rfl ?_ | refine aw_exit ?_ | refine aw_label ?_ | refine aw_ret ?_ | refine And.intro rfl ?_ | refine And.intro trivial ?_ | refine And.intro (And.intro rfl (Nat.le_of_ble_eq_true rfl)) ?_ | refine And.intro (And.intro (by kernel_rfl) (by kernel_rfl)) ?_ | refine And.intro (by decide) ?_ | refine lit_true ?_ | refine lit_false ?_))
  refine aop_tells (s := int' (-1)) rfl rfl ((f15_spec t 8 [3, 7, 9] d g1 hr (by rw [hl]; decide)).of_eq rfl) ⟨AVle.refl _, AVle.refl _, trivial⟩ fun nx4 => ?_
  (repeat ((conv => whnf); first | refine aw_seq ?_ | refine aw_region ?_ | refine aw_block ?_ | refine aw_skip ?_ | refine aw_true rfl ?_ | refine aw_false rfl ?_ | refine aw_exit ?_ | refine aw_label ?_ | refine aw_ret ?_ | refine And.intro rfl ?_ | refine And.intro trivial ?_ | refine And.intro (And.intro rfl (Nat.le_of_ble_eq_true rfl)) ?_ | refine And.intro (And.intro (by kernel_rfl) (by kernel_rfl)) ?_ | refine And.intro (by decide) ?_ | refine lit_true ?_ | refine lit_false ?_))
  refine aop_tells rfl rfl hd ⟨AVle.refl _, trivial⟩ fun nx4 => ?_
  (repeat ((conv => whnf); first | refine aw_seq ?_ | refine aw_region ?_ | refine aw_block ?_ | refine aw_skip ?_ | refine aw_true rfl ?_ | refine aw_false rfl ?_ | refine aw_exit ?_ | refine aw_label ?_ | refine aw_ret ?_ | refine And.intro rfl ?_ | refine And.intro trivial ?_ | refine And.intro (And.intro rfl (Nat.le_of_ble_eq_true rfl)) ?_ | refine And.intro (And.intro (by kernel_rfl) (by kernel_rfl)) ?_ | refine And.intro (by decide) ?_ | refine lit_true ?_ | refine lit_false ?_))
  refine ret_tells rfl (AVle.refl _)
theorem placeI_at {l : List Int} (h : rises l) {i : Nat} (hi : i < l.length) : placeI l (l.getD i 0) = i := by
  rw [placeI, idx_at' (d := 0) hi (fun j hj => ?_) (by simp)]
  have mono : ∀ k, j < k → k < l.length → l.getD j 0 < l.getD k 0 := by
    intro k
    induction k with
    | zero => intro h; omega
    | succ k ih =>
      intro h1 h2
      have h3 := h (k + 1) (by omega) h2
      rw [Nat.add_sub_cancel] at h3
      rcases Nat.lt_or_ge j k with h4 | h4
      · exact Int.lt_trans (ih h4 (by omega)) h3
      · obtain rfl : j = k := by omega
        exact h3
  have := mono i hj hi
  exact beq_eq_false_iff_ne.2 (by omega)
set_option maxHeartbeats 2000000 in
theorem finds_spec (l ask : List Int) (hm : l.length ≤ maxLen) : PCall Try.prog 4 [u32s l, u32s ask] (fun r => r = .v (.bool true)) := by
  refine pcall_of_aw Try.func4 rfl rfl fun nx => ?_
  (repeat ((conv => whnf); first | refine aw_seq ?_ | refine aw_region ?_ | refine aw_block ?_ | refine aw_skip ?_ | refine aw_true rfl ?_ | refine aw_false rfl ?_ | refine aw_exit ?_ | refine aw_label ?_ | refine aw_ret ?_ | refine And.intro rfl ?_ | refine And.intro trivial ?_ | refine And.intro (And.intro rfl (Nat.le_of_ble_eq_true rfl)) ?_ | refine And.intro (And.intro (by kernel_rfl) (by kernel_rfl)) ?_ | refine And.intro (by decide) ?_ | refine lit_true ?_ | refine lit_false ?_))
  intro c h1; cases c
  · have h2 := not_of h1
    have hl : l.length ≤ 300 := by omega
    (repeat ((conv => whnf); first | refine aw_seq ?_ | refine aw_region ?_ | refine aw_block ?_ | refine aw_skip ?_ | refine aw_true rfl ?_ | refine aw_false rfl ?_ | refine aw_exit ?_ | refine aw_label ?_ | refine aw_ret ?_ | refine And.intro rfl ?_ | refine And.intro trivial ?_ | refine And.intro (And.intro rfl (Nat.le_of_ble_eq_true rfl)) ?_ | refine And.intro (And.intro (by kernel_rfl) (by kernel_rfl)) ?_ | refine And.intro (by decide) ?_ | refine lit_true ?_ | refine lit_false ?_))
    intro c h3; cases c
    · have h4 := not_of h3
      (repeat ((conv => whnf); first | refine aw_seq ?_ | refine aw_region ?_ | refine aw_block ?_ | refine aw_skip ?_ | refine aw_true rfl ?_ | refine aw_false rfl ?_ | refine aw_exit ?_ | refine aw_label ?_ | refine aw_ret ?_ | refine And.intro rfl ?_ | refine And.intro trivial ?_ | refine And.intro (And.intro rfl (Nat.le_of_ble_eq_true rfl)) ?_ | refine And.intro (And.intro (by kernel_rfl) (by kernel_rfl)) ?_ | refine And.intro (by decide) ?_ | refine lit_true ?_ | refine lit_false ?_))
      have arg : ∀ (f : Nat → AV) (o : Option Vl.Id), (∀ k, k < l.length → f k = u32' (l.getD k 0)) → AVle (.os 1 l.length f o) (u32s l) := fun f o hf => AVle.os_sl.trans (AVle.sl_fun hf)
      by_cases hr : rises l
      · obtain ⟨t, ht, t1, t2, hfind⟩ := find_ok hr (by omega)
        have hb := (f12_spec l (by omega)).of_eq (s' := .tup [nodes t, int' 0]) (by rw [ht])
        have hw := (f13_spec l (by omega)).of_eq (s' := int' 0) (by rw [wrongN_ok hr (by omega)])
        refine appK_intro (fun hl0 => ?_) (fun hl0 => ?_)
        rotate_left
        refine ⟨fun k hk => rfl, by show (0 + l.length) * 4 ≤ _; omega, by omega, ?_⟩
        all_goals
          (repeat ((conv => whnf); first | refine aw_seq ?_ | refine aw_region ?_ | refine aw_block ?_ | refine aw_skip ?_ | refine aw_true rfl ?_ | refine aw_false rfl ?_ | refine aw_exit ?_ | refine aw_label ?_ | refine aw_ret ?_ | refine And.intro rfl ?_ | refine And.intro trivial ?_ | refine And.intro (And.intro rfl (Nat.le_of_ble_eq_true rfl)) ?_ | refine And.intro (And.intro (by kernel_rfl) (by kernel_rfl)) ?_ | refine And.intro (by decide) ?_ | refine lit_true ?_ | refine lit_false ?_))
          refine aop_tells rfl rfl hb ⟨(by first | exact AVle.os_sl0.trans (AVle.of_eq (by rw [List.eq_nil_of_length_eq_zero hl0]; rfl)) | exact AVle.os_sl.trans (AVle.of_eq (by show AV.sl 1 (0 + l.length) _ = AV.sl 1 l.length _; rw [Nat.zero_add]; rfl))), trivial⟩ fun nx2 => ?_
          (repeat ((conv => whnf); first | refine aw_seq ?_ | refine aw_region ?_ | refine aw_block ?_ | refine aw_skip ?_ | refine aw_true rfl ?_ | refine aw_false rfl ?_ | refine aw_exit ?_ | refine aw_label ?_ | refine aw_ret ?_ | refine And.intro rfl ?_ | refine And.intro trivial ?_ | refine And.intro (And.intro rfl (Nat.le_of_ble_eq_true rfl)) ?_ | refine And.intro (And.intro (by kernel_rfl) (by kernel_rfl)) ?_ | refine And.intro (by decide) ?_ | refine lit_true ?_ | refine lit_false ?_))
          refine aop_tells rfl rfl hw ⟨AVle.refl _, trivial⟩ fun nx3 => ?_
          (repeat ((conv => whnf); first | refine aw_seq ?_ | refine aw_region ?_ | refine aw_block ?_ | refine aw_skip ?_ | refine aw_true rfl ?_ | refine aw_false rfl ?_ | refine aw_exit ?_ | refine aw_label ?_ | refine aw_ret ?_ | refine And.intro rfl ?_ | refine And.intro trivial ?_ | refine And.intro (And.intro rfl (Nat.le_of_ble_eq_true rfl)) ?_ | refine And.intro (And.intro (by kernel_rfl) (by kernel_rfl)) ?_ | refine And.intro (by decide) ?_ | refine lit_true ?_ | refine lit_false ?_))
          intro c h5; cases c
          · (repeat ((conv => whnf); first | refine aw_seq ?_ | refine aw_region ?_ | refine aw_block ?_ | refine aw_skip ?_ | refine aw_true rfl ?_ | refine aw_false rfl ?_ | refine aw_exit ?_ | refine aw_label ?_ | refine aw_ret ?_ | refine And.intro rfl ?_ | refine And.intro trivial ?_ | refine And.intro (And.intro rfl (Nat.le_of_ble_eq_true rfl)) ?_ | refine And.intro (And.intro (by kernel_rfl) (by kernel_rfl)) ?_ | refine And.intro (by decide) ?_ | refine lit_true ?_ | refine lit_false ?_))
            refine aw_loop (fun s : Nat × Nat => mk 81 [(0, u32s l), (1, u32s ask), (5, nodes t), (8, int' s.1)] ⟨[], [], s.2, 0⟩) (fun s => s.1 ≤ ask.length) (fun s => ask.length - s.1) ?_ ?_
            · exact ⟨(0, nx3), by simp, ele_keep rfl rfl .slnil (by first | exact .slnil | exact .cons _ .slnil) ⟨AVle.refl _, AVle.refl _, AVle.refl _, AVle.refl _, trivial⟩⟩
            · rintro ⟨i, nx4⟩ h6
              dsimp only at h6
              (repeat ((conv => whnf); first | refine aw_seq ?_ | refine aw_region ?_ | refine aw_block ?_ | refine aw_skip ?_ | refine aw_true rfl ?_ | refine aw_false rfl ?_ | refine aw_exit ?_ | refine aw_label ?_ | refine aw_ret ?_ | refine And.intro rfl ?_ | refine And.intro trivial ?_ | refine And.intro (And.intro rfl (Nat.le_of_ble_eq_true rfl)) ?_ | refine And.intro (And.intro (by kernel_rfl) (by kernel_rfl)) ?_ | refine And.intro (by decide) ?_ | refine lit_true ?_ | refine lit_false ?_))
              intro c h7; cases c
              · (repeat ((conv => whnf); first | refine aw_seq ?_ | refine aw_region ?_ | refine aw_block ?_ | refine aw_skip ?_ | refine aw_true rfl ?_ | refine aw_false rfl ?_ | refine aw_exit ?_ | refine aw_label ?_ | refine aw_ret ?_ | refine And.intro rfl ?_ | refine And.intro trivial ?_ | refine And.intro (And.intro rfl (Nat.le_of_ble_eq_true rfl)) ?_ | refine And.intro (And.intro (by kernel_rfl) (by kernel_rfl)) ?_ | refine And.intro (by decide) ?_ | refine lit_true ?_ | refine lit_false ?_))
                refine aw_loop (fun s : Nat × Nat => mk 81 [(0, u32s l), (5, nodes t), (9, int' s.1)] ⟨[], [], s.2, 0⟩) (fun s => s.1 ≤ l.length) (fun s => l.length - s.1) ?_ ?_
                · exact ⟨(0, nx4), by simp, ele_keep rfl rfl .slnil .slnil ⟨AVle.refl _, AVle.refl _, AVle.refl _, trivial⟩⟩
                · rintro ⟨i, nx5⟩ h8
                  dsimp only at h8
                  (repeat ((conv => whnf); first | refine aw_seq ?_ | refine aw_region ?_ | refine aw_block ?_ | refine aw_skip ?_ | refine aw_true rfl ?_ | refine aw_false rfl ?_ | refine aw_exit ?_ | refine aw_label ?_ | refine aw_ret ?_ | refine And.intro rfl ?_ | refine And.intro trivial ?_ | refine And.intro (And.intro rfl (Nat.le_of_ble_eq_true rfl)) ?_ | refine And.intro (And.intro (by kernel_rfl) (by kernel_rfl)) ?_ | refine And.intro (by decide) ?_ | refine lit_true ?_ | refine lit_false ?_))
                  intro c h9; cases c
                  · (repeat ((conv => whnf); first | refine aw_seq ?_ | refine aw_region ?_ | refine aw_block ?_ | refine aw_skip ?_ | refine aw_true rfl ?_ | refine aw_false rfl ?_ | refine aw_exit ?_ | refine aw_label ?_ | refine aw_ret ?_ | refine And.intro rfl ?_ | refine And.intro trivial ?_ | refine And.intro (And.intro rfl (Nat.le_of_ble_eq_true rfl)) ?_ | refine And.intro (And.intro (by kernel_rfl) (by kernel_rfl)) ?_ | refine And.intro (by decide) ?_ | refine lit_true ?_ | refine lit_false ?_))
                    refine aop_tells rfl rfl f14_spec trivial fun nx6 => ?_
                    (repeat ((conv => whnf); first | refine aw_seq ?_ | refine aw_region ?_ | refine aw_block ?_ | refine aw_skip ?_ | refine aw_true rfl ?_ | refine aw_false rfl ?_ | refine aw_exit ?_ | refine aw_label ?_ | refine aw_ret ?_ | refine And.intro rfl ?_ | refine And.intro trivial ?_ | refine And.intro (And.intro rfl (Nat.le_of_ble_eq_true rfl)) ?_ | refine And.intro (And.intro (by kernel_rfl) (by kernel_rfl)) ?_ | refine And.intro (by decide) ?_ | refine lit_true ?_ | refine lit_false ?_))
                    refine ret_all rfl trivial rfl
                  · have h10 := yes_of h9
                    dsimp only at h10
                    (repeat ((conv => whnf); first | refine aw_seq ?_ | refine aw_region ?_ | refine aw_block ?_ | refine aw_skip ?_ | refine aw_true rfl ?_ | refine aw_false rfl ?_ | refine aw_exit ?_ | refine aw_label ?_ | refine aw_ret ?_ | refine And.intro rfl ?_ | refine And.intro trivial ?_ | refine And.intro (And.intro rfl (Nat.le_of_ble_eq_true rfl)) ?_ | refine And.intro (And.intro (by kernel_rfl) (by kernel_rfl)) ?_ | refine And.intro (by decide) ?_ | refine lit_true ?_ | refine lit_false ?_))
                    refine ⟨⟨by omega, by omega⟩, ?_⟩
                    (repeat ((conv => whnf); first | refine aw_seq ?_ | refine aw_region ?_ | refine aw_block ?_ | refine aw_skip ?_ | refine aw_true rfl ?_ | refine aw_false rfl ?_ | refine aw_exit ?_ | refine aw_label ?_ | refine aw_ret ?_ | refine And.intro rfl ?_ | refine And.intro trivial ?_ | refine And.intro (And.intro rfl (Nat.le_of_ble_eq_true rfl)) ?_ | refine And.intro (And.intro (by kernel_rfl) (by kernel_rfl)) ?_ | refine And.intro (by decide) ?_ | refine lit_true ?_ | refine lit_false ?_))
                    refine aop_tells rfl rfl ((hfind (l.getD i 0)).of_eq (s' := int' i) (by rw [placeI_at hr (by omega)])) ⟨AVle.refl _, AVle.refl _, trivial⟩ fun nx6 => ?_
                    (repeat ((conv => whnf); first | refine aw_seq ?_ | refine aw_region ?_ | refine aw_block ?_ | refine aw_skip ?_ | refine aw_true rfl ?_ | refine aw_false rfl ?_ | refine aw_exit ?_ | refine aw_label ?_ | refine aw_ret ?_ | refine And.intro rfl ?_ | refine And.intro trivial ?_ | refine And.intro (And.intro rfl (Nat.le_of_ble_eq_true rfl)) ?_ | refine And.intro (And.intro (by kernel_rfl) (by kernel_rfl)) ?_ | refine And.intro (by decide) ?_ | refine lit_true ?_ | refine lit_false ?_))
                    intro c h11; cases c
                    · (repeat ((conv => whnf); first | refine aw_seq ?_ | refine aw_region ?_ | refine aw_block ?_ | refine aw_skip ?_ | refine aw_true rfl ?_ | refine aw_false rfl ?_ | refine aw_exit ?_ | refine aw_label ?_ | refine aw_ret ?_ | refine And.intro rfl ?_ | refine And.intro trivial ?_ | refine And.intro (And.intro rfl (Nat.le_of_ble_eq_true rfl)) ?_ | refine And.intro (And.intro (by kernel_rfl) (by kernel_rfl)) ?_ | refine And.intro (by decide) ?_ | refine lit_true ?_ | refine lit_false ?_))
                      refine back (i + 1, nx6) (by dsimp only; omega) (by dsimp only; omega) (ele_keep rfl rfl .slnil .slnil ⟨AVle.refl _, AVle.refl _, le_int (wrap_succ (by omega)), trivial⟩)
                    · simp at h11
              · have h8 := yes_of h7
                dsimp only at h8
                (repeat ((conv => whnf); first | refine aw_seq ?_ | refine aw_region ?_ | refine aw_block ?_ | refine aw_skip ?_ | refine aw_true rfl ?_ | refine aw_false rfl ?_ | refine aw_exit ?_ | refine aw_label ?_ | refine aw_ret ?_ | refine And.intro rfl ?_ | refine And.intro trivial ?_ | refine And.intro (And.intro rfl (Nat.le_of_ble_eq_true rfl)) ?_ | refine And.intro (And.intro (by kernel_rfl) (by kernel_rfl)) ?_ | refine And.intro (by decide) ?_ | refine lit_true ?_ | refine lit_false ?_))
                (refine aw_draw 13 ?_ ?_ ?_ ?_; (· kernel_rfl); (· kernel_rfl); (· kernel_rfl))
                (repeat ((conv => whnf); first | refine aw_seq ?_ | refine aw_region ?_ | refine aw_block ?_ | refine aw_skip ?_ | refine aw_true rfl ?_ | refine aw_false rfl ?_ | refine aw_exit ?_ | refine aw_label ?_ | refine aw_ret ?_ | refine And.intro rfl ?_ | refine And.intro trivial ?_ | refine And.intro (And.intro rfl (Nat.le_of_ble_eq_true rfl)) ?_ | refine And.intro (And.intro (by kernel_rfl) (by kernel_rfl)) ?_ | refine And.intro (by decide) ?_ | refine lit_true ?_ | refine lit_false ?_))
                refine ⟨⟨by omega, by omega⟩, ?_⟩
                (repeat ((conv => whnf); first | refine aw_seq ?_ | refine aw_region ?_ | refine aw_block ?_ | refine aw_skip ?_ | refine aw_true rfl ?_ | refine aw_false rfl ?_ | refine aw_exit ?_ | refine aw_label ?_ | refine aw_ret ?_ | refine And.intro rfl ?_ | refine And.intro trivial ?_ | refine And.intro (And.intro rfl (Nat.le_of_ble_eq_true rfl)) ?_ | refine And.intro (And.intro (by kernel_rfl) (by kernel_rfl)) ?_ | refine And.intro (by decide) ?_ | refine lit_true ?_ | refine lit_false ?_))
                refine ex_yields (yields_tells rfl rfl (hfind (ask.getD i 0)) ⟨AVle.refl _, AVle.refl _, trivial⟩ (NoId.v _)) ?_
                (repeat ((conv => whnf); first | refine aw_seq ?_ | refine aw_region ?_ | refine aw_block ?_ | refine aw_skip ?_ | refine aw_true rfl ?_ | refine aw_false rfl ?_ | refine aw_exit ?_ | refine aw_label ?_ | refine aw_ret ?_ | refine And.intro rfl ?_ | refine And.intro trivial ?_ | refine And.intro (And.intro rfl (Nat.le_of_ble_eq_true rfl)) ?_ | refine And.intro (And.intro (by kernel_rfl) (by kernel_rfl)) ?_ | refine And.intro (by decide) ?_ | refine lit_true ?_ | refine lit_false ?_))
                refine ⟨⟨by omega, by omega⟩, ?_⟩
                (repeat ((conv => whnf); first | refine aw_seq ?_ | refine aw_region ?_ | refine aw_block ?_ | refine aw_skip ?_ | refine aw_true rfl ?_ | refine aw_false rfl ?_ | refine aw_exit ?_ | refine aw_label ?_ | refine aw_ret ?_ | refine And.intro rfl ?_ | refine And.intro trivial ?_ | refine And.intro (And.intro rfl (Nat.le_of_ble_eq_true rfl)) ?_ | refine And.intro (And.intro (by kernel_rfl) (by kernel_rfl)) ?_ | refine And.intro (by decide) ?_ | refine lit_true ?_ | refine lit_false ?_))
                refine ex_yields (yields_tells rfl rfl (f16_spec l (ask.getD i 0) (by omega)) ⟨AVle.refl _, AVle.refl _, trivial⟩ (NoId.v _)) ?_
                (repeat ((conv => whnf); first | refine aw_seq ?_ | refine aw_region ?_ | refine aw_block ?_ | refine aw_skip ?_ | refine aw_true rfl ?_ | refine aw_false rfl ?_ | refine aw_exit ?_ | refine aw_label ?_ | refine aw_ret ?_ | refine And.intro rfl ?_ | refine And.intro trivial ?_ | refine And.intro (And.intro rfl (Nat.le_of_ble_eq_true rfl)) ?_ | refine And.intro (And.intro (by kernel_rfl) (by kernel_rfl)) ?_ | refine And.intro (by decide) ?_ | refine lit_true ?_ | refine lit_false ?_))
                intro c h9; cases c
                · (repeat ((conv => whnf); first | refine aw_seq ?_ | refine aw_region ?_ | refine aw_block ?_ | refine aw_skip ?_ | refine aw_true rfl ?_ | refine aw_false rfl ?_ | refine aw_exit ?_ | refine aw_label ?_ | refine aw_ret ?_ | refine And.intro rfl ?_ | refine And.intro trivial ?_ | refine And.intro (And.intro rfl (Nat.le_of_ble_eq_true rfl)) ?_ | refine And.intro (And.intro (by kernel_rfl) (by kernel_rfl)) ?_ | refine And.intro (by decide) ?_ | refine lit_true ?_ | refine lit_false ?_))
                  refine back (i + 1, nx4) (by dsimp only; omega) (by dsimp only; omega) (ele_keep rfl rfl .slnil .slnil ⟨AVle.refl _, AVle.refl _, AVle.refl _, le_int (wrap_succ (by omega)), trivial⟩)
                · simp at h9
          · have := yes_of (p := (t.length : Int) = 0) (by simpa using h5); omega
      · have hb := (f12_spec l (by omega)).of_eq (s' := .tup [nodes [], int' 15]) (by rw [buildN_bad hr])
        have hw := (f13_spec l (by omega)).of_eq (s' := int' 15) (by rw [wrongN_bad hr])
        refine appK_intro (fun hl0 => ?_) (fun hl0 => ?_)
        rotate_left
        refine ⟨fun k hk => rfl, by show (0 + l.length) * 4 ≤ _; omega, by omega, ?_⟩
        all_goals
          (repeat ((conv => whnf); first | refine aw_seq ?_ | refine aw_region ?_ | refine aw_block ?_ | refine aw_skip ?_ | refine aw_true rfl ?_ | refine aw_false rfl ?_ | refine aw_exit ?_ | refine aw_label ?_ | refine aw_ret ?_ | refine And.intro rfl ?_ | refine And.intro trivial ?_ | refine And.intro (And.intro rfl (Nat.le_of_ble_eq_true rfl)) ?_ | refine And.intro (And.intro (by kernel_rfl) (by kernel_rfl)) ?_ | refine And.intro (by decide) ?_ | refine lit_true ?_ | refine lit_false ?_))
          refine aop_tells rfl rfl hb ⟨(by first | exact AVle.os_sl0.trans (AVle.of_eq (by rw [List.eq_nil_of_length_eq_zero hl0]; rfl)) | exact AVle.os_sl.trans (AVle.of_eq (by show AV.sl 1 (0 + l.length) _ = AV.sl 1 l.length _; rw [Nat.zero_add]; rfl))), trivial⟩ fun nx2 => ?_
          (repeat ((conv => whnf); first | refine aw_seq ?_ | refine aw_region ?_ | refine aw_block ?_ | refine aw_skip ?_ | refine aw_true rfl ?_ | refine aw_false rfl ?_ | refine aw_exit ?_ | refine aw_label ?_ | refine aw_ret ?_ | refine And.intro rfl ?_ | refine And.intro trivial ?_ | refine And.intro (And.intro rfl (Nat.le_of_ble_eq_true rfl)) ?_ | refine And.intro (And.intro (by kernel_rfl) (by kernel_rfl)) ?_ | refine And.intro (by decide) ?_ | refine lit_true ?_ | refine lit_false ?_))
          refine aop_tells rfl rfl hw ⟨AVle.refl _, trivial⟩ fun nx3 => ?_
          (repeat ((conv => whnf); first | refine aw_seq ?_ | refine aw_region ?_ | refine aw_block ?_ | refine aw_skip ?_ | refine aw_true rfl ?_ | refine aw_false rfl ?_ | refine aw_exit ?_ | refine aw_label ?_ | refine aw_ret ?_ | refine And.intro rfl ?_ | refine And.intro trivial ?_ | refine And.intro (And.intro rfl (Nat.le_of_ble_eq_true rfl)) ?_ | refine And.intro (And.intro (by kernel_rfl) (by kernel_rfl)) ?_ | refine And.intro (by decide) ?_ | refine lit_true ?_ | refine lit_false ?_))
          refine aop_tells rfl rfl f14_spec trivial fun nx6 => ?_
          (repeat ((conv => whnf); first | refine aw_seq ?_ | refine aw_region ?_ | refine aw_block ?_ | refine aw_skip ?_ | refine aw_true rfl ?_ | refine aw_false rfl ?_ | refine aw_exit ?_ | refine aw_label ?_ | refine aw_ret ?_ | refine And.intro rfl ?_ | refine And.intro trivial ?_ | refine And.intro (And.intro rfl (Nat.le_of_ble_eq_true rfl)) ?_ | refine And.intro (And.intro (by kernel_rfl) (by kernel_rfl)) ?_ | refine And.intro (by decide) ?_ | refine lit_true ?_ | refine lit_false ?_))
          refine ret_all rfl trivial rfl
    · (repeat ((conv => whnf); first | refine aw_seq ?_ | refine aw_region ?_ | refine aw_block ?_ | refine aw_skip ?_ | refine aw_true rfl ?_ | refine aw_false rfl ?_ | refine aw_exit ?_ | refine aw_label ?_ | refine aw_ret ?_ | refine And.intro rfl ?_ | refine And.intro trivial ?_ | refine And.intro (And.intro rfl (Nat.le_of_ble_eq_true rfl)) ?_ | refine And.intro (And.intro (by kernel_rfl) (by kernel_rfl)) ?_ | refine And.intro (by decide) ?_ | refine lit_true ?_ | refine lit_false ?_))
      refine ret_all rfl trivial rfl
  · (repeat ((conv => whnf); first | refine aw_seq ?_ | refine aw_region ?_ | refine aw_block ?_ | refine aw_skip ?_ | refine aw_true rfl ?_ | refine aw_false rfl ?_ | refine aw_exit ?_ | refine aw_label ?_ | refine aw_ret ?_ | refine And.intro rfl ?_ | refine And.intro trivial ?_ | refine And.intro (And.intro rfl (Nat.le_of_ble_eq_true rfl)) ?_ | refine And.intro (And.intro (by kernel_rfl) (by kernel_rfl)) ?_ | refine And.intro (by decide) ?_ | refine lit_true ?_ | refine lit_false ?_))
    refine ret_all rfl trivial rfl
end Go.Proofs.Ytb
