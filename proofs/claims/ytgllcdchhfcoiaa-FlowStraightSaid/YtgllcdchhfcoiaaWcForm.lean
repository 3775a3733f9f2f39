import Derived.Test.YtgllcdchhfcoiaaWbWrong
namespace Go.Proofs.W
open Go.Vl
set_option maxRecDepth 100000

def okL (l : List Ins) : Prop := ∀ i ∈ l, i.ok
theorem okL.get {l : List Ins} (h : okL l) {n : Nat} (hn : n < l.length) : (l.getD n ins0).ok := by
  have : l.getD n ins0 ∈ l := by simp [List.getD, hn]
  exact h _ this
theorem find_range_some {n i : Nat} {p : Nat → Bool} (hi : i < n) (h : p i = true) (hb : ∀ j, j < i → p j = false) : (List.range n).find? p = some i := by
  rw [List.find?_range_eq_some]
  exact ⟨h, by simpa using hi, by simpa using hb⟩
theorem find_range_none {n : Nat} {p : Nat → Bool} (hb : ∀ j, j < n → p j = false) : (List.range n).find? p = none := by
  rw [List.find?_range_eq_none]
  simpa using hb
theorem of_kind (c : Nat) (hc : c < 65536) : Tells Try.prog 55 [u16 c] (.tup [int (kof c).1, .any, .any]) := (of_spec c hc).le (AVle.tups (cs := [_, _, _]) ⟨AVle.refl _, AVle.any _, AVle.any _, trivial⟩)
theorem of_both (c : Nat) (hc : c < 65536) : Tells Try.prog 55 [u16 c] (.tup [int (kof c).1, boolA (kof c).2, .any]) := (of_spec c hc).le (AVle.tups (cs := [_, _, _]) ⟨AVle.refl _, AVle.refl _, AVle.any _, trivial⟩)
theorem formed_spec (l : List Ins) (hok : okL l) (hl : l.length ≤ 1000000000) : Tells Try.prog 53 [inss l] (.tup [int (formedI l).1, int (formedI l).2]) := by
  refine tells_of_aw Try.func53 rfl rfl fun nx => ?_
  (repeat ((conv => whnf); first | refine aw_seq ?_ | refine aw_region ?_ | refine aw_block ?_ | refine aw_skip ?_ | refine aw_true rfl ?_ | refine aw_false rfl ?_ | refine aw_exit ?_ | refine aw_label ?_ | refine aw_ret ?_ | refine And.intro rfl ?_ | refine And.intro trivial ?_ | refine And.intro (And.intro rfl (Nat.le_of_ble_eq_true rfl)) ?_ | refine And.intro (And.intro (by kernel_rfl) (by kernel_rfl)) ?_ | refine And.intro (by decide) ?_ | refine lit_true ?_ | refine lit_false ?_))
  intro c g1; cases c
  · have h1 := not_of g1
    (repeat ((conv => whnf); first | refine aw_seq ?_ | refine aw_region ?_ | refine aw_block ?_ | refine aw_skip ?_ | refine aw_true rfl ?_ | refine aw_false rfl ?_ | refine aw_exit ?_ | refine aw_label ?_ | refine aw_ret ?_ | refine And.intro rfl ?_ | refine And.intro trivial ?_ | refine And.intro (And.intro rfl (Nat.le_of_ble_eq_true rfl)) ?_ | refine And.intro (And.intro (by kernel_rfl) (by kernel_rfl)) ?_ | refine And.intro (by decide) ?_ | refine lit_true ?_ | refine lit_false ?_))
    intro c g2; cases c
    · have h2 := not_of g2
      (repeat ((conv => whnf); first | refine aw_seq ?_ | refine aw_region ?_ | refine aw_block ?_ | refine aw_skip ?_ | refine aw_true rfl ?_ | refine aw_false rfl ?_ | refine aw_exit ?_ | refine aw_label ?_ | refine aw_ret ?_ | refine And.intro rfl ?_ | refine And.intro trivial ?_ | refine And.intro (And.intro rfl (Nat.le_of_ble_eq_true rfl)) ?_ | refine And.intro (And.intro (by kernel_rfl) (by kernel_rfl)) ?_ | refine And.intro (by decide) ?_ | refine lit_true ?_ | refine lit_false ?_))
      refine aw_loop (fun s : Nat × Nat => mk 71 [(0, inss l), (22, inss l), (23, int l.length), (24, int s.1)] ⟨[], [], s.2, 0⟩) (fun s => s.1 ≤ l.length ∧ ∀ j, j < s.1 → wrongI (l.getD j ins0) (l.length - 1 - j) = 0) (fun s => l.length - s.1) ?_ ?_
      · exact ⟨(0, nx), ⟨by omega, by intro j hj; omega⟩, ele_mk rfl rfl ⟨AVle.refl _, AVle.refl _, AVle.refl _, AVle.refl _, trivial⟩⟩
      · rintro ⟨i, nx'⟩ ⟨h3, h4⟩
        dsimp only at h3 h4
        (repeat ((conv => whnf); first | refine aw_seq ?_ | refine aw_region ?_ | refine aw_block ?_ | refine aw_skip ?_ | refine aw_true rfl ?_ | refine aw_false rfl ?_ | refine aw_exit ?_ | refine aw_label ?_ | refine aw_ret ?_ | refine And.intro rfl ?_ | refine And.intro trivial ?_ | refine And.intro (And.intro rfl (Nat.le_of_ble_eq_true rfl)) ?_ | refine And.intro (And.intro (by kernel_rfl) (by kernel_rfl)) ?_ | refine And.intro (by decide) ?_ | refine lit_true ?_ | refine lit_false ?_))
        intro c g3; cases c
        · have h5 := not_of g3
          (repeat ((conv => whnf); first | refine aw_seq ?_ | refine aw_region ?_ | refine aw_block ?_ | refine aw_skip ?_ | refine aw_true rfl ?_ | refine aw_false rfl ?_ | refine aw_exit ?_ | refine aw_label ?_ | refine aw_ret ?_ | refine And.intro rfl ?_ | refine And.intro trivial ?_ | refine And.intro (And.intro rfl (Nat.le_of_ble_eq_true rfl)) ?_ | refine And.intro (And.intro (by kernel_rfl) (by kernel_rfl)) ?_ | refine And.intro (by decide) ?_ | refine lit_true ?_ | refine lit_false ?_))
          have hw : IntKind.i64.wrap ((l.length : Int) - 1) = ((l.length - 1 : Nat) : Int) := by rw [wrap_id (by omega) (by omega)]; omega
          (conv => whnf)
          rw [hw]
          refine ⟨⟨by omega, by omega⟩, ?_⟩
          (repeat ((conv => whnf); first | refine aw_seq ?_ | refine aw_region ?_ | refine aw_block ?_ | refine aw_skip ?_ | refine aw_true rfl ?_ | refine aw_false rfl ?_ | refine aw_exit ?_ | refine aw_label ?_ | refine aw_ret ?_ | refine And.intro rfl ?_ | refine And.intro trivial ?_ | refine And.intro (And.intro rfl (Nat.le_of_ble_eq_true rfl)) ?_ | refine And.intro (And.intro (by kernel_rfl) (by kernel_rfl)) ?_ | refine And.intro (by decide) ?_ | refine lit_true ?_ | refine lit_false ?_))
          have hlast : (Int.toNat ((l.length - 1 : Nat) : Int)) = l.length - 1 := by omega
          refine aop_tells rfl rfl (of_kind (l.getD (l.length - 1) ins0).code (hok.get (by omega)).1) ⟨AVle.refl _, trivial⟩ fun nx => ?_
          have hnone : (List.range l.length).find? (fun n => wrongI (l.getD n ins0) (l.length - 1 - n) != 0) = none := find_range_none fun j hj => by simpa using h4 j (by omega)
          (repeat ((conv => whnf); first | refine aw_seq ?_ | refine aw_region ?_ | refine aw_block ?_ | refine aw_skip ?_ | refine aw_true rfl ?_ | refine aw_false rfl ?_ | refine aw_exit ?_ | refine aw_label ?_ | refine aw_ret ?_ | refine And.intro rfl ?_ | refine And.intro trivial ?_ | refine And.intro (And.intro rfl (Nat.le_of_ble_eq_true rfl)) ?_ | refine And.intro (And.intro (by kernel_rfl) (by kernel_rfl)) ?_ | refine And.intro (by decide) ?_ | refine lit_true ?_ | refine lit_false ?_))
          intro c g4; cases c
          · have h6 := bne_no g4
            (repeat ((conv => whnf); first | refine aw_seq ?_ | refine aw_region ?_ | refine aw_block ?_ | refine aw_skip ?_ | refine aw_true rfl ?_ | refine aw_false rfl ?_ | refine aw_exit ?_ | refine aw_label ?_ | refine aw_ret ?_ | refine And.intro rfl ?_ | refine And.intro trivial ?_ | refine And.intro (And.intro rfl (Nat.le_of_ble_eq_true rfl)) ?_ | refine And.intro (And.intro (by kernel_rfl) (by kernel_rfl)) ?_ | refine And.intro (by decide) ?_ | refine lit_true ?_ | refine lit_false ?_))
            refine ret_tells rfl (AVle.of_eq ?_)
            have : formedI l = (0, 0) := by
              unfold formedI
              rw [if_neg (by omega), if_neg (by omega), hnone]
              dsimp only
              rw [if_pos (by omega)]
            rw [this]; rfl
          · have h6 := bne_yes g4
            (repeat ((conv => whnf); first | refine aw_seq ?_ | refine aw_region ?_ | refine aw_block ?_ | refine aw_skip ?_ | refine aw_true rfl ?_ | refine aw_false rfl ?_ | refine aw_exit ?_ | refine aw_label ?_ | refine aw_ret ?_ | refine And.intro rfl ?_ | refine And.intro trivial ?_ | refine And.intro (And.intro rfl (Nat.le_of_ble_eq_true rfl)) ?_ | refine And.intro (And.intro (by kernel_rfl) (by kernel_rfl)) ?_ | refine And.intro (by decide) ?_ | refine lit_true ?_ | refine lit_false ?_))
            intro c g5; cases c
            · have h7 := bne_no g5
              (repeat ((conv => whnf); first | refine aw_seq ?_ | refine aw_region ?_ | refine aw_block ?_ | refine aw_skip ?_ | refine aw_true rfl ?_ | refine aw_false rfl ?_ | refine aw_exit ?_ | refine aw_label ?_ | refine aw_ret ?_ | refine And.intro rfl ?_ | refine And.intro trivial ?_ | refine And.intro (And.intro rfl (Nat.le_of_ble_eq_true rfl)) ?_ | refine And.intro (And.intro (by kernel_rfl) (by kernel_rfl)) ?_ | refine And.intro (by decide) ?_ | refine lit_true ?_ | refine lit_false ?_))
              refine ret_tells rfl (AVle.of_eq ?_)
              have : formedI l = (0, 0) := by
                unfold formedI
                rw [if_neg (by omega), if_neg (by omega), hnone]
                dsimp only
                rw [if_pos (by omega)]
              rw [this]; rfl
            · have h7 := bne_yes g5
              (repeat ((conv => whnf); first | refine aw_seq ?_ | refine aw_region ?_ | refine aw_block ?_ | refine aw_skip ?_ | refine aw_true rfl ?_ | refine aw_false rfl ?_ | refine aw_exit ?_ | refine aw_label ?_ | refine aw_ret ?_ | refine And.intro rfl ?_ | refine And.intro trivial ?_ | refine And.intro (And.intro rfl (Nat.le_of_ble_eq_true rfl)) ?_ | refine And.intro (And.intro (by kernel_rfl) (by kernel_rfl)) ?_ | refine And.intro (by decide) ?_ | refine lit_true ?_ | refine lit_false ?_))
              refine ret_tells rfl (AVle.of_eq ?_)
              have : formedI l = (l.length - 1, 11) := by
                unfold formedI
                rw [if_neg (by omega), if_neg (by omega), hnone]
                dsimp only
                rw [if_neg (by omega)]
              rw [this]; rfl
        · have h5 := yes_of g3
          dsimp only at h5
          have hi : i < l.length := by omega
          (repeat ((conv => whnf); first | refine aw_seq ?_ | refine aw_region ?_ | refine aw_block ?_ | refine aw_skip ?_ | refine aw_true rfl ?_ | refine aw_false rfl ?_ | refine aw_exit ?_ | refine aw_label ?_ | refine aw_ret ?_ | refine And.intro rfl ?_ | refine And.intro trivial ?_ | refine And.intro (And.intro rfl (Nat.le_of_ble_eq_true rfl)) ?_ | refine And.intro (And.intro (by kernel_rfl) (by kernel_rfl)) ?_ | refine And.intro (by decide) ?_ | refine lit_true ?_ | refine lit_false ?_))
          refine ⟨⟨by dsimp only; omega, by dsimp only; omega⟩, ?_⟩
          (repeat ((conv => whnf); first | refine aw_seq ?_ | refine aw_region ?_ | refine aw_block ?_ | refine aw_skip ?_ | refine aw_true rfl ?_ | refine aw_false rfl ?_ | refine aw_exit ?_ | refine aw_label ?_ | refine aw_ret ?_ | refine And.intro rfl ?_ | refine And.intro trivial ?_ | refine And.intro (And.intro rfl (Nat.le_of_ble_eq_true rfl)) ?_ | refine And.intro (And.intro (by kernel_rfl) (by kernel_rfl)) ?_ | refine And.intro (by decide) ?_ | refine lit_true ?_ | refine lit_false ?_))
          refine aop_tells rfl rfl (of_both (l.getD i ins0).code (hok.get hi).1) ⟨AVle.refl _, trivial⟩ fun nx => ?_
          have hsx := wrong_spec (l.getD i ins0) (hok.get hi) (l.length - 1 - i)
          generalize hx : (kof (l.getD i ins0).code).2 = x at hsx ⊢
          cases x
          all_goals
            (repeat ((conv => whnf); first | refine aw_seq ?_ | refine aw_region ?_ | refine aw_block ?_ | refine aw_skip ?_ | refine aw_true rfl ?_ | refine aw_false rfl ?_ | refine aw_exit ?_ | refine aw_label ?_ | refine aw_ret ?_ | refine And.intro rfl ?_ | refine And.intro trivial ?_ | refine And.intro (And.intro rfl (Nat.le_of_ble_eq_true rfl)) ?_ | refine And.intro (And.intro (by kernel_rfl) (by kernel_rfl)) ?_ | refine And.intro (by decide) ?_ | refine lit_true ?_ | refine lit_false ?_))
            have hw : IntKind.i64.wrap (IntKind.i64.wrap ((l.length : Int) - 1) - (i : Int)) = ((l.length - 1 - i : Nat) : Int) := by
              rw [wrap_id (n := (l.length : Int) - 1) (by omega) (by omega), wrap_id (by omega) (by omega)]; omega
            refine aop_tells rfl rfl hsx ⟨AVle.of_eq ?_, trivial⟩ fun nx => ?_
            · unfold looked; rw [← hw]; rfl
            (repeat ((conv => whnf); first | refine aw_seq ?_ | refine aw_region ?_ | refine aw_block ?_ | refine aw_skip ?_ | refine aw_true rfl ?_ | refine aw_false rfl ?_ | refine aw_exit ?_ | refine aw_label ?_ | refine aw_ret ?_ | refine And.intro rfl ?_ | refine And.intro trivial ?_ | refine And.intro (And.intro rfl (Nat.le_of_ble_eq_true rfl)) ?_ | refine And.intro (And.intro (by kernel_rfl) (by kernel_rfl)) ?_ | refine And.intro (by decide) ?_ | refine lit_true ?_ | refine lit_false ?_))
            intro c g4; cases c
            · have h6 := bne_no g4
              (repeat ((conv => whnf); first | refine aw_seq ?_ | refine aw_region ?_ | refine aw_block ?_ | refine aw_skip ?_ | refine aw_true rfl ?_ | refine aw_false rfl ?_ | refine aw_exit ?_ | refine aw_label ?_ | refine aw_ret ?_ | refine And.intro rfl ?_ | refine And.intro trivial ?_ | refine And.intro (And.intro rfl (Nat.le_of_ble_eq_true rfl)) ?_ | refine And.intro (And.intro (by kernel_rfl) (by kernel_rfl)) ?_ | refine And.intro (by decide) ?_ | refine lit_true ?_ | refine lit_false ?_))
              refine back (i + 1, _) ⟨by dsimp only; omega, fun j hj => ?_⟩ (by dsimp only; omega) (ele_keep rfl rfl (.cons _ .slnil) .slnil ⟨AVle.refl _, AVle.refl _, AVle.refl _, le_int (wrap_succ (by dsimp only; omega)), trivial⟩)
              dsimp only at hj
              rcases Nat.lt_or_ge j i with h | h
              · exact h4 j h
              · obtain rfl : j = i := by omega
                omega
            · have h6 := bne_yes g4
              (repeat ((conv => whnf); first | refine aw_seq ?_ | refine aw_region ?_ | refine aw_block ?_ | refine aw_skip ?_ | refine aw_true rfl ?_ | refine aw_false rfl ?_ | refine aw_exit ?_ | refine aw_label ?_ | refine aw_ret ?_ | refine And.intro rfl ?_ | refine And.intro trivial ?_ | refine And.intro (And.intro rfl (Nat.le_of_ble_eq_true rfl)) ?_ | refine And.intro (And.intro (by kernel_rfl) (by kernel_rfl)) ?_ | refine And.intro (by decide) ?_ | refine lit_true ?_ | refine lit_false ?_))
              refine ret_tells rfl (AVle.of_eq ?_)
              have : formedI l = (i, wrongI (l.getD i ins0) (l.length - 1 - i)) := by
                unfold formedI
                rw [if_neg (by omega), if_neg (by omega), find_range_some hi (by simp only [bne_iff_ne]; omega) (fun j hj => by simpa using h4 j hj)]
              rw [this]; rfl
    · have h2 := yes_of g2
      (repeat ((conv => whnf); first | refine aw_seq ?_ | refine aw_region ?_ | refine aw_block ?_ | refine aw_skip ?_ | refine aw_true rfl ?_ | refine aw_false rfl ?_ | refine aw_exit ?_ | refine aw_label ?_ | refine aw_ret ?_ | refine And.intro rfl ?_ | refine And.intro trivial ?_ | refine And.intro (And.intro rfl (Nat.le_of_ble_eq_true rfl)) ?_ | refine And.intro (And.intro (by kernel_rfl) (by kernel_rfl)) ?_ | refine And.intro (by decide) ?_ | refine lit_true ?_ | refine lit_false ?_))
      refine ret_tells rfl (AVle.of_eq ?_)
      have : formedI l = (0, 3) := by
        unfold formedI
        rw [if_neg (by omega), if_pos (by omega)]
      rw [this]; rfl
  · have h1 := yes_of g1
    (repeat ((conv => whnf); first | refine aw_seq ?_ | refine aw_region ?_ | refine aw_block ?_ | refine aw_skip ?_ | refine aw_true rfl ?_ | refine aw_false rfl ?_ | refine aw_exit ?_ | refine aw_label ?_ | refine aw_ret ?_ | refine And.intro rfl ?_ | refine And.intro trivial ?_ | refine And.intro (And.intro rfl (Nat.le_of_ble_eq_true rfl)) ?_ | refine And.intro (And.intro (by kernel_rfl) (by kernel_rfl)) ?_ | refine And.intro (by decide) ?_ | refine lit_true ?_ | refine lit_false ?_))
    refine ret_tells rfl (AVle.of_eq ?_)
    have : formedI l = (0, 4) := by
      unfold formedI
      rw [if_pos (by omega)]
    rw [this]; rfl
end Go.Proofs.W
