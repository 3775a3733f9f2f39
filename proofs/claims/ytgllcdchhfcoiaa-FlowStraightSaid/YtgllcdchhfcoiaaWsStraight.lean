import Derived.Test.YtgllcdchhfcoiaaWpStraight
namespace Go.Proofs.W
open Go.Vl
set_option maxRecDepth 100000

theorem straight_ok (l : List Bool) : okL (straight l) := by
  intro i hi
  unfold straight at hi
  rcases List.mem_append.1 hi with h | h
  · obtain ⟨b, _, rfl⟩ := List.mem_map.1 h
    cases b <;> simp [insB, Ins.ok]
  · simp at h; subst h; simp [Ins.ok]
/-- The first return among some. -/
def fstN (l : List Bool) (i : Nat) : Nat := ((l.take i).findIdx? (fun b => b)).getD l.length
theorem fstN_zero (l : List Bool) : fstN l 0 = l.length := by simp [fstN]
theorem fstN_full (l : List Bool) : fstN l l.length = firstB l := by simp [fstN, firstB]
theorem fstN_le (l : List Bool) (i : Nat) : fstN l i ≤ l.length := by
  unfold fstN
  cases h : (l.take i).findIdx? (fun b => b) with
  | none => simp
  | some j =>
    have := (List.findIdx?_eq_some_iff_getElem.1 h).1
    rw [List.length_take] at this
    simp; omega
theorem fstN_no {l : List Bool} {i : Nat} (hi : i < l.length) (h : l.getD i false = false) : fstN l (i + 1) = fstN l i := by
  unfold fstN
  rw [take_getD false hi, List.findIdx?_append, h]
  simp
theorem fstN_yes {l : List Bool} {i : Nat} (hi : i < l.length) (h : l.getD i false = true) : fstN l (i + 1) = min (fstN l i) i := by
  unfold fstN
  rw [take_getD false hi, List.findIdx?_append, h]
  cases hf : (l.take i).findIdx? (fun b => b) with
  | none => simp [List.findIdx?_cons]; omega
  | some j =>
    have := (List.findIdx?_eq_some_iff_getElem.1 hf).1
    rw [List.length_take] at this
    simp; omega
theorem straight_spec (l : List Bool) (hm : l.length ≤ maxLen) : PCall Try.prog 6 [bools l] (fun r => r = .v (.bool true)) := by
  refine pcall_of_aw Try.func6 rfl rfl fun nx => ?_
  (repeat ((conv => whnf); first | refine aw_seq ?_ | refine aw_region ?_ | refine aw_block ?_ | refine aw_skip ?_ | refine aw_true rfl ?_ | refine aw_false rfl ?_ | refine aw_exit ?_ | refine aw_label ?_ | refine aw_ret ?_ | refine And.intro rfl ?_ | refine And.intro trivial ?_ | refine And.intro (And.intro rfl (Nat.le_of_ble_eq_true rfl)) ?_ | refine And.intro (And.intro (by kernel_rfl) (by kernel_rfl)) ?_ | refine And.intro (by decide) ?_ | refine lit_true ?_ | refine lit_false ?_))
  intro c h1; cases c
  rotate_left
  · (repeat ((conv => whnf); first | refine aw_seq ?_ | refine aw_region ?_ | refine aw_block ?_ | refine aw_skip ?_ | refine aw_true rfl ?_ | refine aw_false rfl ?_ | refine aw_exit ?_ | refine aw_label ?_ | refine aw_ret ?_ | refine And.intro rfl ?_ | refine And.intro trivial ?_ | refine And.intro (And.intro rfl (Nat.le_of_ble_eq_true rfl)) ?_ | refine And.intro (And.intro (by kernel_rfl) (by kernel_rfl)) ?_ | refine And.intro (by decide) ?_ | refine lit_true ?_ | refine lit_false ?_))
    refine ret_all rfl trivial rfl
  have h1 := not_of h1
  have hl2 : l.length ≤ 200 := by omega
  (repeat ((conv => whnf); first | refine aw_seq ?_ | refine aw_region ?_ | refine aw_block ?_ | refine aw_skip ?_ | refine aw_true rfl ?_ | refine aw_false rfl ?_ | refine aw_exit ?_ | refine aw_label ?_ | refine aw_ret ?_ | refine And.intro rfl ?_ | refine And.intro trivial ?_ | refine And.intro (And.intro rfl (Nat.le_of_ble_eq_true rfl)) ?_ | refine And.intro (And.intro (by kernel_rfl) (by kernel_rfl)) ?_ | refine And.intro (by decide) ?_ | refine lit_true ?_ | refine lit_false ?_))
  refine aw_loop (fun s : Nat × Option Nat × Nat => mk 74 [(0, bools l), (3, .os 4 s.1 (fun k => insA (insB (l.getD k false))) (nmd s.2.1)), (4, int (fstN l s.1)), (5, int s.1)] ⟨[], pmOf (nmd s.2.1) (s.1 * 4), s.2.2, 0⟩) (fun s => s.1 ≤ l.length ∧ (s.2.1 = none → s.1 = 0)) (fun s => l.length - s.1) ?_ ?_
  · exact ⟨(0, none, nx), ⟨by simp, fun _ => rfl⟩, ele_mk rfl rfl ⟨AVle.refl _, AVle.os_nil, le_int (by rw [fstN_zero]), AVle.refl _, trivial⟩⟩
  · rintro ⟨i, oi, nx2⟩ ⟨h3, h4⟩
    dsimp only at h3 h4
    (repeat ((conv => whnf); first | refine aw_seq ?_ | refine aw_region ?_ | refine aw_block ?_ | refine aw_skip ?_ | refine aw_true rfl ?_ | refine aw_false rfl ?_ | refine aw_exit ?_ | refine aw_label ?_ | refine aw_ret ?_ | refine And.intro rfl ?_ | refine And.intro trivial ?_ | refine And.intro (And.intro rfl (Nat.le_of_ble_eq_true rfl)) ?_ | refine And.intro (And.intro (by kernel_rfl) (by kernel_rfl)) ?_ | refine And.intro (by decide) ?_ | refine lit_true ?_ | refine lit_false ?_))
    intro c h5; cases c
    · have h6 := not_of h5
      dsimp only at h6
      obtain rfl : i = l.length := by omega
      have hR := straight_right hl2
      have hokS := straight_ok l
      have hlS := straight_len l
      have hck := check_iff.2 hR
      have hr : Tells Try.prog 20 [inss (straight l)] (bools (reachedOf (straight l))) := reach_spec (straight l) hokS (by omega)
      rw [reachedOf_ok hR] at hr
      have hlong := longest_spec (straight l) hokS (by omega)
      rw [if_pos hck, straight_long hl2] at hlong
      have hprune := prune_spec (straight l) hokS (by omega)
      have hpl := straight_prune hl2
      have hrl := reachI_length (straight l)
      have hri : ∀ j, (reachI (straight l)).getD j false = decide (j ≤ firstB l) := fun j => by
        rw [Bool.eq_iff_iff, reachI_iff hR.1, straight_reached, decide_eq_true_eq]
      have hfl := firstB_le l
      generalize pruneI (straight l) = pp at hpl hprune
      have key : ∀ (nx5 : Nat) (E : Env), E.n = 74 → E.h.nx = nx5 → E.df = some [] → AVle (E.t 0) (bools l) → AVle (E.t 3) (inss (straight l)) → AVle (E.t 4) (int (firstB l)) → True := fun _ _ _ _ _ _ _ _ => trivial
      rw [fstN_full]
      have hrow : ∀ k, k < l.length → insA (insB (l.getD k false)) = insA ((straight l).getD k ins0) := fun k hk => by rw [straight_get (by omega), if_pos hk]
      have hlast : insA ((straight l).getD l.length ins0) = .ag [u16 22, u8 0, u8 0, u32 0] := by rw [straight_get (Nat.le_refl _), if_neg (by omega)]; rfl
      rcases oi with _ | id
      all_goals
        (repeat ((conv => whnf); first | refine aw_seq ?_ | refine aw_region ?_ | refine aw_block ?_ | refine aw_skip ?_ | refine aw_true rfl ?_ | refine aw_false rfl ?_ | refine aw_exit ?_ | refine aw_label ?_ | refine aw_ret ?_ | refine And.intro rfl ?_ | refine And.intro trivial ?_ | refine And.intro (And.intro rfl (Nat.le_of_ble_eq_true rfl)) ?_ | refine And.intro (And.intro (by kernel_rfl) (by kernel_rfl)) ?_ | refine And.intro (by decide) ?_ | refine lit_true ?_ | refine lit_false ?_))
        refine ⟨oneRow_one rfl, by show (l.length + 1) * 8 ≤ _; omega, by dsimp only; omega, ?_⟩
        (repeat ((conv => whnf); first | refine aw_seq ?_ | refine aw_block ?_ | refine aw_skip ?_ | refine aw_true rfl ?_ | refine aw_false rfl ?_ | refine aw_exit ?_ | refine aw_label ?_ | refine aw_ret ?_ | refine And.intro rfl ?_ | refine And.intro trivial ?_ | refine And.intro (And.intro rfl (Nat.le_of_ble_eq_true rfl)) ?_ | refine And.intro (And.intro (by kernel_rfl) (by kernel_rfl)) ?_ | refine And.intro (by decide) ?_ | refine lit_true ?_ | refine lit_false ?_))
        refine AW.le (ele_keep (bx := []) (pm := []) (nn := 0) (L := [(0, bools l), (3, inss (straight l)), (4, int (firstB l))]) rfl rfl .slnil (.cons _ .slnil) ⟨AVle.refl _, ?_, AVle.refl _, trivial⟩) ?_
        · refine AVle.trans (b := .os 4 (l.length + 1) (fun k => insA ((straight l).getD k ins0)) _) (AVle.os_fun (appF_one (fun k hk => hrow k hk) hlast.symm)) (AVle.os_sl.trans ?_)
          show AVle (.sl 4 (l.length + 1) _) (.sl 4 (straight l).length _)
          rw [hlS]
          exact AVle.refl _
        (repeat ((conv => whnf); first | refine aw_seq ?_ | refine aw_region ?_ | refine aw_block ?_ | refine aw_skip ?_ | refine aw_true rfl ?_ | refine aw_false rfl ?_ | refine aw_exit ?_ | refine aw_label ?_ | refine aw_ret ?_ | refine And.intro rfl ?_ | refine And.intro trivial ?_ | refine And.intro (And.intro rfl (Nat.le_of_ble_eq_true rfl)) ?_ | refine And.intro (And.intro (by kernel_rfl) (by kernel_rfl)) ?_ | refine And.intro (by decide) ?_ | refine lit_true ?_ | refine lit_false ?_))
        refine aop_tells rfl rfl hr ⟨AVle.refl _, trivial⟩ fun nx3 => ?_
        (repeat ((conv => whnf); first | refine aw_seq ?_ | refine aw_region ?_ | refine aw_block ?_ | refine aw_skip ?_ | refine aw_true rfl ?_ | refine aw_false rfl ?_ | refine aw_exit ?_ | refine aw_label ?_ | refine aw_ret ?_ | refine And.intro rfl ?_ | refine And.intro trivial ?_ | refine And.intro (And.intro rfl (Nat.le_of_ble_eq_true rfl)) ?_ | refine And.intro (And.intro (by kernel_rfl) (by kernel_rfl)) ?_ | refine And.intro (by decide) ?_ | refine lit_true ?_ | refine lit_false ?_))
        intro c g1; cases c
        rotate_left
        · have g1 := bne_yes g1; rw [hrl, hlS] at g1; exact absurd rfl g1
        (repeat ((conv => whnf); first | refine aw_seq ?_ | refine aw_region ?_ | refine aw_block ?_ | refine aw_skip ?_ | refine aw_true rfl ?_ | refine aw_false rfl ?_ | refine aw_exit ?_ | refine aw_label ?_ | refine aw_ret ?_ | refine And.intro rfl ?_ | refine And.intro trivial ?_ | refine And.intro (And.intro rfl (Nat.le_of_ble_eq_true rfl)) ?_ | refine And.intro (And.intro (by kernel_rfl) (by kernel_rfl)) ?_ | refine And.intro (by decide) ?_ | refine lit_true ?_ | refine lit_false ?_))
        refine aw_loop (fun s : Nat × Nat => mk 74 [(0, bools l), (3, inss (straight l)), (4, int (firstB l)), (7, bools (reachI (straight l))), (8, int s.1)] ⟨[], [], s.2, 0⟩) (fun s => s.1 ≤ l.length + 1) (fun s => l.length + 1 - s.1) ?_ ?_
        · exact ⟨(0, _), by dsimp only; omega, ele_mk rfl rfl ⟨AVle.refl _, AVle.refl _, AVle.refl _, AVle.refl _, AVle.refl _, trivial⟩⟩
        · rintro ⟨i, nx6⟩ k1
          dsimp only at k1
          (repeat ((conv => whnf); first | refine aw_seq ?_ | refine aw_region ?_ | refine aw_block ?_ | refine aw_skip ?_ | refine aw_true rfl ?_ | refine aw_false rfl ?_ | refine aw_exit ?_ | refine aw_label ?_ | refine aw_ret ?_ | refine And.intro rfl ?_ | refine And.intro trivial ?_ | refine And.intro (And.intro rfl (Nat.le_of_ble_eq_true rfl)) ?_ | refine And.intro (And.intro (by kernel_rfl) (by kernel_rfl)) ?_ | refine And.intro (by decide) ?_ | refine lit_true ?_ | refine lit_false ?_))
          intro c g2; cases c
          · (repeat ((conv => whnf); first | refine aw_seq ?_ | refine aw_region ?_ | refine aw_block ?_ | refine aw_skip ?_ | refine aw_true rfl ?_ | refine aw_false rfl ?_ | refine aw_exit ?_ | refine aw_label ?_ | refine aw_ret ?_ | refine And.intro rfl ?_ | refine And.intro trivial ?_ | refine And.intro (And.intro rfl (Nat.le_of_ble_eq_true rfl)) ?_ | refine And.intro (And.intro (by kernel_rfl) (by kernel_rfl)) ?_ | refine And.intro (by decide) ?_ | refine lit_true ?_ | refine lit_false ?_))
            refine aop_tells rfl rfl hlong ⟨AVle.refl _, trivial⟩ fun nx7 => ?_
            have hws : IntKind.i64.wrap ((firstB l : Int) + 1) = ((firstB l + 1 : Nat) : Int) := wrap_succ (by omega)
            (repeat ((conv => whnf); first | refine aw_seq ?_ | refine aw_region ?_ | refine aw_block ?_ | refine aw_skip ?_ | refine aw_true rfl ?_ | refine aw_false rfl ?_ | refine aw_exit ?_ | refine aw_label ?_ | refine aw_ret ?_ | refine And.intro rfl ?_ | refine And.intro trivial ?_ | refine And.intro (And.intro rfl (Nat.le_of_ble_eq_true rfl)) ?_ | refine And.intro (And.intro (by kernel_rfl) (by kernel_rfl)) ?_ | refine And.intro (by decide) ?_ | refine lit_true ?_ | refine lit_false ?_))
            intro c g4; cases c
            · have g4 := not_of g4; exact absurd hws.symm g4
            (repeat ((conv => whnf); first | refine aw_seq ?_ | refine aw_region ?_ | refine aw_block ?_ | refine aw_skip ?_ | refine aw_true rfl ?_ | refine aw_false rfl ?_ | refine aw_exit ?_ | refine aw_label ?_ | refine aw_ret ?_ | refine And.intro rfl ?_ | refine And.intro trivial ?_ | refine And.intro (And.intro rfl (Nat.le_of_ble_eq_true rfl)) ?_ | refine And.intro (And.intro (by kernel_rfl) (by kernel_rfl)) ?_ | refine And.intro (by decide) ?_ | refine lit_true ?_ | refine lit_false ?_))
            refine aop_tells rfl rfl hprune ⟨AVle.refl _, trivial⟩ fun nx8 => ?_
            (repeat ((conv => whnf); first | refine aw_seq ?_ | refine aw_region ?_ | refine aw_block ?_ | refine aw_skip ?_ | refine aw_true rfl ?_ | refine aw_false rfl ?_ | refine aw_exit ?_ | refine aw_label ?_ | refine aw_ret ?_ | refine And.intro rfl ?_ | refine And.intro trivial ?_ | refine And.intro (And.intro rfl (Nat.le_of_ble_eq_true rfl)) ?_ | refine And.intro (And.intro (by kernel_rfl) (by kernel_rfl)) ?_ | refine And.intro (by decide) ?_ | refine lit_true ?_ | refine lit_false ?_))
            intro c g6; cases c
            · have g6 := not_of g6; rw [hpl] at g6; exact absurd hws.symm g6
            (repeat ((conv => whnf); first | refine aw_seq ?_ | refine aw_region ?_ | refine aw_block ?_ | refine aw_skip ?_ | refine aw_true rfl ?_ | refine aw_false rfl ?_ | refine aw_exit ?_ | refine aw_label ?_ | refine aw_ret ?_ | refine And.intro rfl ?_ | refine And.intro trivial ?_ | refine And.intro (And.intro rfl (Nat.le_of_ble_eq_true rfl)) ?_ | refine And.intro (And.intro (by kernel_rfl) (by kernel_rfl)) ?_ | refine And.intro (by decide) ?_ | refine lit_true ?_ | refine lit_false ?_))
            refine aop_tells rfl rfl awake_spec trivial fun nx9 => ?_
            (repeat ((conv => whnf); first | refine aw_seq ?_ | refine aw_region ?_ | refine aw_block ?_ | refine aw_skip ?_ | refine aw_true rfl ?_ | refine aw_false rfl ?_ | refine aw_exit ?_ | refine aw_label ?_ | refine aw_ret ?_ | refine And.intro rfl ?_ | refine And.intro trivial ?_ | refine And.intro (And.intro rfl (Nat.le_of_ble_eq_true rfl)) ?_ | refine And.intro (And.intro (by kernel_rfl) (by kernel_rfl)) ?_ | refine And.intro (by decide) ?_ | refine lit_true ?_ | refine lit_false ?_))
            refine ret_all rfl trivial rfl
          · have g2 := yes_of g2
            dsimp only at g2
            rw [hrl, hlS] at g2
            (repeat ((conv => whnf); first | refine aw_seq ?_ | refine aw_region ?_ | refine aw_block ?_ | refine aw_skip ?_ | refine aw_true rfl ?_ | refine aw_false rfl ?_ | refine aw_exit ?_ | refine aw_label ?_ | refine aw_ret ?_ | refine And.intro rfl ?_ | refine And.intro trivial ?_ | refine And.intro (And.intro rfl (Nat.le_of_ble_eq_true rfl)) ?_ | refine And.intro (And.intro (by kernel_rfl) (by kernel_rfl)) ?_ | refine And.intro (by decide) ?_ | refine lit_true ?_ | refine lit_false ?_))
            refine ⟨⟨by first | omega | (dsimp only; omega), by first | omega | (dsimp only; omega)⟩, ?_⟩
            (repeat ((conv => whnf); first | refine aw_seq ?_ | refine aw_region ?_ | refine aw_block ?_ | refine aw_skip ?_ | refine aw_true rfl ?_ | refine aw_false rfl ?_ | refine aw_exit ?_ | refine aw_label ?_ | refine aw_ret ?_ | refine And.intro rfl ?_ | refine And.intro trivial ?_ | refine And.intro (And.intro rfl (Nat.le_of_ble_eq_true rfl)) ?_ | refine And.intro (And.intro (by kernel_rfl) (by kernel_rfl)) ?_ | refine And.intro (by decide) ?_ | refine lit_true ?_ | refine lit_false ?_))
            intro c g3; cases c
            all_goals
              have g3 : _ = (reachI (straight l)).getD i false := g3
              rw [hri] at g3
              (repeat ((conv => whnf); first | refine aw_seq ?_ | refine aw_region ?_ | refine aw_block ?_ | refine aw_skip ?_ | refine aw_true rfl ?_ | refine aw_false rfl ?_ | refine aw_exit ?_ | refine aw_label ?_ | refine aw_ret ?_ | refine And.intro rfl ?_ | refine And.intro trivial ?_ | refine And.intro (And.intro rfl (Nat.le_of_ble_eq_true rfl)) ?_ | refine And.intro (And.intro (by kernel_rfl) (by kernel_rfl)) ?_ | refine And.intro (by decide) ?_ | refine lit_true ?_ | refine lit_false ?_))
              intro c g4; cases c
              all_goals
                have hc : decide ((i : Int) ≤ (firstB l : Nat)) = decide (i ≤ firstB l) := decide_eq_decide.2 (by omega)
                have g4 : _ = decide ((i : Int) ≤ (firstB l : Nat)) := g4
                rw [hc, ← g3] at g4
                first
                | (exact absurd g4 (by decide))
                | ((repeat ((conv => whnf); first | refine aw_seq ?_ | refine aw_region ?_ | refine aw_block ?_ | refine aw_skip ?_ | refine aw_true rfl ?_ | refine aw_false rfl ?_ | refine aw_exit ?_ | refine aw_label ?_ | refine aw_ret ?_ | refine And.intro rfl ?_ | refine And.intro trivial ?_ | refine And.intro (And.intro rfl (Nat.le_of_ble_eq_true rfl)) ?_ | refine And.intro (And.intro (by kernel_rfl) (by kernel_rfl)) ?_ | refine And.intro (by decide) ?_ | refine lit_true ?_ | refine lit_false ?_))
                   exact back (i + 1, _) (by dsimp only; omega) (by dsimp only; omega) (ele_mk rfl rfl ⟨AVle.refl _, AVle.refl _, AVle.refl _, AVle.refl _, le_int (wrap_succ (by dsimp only; omega)), trivial⟩))
    · have h6 := yes_of h5
      dsimp only at h6
      have hi : i < l.length := by omega
      (repeat ((conv => whnf); first | refine aw_seq ?_ | refine aw_region ?_ | refine aw_block ?_ | refine aw_skip ?_ | refine aw_true rfl ?_ | refine aw_false rfl ?_ | refine aw_exit ?_ | refine aw_label ?_ | refine aw_ret ?_ | refine And.intro rfl ?_ | refine And.intro trivial ?_ | refine And.intro (And.intro rfl (Nat.le_of_ble_eq_true rfl)) ?_ | refine And.intro (And.intro (by kernel_rfl) (by kernel_rfl)) ?_ | refine And.intro (by decide) ?_ | refine lit_true ?_ | refine lit_false ?_))
      refine ⟨⟨by first | omega | (dsimp only; omega), by first | omega | (dsimp only; omega)⟩, ?_⟩
      (repeat ((conv => whnf); first | refine aw_seq ?_ | refine aw_region ?_ | refine aw_block ?_ | refine aw_skip ?_ | refine aw_true rfl ?_ | refine aw_false rfl ?_ | refine aw_exit ?_ | refine aw_label ?_ | refine aw_ret ?_ | refine And.intro rfl ?_ | refine And.intro trivial ?_ | refine And.intro (And.intro rfl (Nat.le_of_ble_eq_true rfl)) ?_ | refine And.intro (And.intro (by kernel_rfl) (by kernel_rfl)) ?_ | refine And.intro (by decide) ?_ | refine lit_true ?_ | refine lit_false ?_))
      intro c h7; cases c
      · have h8 : l.getD i false = false := h7.symm
        have hX : insA (insB (l.getD i false)) = .ag [u16 132, u8 0, u8 0, u32 0] := by rw [h8]; rfl
        rcases oi with _ | id
        · obtain rfl := h4 rfl
          (repeat ((conv => whnf); first | refine aw_seq ?_ | refine aw_region ?_ | refine aw_block ?_ | refine aw_skip ?_ | refine aw_true rfl ?_ | refine aw_false rfl ?_ | refine aw_exit ?_ | refine aw_label ?_ | refine aw_ret ?_ | refine And.intro rfl ?_ | refine And.intro trivial ?_ | refine And.intro (And.intro rfl (Nat.le_of_ble_eq_true rfl)) ?_ | refine And.intro (And.intro (by kernel_rfl) (by kernel_rfl)) ?_ | refine And.intro (by decide) ?_ | refine lit_true ?_ | refine lit_false ?_))
          refine ⟨oneRow_one rfl, by show (0 + 1) * 8 ≤ _; omega, by dsimp only; omega, ?_⟩
          (repeat ((conv => whnf); first | refine aw_seq ?_ | refine aw_region ?_ | refine aw_block ?_ | refine aw_skip ?_ | refine aw_true rfl ?_ | refine aw_false rfl ?_ | refine aw_exit ?_ | refine aw_label ?_ | refine aw_ret ?_ | refine And.intro rfl ?_ | refine And.intro trivial ?_ | refine And.intro (And.intro rfl (Nat.le_of_ble_eq_true rfl)) ?_ | refine And.intro (And.intro (by kernel_rfl) (by kernel_rfl)) ?_ | refine And.intro (by decide) ?_ | refine lit_true ?_ | refine lit_false ?_))
          exact back (0 + 1, some (nx2 + 1), nx2 + 2) ⟨by dsimp only; omega, (fun h => by cases h)⟩ (by dsimp only; omega) (ele_tell [] [((1, nx2 + 1), 4)] rfl rfl (.cons _ .slnil) (.cons_cons _ .slnil) trivial ⟨rfl, rfl, trivial⟩ ⟨AVle.refl _, (AVle.os_fun (appF_one (fun k hk => absurd hk (Nat.not_lt_zero _)) hX.symm)).trans (AVle.os_nm rfl), le_int (by rw [fstN_no hi h8]), le_int (wrap_succ (by dsimp only; omega)), trivial⟩)
        · (repeat ((conv => whnf); first | refine aw_seq ?_ | refine aw_region ?_ | refine aw_block ?_ | refine aw_skip ?_ | refine aw_true rfl ?_ | refine aw_false rfl ?_ | refine aw_exit ?_ | refine aw_label ?_ | refine aw_ret ?_ | refine And.intro rfl ?_ | refine And.intro trivial ?_ | refine And.intro (And.intro rfl (Nat.le_of_ble_eq_true rfl)) ?_ | refine And.intro (And.intro (by kernel_rfl) (by kernel_rfl)) ?_ | refine And.intro (by decide) ?_ | refine lit_true ?_ | refine lit_false ?_))
          refine ⟨oneRow_one rfl, by show (i + 1) * 8 ≤ _; omega, by dsimp only; omega, ?_⟩
          (repeat ((conv => whnf); first | refine aw_seq ?_ | refine aw_region ?_ | refine aw_block ?_ | refine aw_skip ?_ | refine aw_true rfl ?_ | refine aw_false rfl ?_ | refine aw_exit ?_ | refine aw_label ?_ | refine aw_ret ?_ | refine And.intro rfl ?_ | refine And.intro trivial ?_ | refine And.intro (And.intro rfl (Nat.le_of_ble_eq_true rfl)) ?_ | refine And.intro (And.intro (by kernel_rfl) (by kernel_rfl)) ?_ | refine And.intro (by decide) ?_ | refine lit_true ?_ | refine lit_false ?_))
          exact back (i + 1, some (nx2 + 1), nx2 + 2) ⟨by dsimp only; omega, (fun h => by cases h)⟩ (by dsimp only; omega) (ele_tell [] [((1, nx2 + 1), (i + 1) * 4)] rfl rfl (.cons _ .slnil) (.cons_cons _ .slnil) trivial ⟨rfl, rfl, trivial⟩ ⟨AVle.refl _, (AVle.os_fun (appF_one (fun k hk => rfl) hX.symm)).trans (AVle.os_nm rfl), le_int (by rw [fstN_no hi h8]), le_int (wrap_succ (by dsimp only; omega)), trivial⟩)
      · have h8 : l.getD i false = true := h7.symm
        have hX : insA (insB (l.getD i false)) = .ag [u16 22, u8 0, u8 0, u32 0] := by rw [h8]; rfl
        have hmn : (if (i : Int) < (fstN l i : Nat) then (i : Int) else (fstN l i : Nat)) = ((fstN l (i + 1) : Nat) : Int) := by rw [fstN_yes hi h8]; split <;> omega
        rcases oi with _ | id
        · obtain rfl := h4 rfl
          (repeat ((conv => whnf); first | refine aw_seq ?_ | refine aw_region ?_ | refine aw_block ?_ | refine aw_skip ?_ | refine aw_true rfl ?_ | refine aw_false rfl ?_ | refine aw_exit ?_ | refine aw_label ?_ | refine aw_ret ?_ | refine And.intro rfl ?_ | refine And.intro trivial ?_ | refine And.intro (And.intro rfl (Nat.le_of_ble_eq_true rfl)) ?_ | refine And.intro (And.intro (by kernel_rfl) (by kernel_rfl)) ?_ | refine And.intro (by decide) ?_ | refine lit_true ?_ | refine lit_false ?_))
          refine ⟨oneRow_one rfl, by show (0 + 1) * 8 ≤ _; omega, by dsimp only; omega, ?_⟩
          (repeat ((conv => whnf); first | refine aw_seq ?_ | refine aw_region ?_ | refine aw_block ?_ | refine aw_skip ?_ | refine aw_true rfl ?_ | refine aw_false rfl ?_ | refine aw_exit ?_ | refine aw_label ?_ | refine aw_ret ?_ | refine And.intro rfl ?_ | refine And.intro trivial ?_ | refine And.intro (And.intro rfl (Nat.le_of_ble_eq_true rfl)) ?_ | refine And.intro (And.intro (by kernel_rfl) (by kernel_rfl)) ?_ | refine And.intro (by decide) ?_ | refine lit_true ?_ | refine lit_false ?_))
          exact back (0 + 1, some (nx2 + 1), nx2 + 2) ⟨by dsimp only; omega, (fun h => by cases h)⟩ (by dsimp only; omega) (ele_tell [] [((1, nx2 + 1), 4)] rfl rfl (.cons _ .slnil) (.cons_cons _ .slnil) trivial ⟨rfl, rfl, trivial⟩ ⟨AVle.refl _, (AVle.os_fun (appF_one (fun k hk => absurd hk (Nat.not_lt_zero _)) hX.symm)).trans (AVle.os_nm rfl), le_int hmn, le_int (wrap_succ (by dsimp only; omega)), trivial⟩)
        · (repeat ((conv => whnf); first | refine aw_seq ?_ | refine aw_region ?_ | refine aw_block ?_ | refine aw_skip ?_ | refine aw_true rfl ?_ | refine aw_false rfl ?_ | refine aw_exit ?_ | refine aw_label ?_ | refine aw_ret ?_ | refine And.intro rfl ?_ | refine And.intro trivial ?_ | refine And.intro (And.intro rfl (Nat.le_of_ble_eq_true rfl)) ?_ | refine And.intro (And.intro (by kernel_rfl) (by kernel_rfl)) ?_ | refine And.intro (by decide) ?_ | refine lit_true ?_ | refine lit_false ?_))
          refine ⟨oneRow_one rfl, by show (i + 1) * 8 ≤ _; omega, by dsimp only; omega, ?_⟩
          (repeat ((conv => whnf); first | refine aw_seq ?_ | refine aw_region ?_ | refine aw_block ?_ | refine aw_skip ?_ | refine aw_true rfl ?_ | refine aw_false rfl ?_ | refine aw_exit ?_ | refine aw_label ?_ | refine aw_ret ?_ | refine And.intro rfl ?_ | refine And.intro trivial ?_ | refine And.intro (And.intro rfl (Nat.le_of_ble_eq_true rfl)) ?_ | refine And.intro (And.intro (by kernel_rfl) (by kernel_rfl)) ?_ | refine And.intro (by decide) ?_ | refine lit_true ?_ | refine lit_false ?_))
          exact back (i + 1, some (nx2 + 1), nx2 + 2) ⟨by dsimp only; omega, (fun h => by cases h)⟩ (by dsimp only; omega) (ele_tell [] [((1, nx2 + 1), (i + 1) * 4)] rfl rfl (.cons _ .slnil) (.cons_cons _ .slnil) trivial ⟨rfl, rfl, trivial⟩ ⟨AVle.refl _, (AVle.os_fun (appF_one (fun k hk => rfl) hX.symm)).trans (AVle.os_nm rfl), le_int hmn, le_int (wrap_succ (by dsimp only; omega)), trivial⟩)
end Go.Proofs.W
