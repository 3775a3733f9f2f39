import Derived.Test.YtgllcdchhfcoiaaF
import Derived.Test.YtgllcdchhfcoiaaC
set_option linter.unusedVariables false
set_option linter.unusedSimpArgs false
namespace Go.Proofs.W
open Go.Vl
set_option maxRecDepth 100000

/-- Four bytes of b put into d. -/
def copyW (b d : List Nat) (k : Nat) : List Nat := d.take k ++ (((List.range 4).map fun j => b.getD (k + j) 0) ++ d.drop (k + 4))
theorem copyW_length {b d : List Nat} {k : Nat} (h : k + 4 ≤ d.length) : (copyW b d k).length = d.length := by
  simp [copyW]; omega
theorem copyW_get {b d : List Nat} {k : Nat} (h : k + 4 ≤ d.length) (p : Nat) : (copyW b d k).getD p 0 = if k ≤ p ∧ p < k + 4 then b.getD p 0 else d.getD p 0 := by
  have e := splice_get d ((List.range 4).map fun j => b.getD (k + j) 0) k (by simpa using h) p
  simp only [List.length_map, List.length_range] at e
  have e2 : (copyW b d k)[p]? = _ := e
  rw [List.getD_eq_getElem?_getD, e2]
  by_cases h1 : p < k
  · rw [if_pos h1, if_neg (by omega), List.getD_eq_getElem?_getD]
  · rw [if_neg h1]
    by_cases h2 : p < k + 4
    · rw [if_pos h2, if_pos (by omega), List.getElem?_map, List.getElem?_range (by omega)]
      simp only [Option.map_some, Option.getD_some]
      rw [show k + (p - k) = p by omega]
    · rw [if_neg h2, if_neg (by omega), List.getD_eq_getElem?_getD]
theorem copyW_ok {b d : List Nat} {k : Nat} (hb : okB b) (hd : okB d) : okB (copyW b d k) := by
  intro x hx
  unfold copyW at hx
  rcases List.mem_append.1 hx with h | h
  · exact hd x (List.mem_of_mem_take h)
  · rcases List.mem_append.1 h with h | h
    · obtain ⟨j, _, rfl⟩ := List.mem_map.1 h
      exact hb.get _
    · exact hd x (List.mem_of_mem_drop h)
theorem copyW_splice {b d : List Nat} {k : Nat} (hb : k + 4 ≤ b.length) : splice (d.map fun k : Nat => u8 k) k ((List.range 4).map fun j => (b.map fun k : Nat => u8 k).getD (k + j) .any) = (copyW b d k).map fun k : Nat => u8 k := by
  rw [splice_def]
  unfold copyW
  simp only [List.map_append, List.map_take, List.map_drop, List.length_map, List.length_range]
  congr 2
  rw [List.map_map]
  refine List.map_congr_left fun j hj => ?_
  have := List.mem_range.1 hj
  simp [List.getD, show k + j < b.length by omega]
theorem wordL_congr {b d : List Nat} {k : Nat} (h : ∀ j, j < 4 → d.getD (k + j) 0 = b.getD (k + j) 0) : wordL b k = wordL d k := by
  have e : placesI k 4 false = [k + 3, k + 2, k + 1, k + 0] := by
    show (List.range 4).map (fun i => k + 4 - 1 - i) = _
    rw [show List.range 4 = [0, 1, 2, 3] from rfl]
    simp
  unfold wordL accB
  rw [e]
  simp only [List.foldl_cons, List.foldl_nil, h 0 (by decide), h 1 (by decide), h 2 (by decide), h 3 (by decide)]
def outB (v : Nat) (s : Rn) : List AV := [u32 v, int s.steps, ints s.loads]
set_option maxHeartbeats 1000000 in
theorem vmblind_spec (l : List Ins) (hok : okL l) (hl : l.length ≤ maxLen) (b : List Nat) (hb : okB b) (hbl : b.length = 64) (c0 : List Nat) (hc0 : okB c0) (hcl : c0.length = 64) : PCall Try.prog 10 [inss l, b64A b, b64A c0] (fun r => r = .v (.bool true)) := by
  refine pcall_of_aw Try.func10 rfl rfl fun nx => ?_
  (repeat ((conv => whnf); first | refine aw_seq ?_ | refine aw_block ?_ | refine aw_skip ?_ | refine aw_true rfl ?_ | refine aw_false rfl ?_ | refine aw_exit ?_ | refine aw_label ?_ | refine aw_ret ?_ | refine And.intro rfl ?_ | refine And.intro trivial ?_ | refine And.intro (And.intro rfl (Nat.le_of_ble_eq_true rfl)) ?_ | refine And.intro (And.intro (by kernel_rfl) (by kernel_rfl)) ?_ | refine And.intro (by decide) ?_ | refine lit_true ?_ | refine lit_false ?_))
  refine aw_regionX 2 ?_
  refine aop_boxK rfl ?_ ?_
  · rfl
  refine aop_boxK rfl ?_ ?_
  · rfl
  (repeat ((conv => whnf); first | refine aw_seq ?_ | refine aw_block ?_ | refine aw_skip ?_ | refine aw_true rfl ?_ | refine aw_false rfl ?_ | refine aw_exit ?_ | refine aw_label ?_ | refine aw_ret ?_ | refine And.intro rfl ?_ | refine And.intro trivial ?_ | refine And.intro (And.intro rfl (Nat.le_of_ble_eq_true rfl)) ?_ | refine And.intro (And.intro (by kernel_rfl) (by kernel_rfl)) ?_ | refine And.intro (by decide) ?_ | refine lit_true ?_ | refine lit_false ?_))
  refine aw_freeze (n := 86) (nx := nx + 2) (df := some []) (bx := [((1, nx + 1), .c (c0.map fun k : Nat => u8 k))]) (pm := []) (nn := 2) (L := [(0, inss l), (4, rp64 b), (5, .bp (1, nx + 1) 0), (6, boolA false)]) [((0, nx), .c (b.map fun k : Nat => u8 k))] rfl rfl rfl (List.Perm.swap _ _ _) .slnil ⟨Frz.refl _, Frz.bp (List.mem_cons_self ..) rfl, Frz.refl _, Frz.refl _, trivial⟩ ?_
  (repeat ((conv => whnf); first | refine aw_seq ?_ | refine aw_region ?_ | refine aw_block ?_ | refine aw_skip ?_ | refine aw_true rfl ?_ | refine aw_false rfl ?_ | refine aw_exit ?_ | refine aw_label ?_ | refine aw_ret ?_ | refine And.intro rfl ?_ | refine And.intro trivial ?_ | refine And.intro (And.intro rfl (Nat.le_of_ble_eq_true rfl)) ?_ | refine And.intro (And.intro (by kernel_rfl) (by kernel_rfl)) ?_ | refine And.intro (by decide) ?_ | refine lit_true ?_ | refine lit_false ?_))
  intro c h1; cases c
  · have h1 := not_of h1
    have hl2 : l.length ≤ 200 := by omega
    have hvm := vmrun_spec l hok (by omega) b hb (by omega)
    generalize hV : vmI l b = V at hvm
    obtain ⟨e, v, s⟩ := V
    dsimp only at hvm
    (repeat ((conv => whnf); first | refine aw_seq ?_ | refine aw_region ?_ | refine aw_block ?_ | refine aw_skip ?_ | refine aw_true rfl ?_ | refine aw_false rfl ?_ | refine aw_exit ?_ | refine aw_label ?_ | refine aw_ret ?_ | refine And.intro rfl ?_ | refine And.intro trivial ?_ | refine And.intro (And.intro rfl (Nat.le_of_ble_eq_true rfl)) ?_ | refine And.intro (And.intro (by kernel_rfl) (by kernel_rfl)) ?_ | refine And.intro (by decide) ?_ | refine lit_true ?_ | refine lit_false ?_))
    refine aw_mixN 10 [] (fun i => match i with | 7 => true | 8 => true | _ => false) (fun i => match i with | 2 => true | _ => false) [0, 1, 2, 3, 4, 5, 6, 7, 8, 9] (by kernel_rfl) (by kernel_rfl) HB0 ?_
    (repeat ((conv => whnf); first | refine aw_seq ?_ | refine aw_region ?_ | refine aw_block ?_ | refine aw_skip ?_ | refine aw_true rfl ?_ | refine aw_false rfl ?_ | refine aw_exit ?_ | refine aw_label ?_ | refine aw_ret ?_ | refine And.intro rfl ?_ | refine And.intro trivial ?_ | refine And.intro (And.intro rfl (Nat.le_of_ble_eq_true rfl)) ?_ | refine And.intro (And.intro (by kernel_rfl) (by kernel_rfl)) ?_ | refine And.intro (by decide) ?_ | refine lit_true ?_ | refine lit_false ?_))
    refine ⟨_, pure_tells rfl rfl rfl (all6_spec l (by omega)) ⟨AVle.refl _, trivial⟩ (noid_inss l), ?_⟩
    (repeat ((conv => whnf); first | refine aw_seq ?_ | refine aw_region ?_ | refine aw_block ?_ | refine aw_skip ?_ | refine aw_true rfl ?_ | refine aw_false rfl ?_ | refine aw_exit ?_ | refine aw_label ?_ | refine aw_ret ?_ | refine And.intro rfl ?_ | refine And.intro trivial ?_ | refine And.intro (And.intro rfl (Nat.le_of_ble_eq_true rfl)) ?_ | refine And.intro (And.intro (by kernel_rfl) (by kernel_rfl)) ?_ | refine And.intro (by decide) ?_ | refine lit_true ?_ | refine lit_false ?_))
    refine ⟨_, pure_arr (n := 64) (e := 5) rfl rfl rfl Try.underlying77 Try.underlying5 rfl (by kernel_rfl) hbl (fun _ => rfl), ?_⟩
    (repeat ((conv => whnf); first | refine aw_seq ?_ | refine aw_region ?_ | refine aw_block ?_ | refine aw_skip ?_ | refine aw_true rfl ?_ | refine aw_false rfl ?_ | refine aw_exit ?_ | refine aw_label ?_ | refine aw_ret ?_ | refine And.intro rfl ?_ | refine And.intro trivial ?_ | refine And.intro (And.intro rfl (Nat.le_of_ble_eq_true rfl)) ?_ | refine And.intro (And.intro (by kernel_rfl) (by kernel_rfl)) ?_ | refine And.intro (by decide) ?_ | refine lit_true ?_ | refine lit_false ?_))
    refine ⟨_, pure_tells rfl rfl rfl hvm ⟨AVle.refl _, AVle.refl _, trivial⟩ (noid_run _ _ _), ?_⟩
    (repeat ((conv => whnf); first | refine aw_seq ?_ | refine aw_region ?_ | refine aw_block ?_ | refine aw_skip ?_ | refine aw_true rfl ?_ | refine aw_false rfl ?_ | refine aw_exit ?_ | refine aw_label ?_ | refine aw_ret ?_ | refine And.intro rfl ?_ | refine And.intro trivial ?_ | refine And.intro (And.intro rfl (Nat.le_of_ble_eq_true rfl)) ?_ | refine And.intro (And.intro (by kernel_rfl) (by kernel_rfl)) ?_ | refine And.intro (by decide) ?_ | refine lit_true ?_ | refine lit_false ?_))
    refine ⟨_, eff_alloc rfl rfl z_out HB0, fun r h' hr => ?_⟩
    obtain ⟨rfl, rfl⟩ := hr
    (repeat ((conv => whnf); first | refine aw_seq ?_ | refine aw_region ?_ | refine aw_block ?_ | refine aw_skip ?_ | refine aw_true rfl ?_ | refine aw_false rfl ?_ | refine aw_exit ?_ | refine aw_label ?_ | refine aw_ret ?_ | refine And.intro rfl ?_ | refine And.intro trivial ?_ | refine And.intro (And.intro rfl (Nat.le_of_ble_eq_true rfl)) ?_ | refine And.intro (And.intro (by kernel_rfl) (by kernel_rfl)) ?_ | refine And.intro (by decide) ?_ | refine lit_true ?_ | refine lit_false ?_))
    refine ⟨_, eff_store rfl rfl rfl rfl rfl rfl rfl (by kernel_rfl) (by kernel_rfl) (by show 0 + 3 ≤ 3; omega) HB0, fun r h' hr => ?_⟩
    subst hr
    (repeat ((conv => whnf); first | refine aw_seq ?_ | refine aw_region ?_ | refine aw_block ?_ | refine aw_skip ?_ | refine aw_true rfl ?_ | refine aw_false rfl ?_ | refine aw_exit ?_ | refine aw_label ?_ | refine aw_ret ?_ | refine And.intro rfl ?_ | refine And.intro trivial ?_ | refine And.intro (And.intro rfl (Nat.le_of_ble_eq_true rfl)) ?_ | refine And.intro (And.intro (by kernel_rfl) (by kernel_rfl)) ?_ | refine And.intro (by decide) ?_ | refine lit_true ?_ | refine lit_false ?_))
    intro c h2; cases c
    · have h2 : e = 0 := by have := bne_no h2; omega
      obtain ⟨hR, _, hrun⟩ := vmI_ok hV h2
      obtain ⟨e1, e2, e3⟩ := runI_ends (b := b) hR.1
      rw [hrun] at e1 e2 e3
      dsimp only at e1 e2 e3
      (repeat ((conv => whnf); first | refine aw_seq ?_ | refine aw_region ?_ | refine aw_block ?_ | refine aw_skip ?_ | refine aw_true rfl ?_ | refine aw_false rfl ?_ | refine aw_exit ?_ | refine aw_label ?_ | refine aw_ret ?_ | refine And.intro rfl ?_ | refine And.intro trivial ?_ | refine And.intro (And.intro rfl (Nat.le_of_ble_eq_true rfl)) ?_ | refine And.intro (And.intro (by kernel_rfl) (by kernel_rfl)) ?_ | refine And.intro (by decide) ?_ | refine lit_true ?_ | refine lit_false ?_))
      refine aw_loop (fun y : Nat × List Nat × Nat => mk 86 [(0, inss l), (4, rp64 b), (5, .bp (1, nx + 1) 0), (6, boolA false), (7, .bp (2, nx + 2) 0), (9, int y.1)] ⟨[((2, nx + 2), .c (outB v s)), ((1, nx + 1), .c (y.2.1.map fun k : Nat => u8 k))], [], y.2.2, 3⟩)
        (fun y => y.1 ≤ s.loads.length ∧ okB y.2.1 ∧ y.2.1.length = 64 ∧ ∀ k ∈ s.loads.take y.1, ∀ j, j < 4 → y.2.1.getD (k + j) 0 = b.getD (k + j) 0) (fun y => s.loads.length - y.1) ?_ ?_
      · exact ⟨(0, c0, nx + 3), ⟨Nat.zero_le _, hc0, hcl, fun k h => by cases h⟩, ele_keep rfl rfl (List.Sublist.refl _) .slnil ⟨AVle.refl _, AVle.refl _, AVle.refl _, AVle.refl _, AVle.refl _, AVle.refl _, trivial⟩⟩
      · rintro ⟨i, d, nx1⟩ ⟨g1, g3, g4, g5⟩
        dsimp only at g1 g3 g4 g5
        (repeat ((conv => whnf); first | refine aw_seq ?_ | refine aw_region ?_ | refine aw_block ?_ | refine aw_skip ?_ | refine aw_true rfl ?_ | refine aw_false rfl ?_ | refine aw_exit ?_ | refine aw_label ?_ | refine aw_ret ?_ | refine And.intro rfl ?_ | refine And.intro trivial ?_ | refine And.intro (And.intro rfl (Nat.le_of_ble_eq_true rfl)) ?_ | refine And.intro (And.intro (by kernel_rfl) (by kernel_rfl)) ?_ | refine And.intro (by decide) ?_ | refine lit_true ?_ | refine lit_false ?_))
        intro c g2; cases c
        · have g2 := not_of g2
          dsimp only at g2
          rw [List.take_of_length_le (by omega)] at g5
          have hbl2 : runI d l = (v, s) := by
            rw [← hrun]
            refine runI_blind fun k hk => wordL_congr fun j hj => ?_
            rw [hrun] at hk
            exact g5 k hk j hj
          have hvd := vmrun_spec l hok (by omega) d g3 (by omega)
          have hvi : vmI l d = (0, v, s) := by
            unfold vmI
            rw [if_neg (by rw [check_iff.2 hR]; simp), if_neg (by omega), if_neg (by omega), hbl2]
          rw [hvi] at hvd
          dsimp only at hvd
          (repeat ((conv => whnf); first | refine aw_seq ?_ | refine aw_block ?_ | refine aw_skip ?_ | refine aw_true rfl ?_ | refine aw_false rfl ?_ | refine aw_exit ?_ | refine aw_label ?_ | refine aw_ret ?_ | refine And.intro rfl ?_ | refine And.intro trivial ?_ | refine And.intro (And.intro rfl (Nat.le_of_ble_eq_true rfl)) ?_ | refine And.intro (And.intro (by kernel_rfl) (by kernel_rfl)) ?_ | refine And.intro (by decide) ?_ | refine lit_true ?_ | refine lit_false ?_))
          refine aw_freeze (n := 86) (nx := nx1) (df := some []) (bx := [((2, nx + 2), .c (outB v s))]) (pm := []) (nn := 3) (L := [(0, inss l), (5, rp64 d), (6, boolA false), (7, .bp (2, nx + 2) 0)]) [((1, nx + 1), .c (d.map fun k : Nat => u8 k))] rfl rfl rfl (List.Perm.swap _ _ _) .slnil ⟨Frz.refl _, Frz.bp (List.mem_cons_self ..) rfl, Frz.refl _, Frz.refl _, trivial⟩ ?_
          refine aw_mixN 10 [] (fun i => match i with | 7 => true | 8 => true | _ => false) (fun i => match i with | 2 => true | _ => false) [0, 1, 2, 3, 4, 5, 6, 7, 8, 9] (by kernel_rfl) (by kernel_rfl) HB0 ?_
          (repeat ((conv => whnf); first | refine aw_seq ?_ | refine aw_region ?_ | refine aw_block ?_ | refine aw_skip ?_ | refine aw_true rfl ?_ | refine aw_false rfl ?_ | refine aw_exit ?_ | refine aw_label ?_ | refine aw_ret ?_ | refine And.intro rfl ?_ | refine And.intro trivial ?_ | refine And.intro (And.intro rfl (Nat.le_of_ble_eq_true rfl)) ?_ | refine And.intro (And.intro (by kernel_rfl) (by kernel_rfl)) ?_ | refine And.intro (by decide) ?_ | refine lit_true ?_ | refine lit_false ?_))
          refine ⟨_, pure_tells rfl rfl rfl (all6_spec l (by omega)) ⟨AVle.refl _, trivial⟩ (noid_inss l), ?_⟩
          (repeat ((conv => whnf); first | refine aw_seq ?_ | refine aw_region ?_ | refine aw_block ?_ | refine aw_skip ?_ | refine aw_true rfl ?_ | refine aw_false rfl ?_ | refine aw_exit ?_ | refine aw_label ?_ | refine aw_ret ?_ | refine And.intro rfl ?_ | refine And.intro trivial ?_ | refine And.intro (And.intro rfl (Nat.le_of_ble_eq_true rfl)) ?_ | refine And.intro (And.intro (by kernel_rfl) (by kernel_rfl)) ?_ | refine And.intro (by decide) ?_ | refine lit_true ?_ | refine lit_false ?_))
          refine ⟨_, pure_arr (n := 64) (e := 5) rfl rfl rfl Try.underlying77 Try.underlying5 rfl (by kernel_rfl) g4 (fun _ => rfl), ?_⟩
          (repeat ((conv => whnf); first | refine aw_seq ?_ | refine aw_region ?_ | refine aw_block ?_ | refine aw_skip ?_ | refine aw_true rfl ?_ | refine aw_false rfl ?_ | refine aw_exit ?_ | refine aw_label ?_ | refine aw_ret ?_ | refine And.intro rfl ?_ | refine And.intro trivial ?_ | refine And.intro (And.intro rfl (Nat.le_of_ble_eq_true rfl)) ?_ | refine And.intro (And.intro (by kernel_rfl) (by kernel_rfl)) ?_ | refine And.intro (by decide) ?_ | refine lit_true ?_ | refine lit_false ?_))
          refine ⟨_, pure_tells rfl rfl rfl hvd ⟨AVle.refl _, AVle.refl _, trivial⟩ (noid_run _ _ _), ?_⟩
          (repeat ((conv => whnf); first | refine aw_seq ?_ | refine aw_region ?_ | refine aw_block ?_ | refine aw_skip ?_ | refine aw_true rfl ?_ | refine aw_false rfl ?_ | refine aw_exit ?_ | refine aw_label ?_ | refine aw_ret ?_ | refine And.intro rfl ?_ | refine And.intro trivial ?_ | refine And.intro (And.intro rfl (Nat.le_of_ble_eq_true rfl)) ?_ | refine And.intro (And.intro (by kernel_rfl) (by kernel_rfl)) ?_ | refine And.intro (by decide) ?_ | refine lit_true ?_ | refine lit_false ?_))
          refine ⟨_, eff_alloc rfl rfl z_out HB0, fun r h' hr => ?_⟩
          obtain ⟨rfl, rfl⟩ := hr
          (repeat ((conv => whnf); first | refine aw_seq ?_ | refine aw_region ?_ | refine aw_block ?_ | refine aw_skip ?_ | refine aw_true rfl ?_ | refine aw_false rfl ?_ | refine aw_exit ?_ | refine aw_label ?_ | refine aw_ret ?_ | refine And.intro rfl ?_ | refine And.intro trivial ?_ | refine And.intro (And.intro rfl (Nat.le_of_ble_eq_true rfl)) ?_ | refine And.intro (And.intro (by kernel_rfl) (by kernel_rfl)) ?_ | refine And.intro (by decide) ?_ | refine lit_true ?_ | refine lit_false ?_))
          refine ⟨_, eff_store rfl rfl rfl rfl rfl rfl rfl (by kernel_rfl) (by kernel_rfl) (by show 0 + 3 ≤ 3; omega) HB0, fun r h' hr => ?_⟩
          subst hr
          (repeat ((conv => whnf); first | refine aw_seq ?_ | refine aw_region ?_ | refine aw_block ?_ | refine aw_skip ?_ | refine aw_true rfl ?_ | refine aw_false rfl ?_ | refine aw_exit ?_ | refine aw_label ?_ | refine aw_ret ?_ | refine And.intro rfl ?_ | refine And.intro trivial ?_ | refine And.intro (And.intro rfl (Nat.le_of_ble_eq_true rfl)) ?_ | refine And.intro (And.intro (by kernel_rfl) (by kernel_rfl)) ?_ | refine And.intro (by decide) ?_ | refine lit_true ?_ | refine lit_false ?_))
          (intro c hc; obtain rfl : c = false := hc.trans (bne_self_eq_false _); (repeat ((conv => whnf); first | refine aw_seq ?_ | refine aw_region ?_ | refine aw_block ?_ | refine aw_skip ?_ | refine aw_true rfl ?_ | refine aw_false rfl ?_ | refine aw_exit ?_ | refine aw_label ?_ | refine aw_ret ?_ | refine And.intro rfl ?_ | refine And.intro trivial ?_ | refine And.intro (And.intro rfl (Nat.le_of_ble_eq_true rfl)) ?_ | refine And.intro (And.intro (by kernel_rfl) (by kernel_rfl)) ?_ | refine And.intro (by decide) ?_ | refine lit_true ?_ | refine lit_false ?_)))
          (intro c hc; obtain rfl : c = false := hc.trans (bne_self_eq_false _); (repeat ((conv => whnf); first | refine aw_seq ?_ | refine aw_region ?_ | refine aw_block ?_ | refine aw_skip ?_ | refine aw_true rfl ?_ | refine aw_false rfl ?_ | refine aw_exit ?_ | refine aw_label ?_ | refine aw_ret ?_ | refine And.intro rfl ?_ | refine And.intro trivial ?_ | refine And.intro (And.intro rfl (Nat.le_of_ble_eq_true rfl)) ?_ | refine And.intro (And.intro (by kernel_rfl) (by kernel_rfl)) ?_ | refine And.intro (by decide) ?_ | refine lit_true ?_ | refine lit_false ?_)))
          (intro c hc; obtain rfl : c = false := hc.trans (bne_self_eq_false _); (repeat ((conv => whnf); first | refine aw_seq ?_ | refine aw_region ?_ | refine aw_block ?_ | refine aw_skip ?_ | refine aw_true rfl ?_ | refine aw_false rfl ?_ | refine aw_exit ?_ | refine aw_label ?_ | refine aw_ret ?_ | refine And.intro rfl ?_ | refine And.intro trivial ?_ | refine And.intro (And.intro rfl (Nat.le_of_ble_eq_true rfl)) ?_ | refine And.intro (And.intro (by kernel_rfl) (by kernel_rfl)) ?_ | refine And.intro (by decide) ?_ | refine lit_true ?_ | refine lit_false ?_)))
          refine aop_tells rfl rfl awake6_spec trivial fun nx => ?_
          (repeat ((conv => whnf); first | refine aw_seq ?_ | refine aw_region ?_ | refine aw_block ?_ | refine aw_skip ?_ | refine aw_true rfl ?_ | refine aw_false rfl ?_ | refine aw_exit ?_ | refine aw_label ?_ | refine aw_ret ?_ | refine And.intro rfl ?_ | refine And.intro trivial ?_ | refine And.intro (And.intro rfl (Nat.le_of_ble_eq_true rfl)) ?_ | refine And.intro (And.intro (by kernel_rfl) (by kernel_rfl)) ?_ | refine And.intro (by decide) ?_ | refine lit_true ?_ | refine lit_false ?_))
          refine ret_is rfl rfl
        · have g2 := yes_of g2
          dsimp only at g2
          have hi : i < s.loads.length := by omega
          have hm : s.loads.getD i 0 ∈ s.loads := by simp [List.getD, hi]
          obtain ⟨f1, f2⟩ := e1 _ hm
          have htk : s.loads.take (i + 1) = s.loads.take i ++ [s.loads.getD i 0] := take_getD 0 hi
          (repeat ((conv => whnf); first | refine aw_seq ?_ | refine aw_block ?_ | refine aw_skip ?_ | refine aw_true rfl ?_ | refine aw_false rfl ?_ | refine aw_exit ?_ | refine aw_label ?_ | refine aw_ret ?_ | refine And.intro rfl ?_ | refine And.intro trivial ?_ | refine And.intro (And.intro rfl (Nat.le_of_ble_eq_true rfl)) ?_ | refine And.intro (And.intro (by kernel_rfl) (by kernel_rfl)) ?_ | refine And.intro (by decide) ?_ | refine lit_true ?_ | refine lit_false ?_))
          refine aw_region ?_
          (repeat ((conv => whnf); first | refine aw_seq ?_ | refine aw_block ?_ | refine aw_skip ?_ | refine aw_true rfl ?_ | refine aw_false rfl ?_ | refine aw_exit ?_ | refine aw_label ?_ | refine aw_ret ?_ | refine And.intro rfl ?_ | refine And.intro trivial ?_ | refine And.intro (And.intro rfl (Nat.le_of_ble_eq_true rfl)) ?_ | refine And.intro (And.intro (by kernel_rfl) (by kernel_rfl)) ?_ | refine And.intro (by decide) ?_ | refine lit_true ?_ | refine lit_false ?_))
          refine ⟨⟨by first | omega | (dsimp only; omega), by first | omega | (dsimp only; omega)⟩, ?_⟩
          (repeat ((conv => whnf); first | refine aw_seq ?_ | refine aw_block ?_ | refine aw_skip ?_ | refine aw_true rfl ?_ | refine aw_false rfl ?_ | refine aw_exit ?_ | refine aw_label ?_ | refine aw_ret ?_ | refine And.intro rfl ?_ | refine And.intro trivial ?_ | refine And.intro (And.intro rfl (Nat.le_of_ble_eq_true rfl)) ?_ | refine And.intro (And.intro (by kernel_rfl) (by kernel_rfl)) ?_ | refine And.intro (by decide) ?_ | refine lit_true ?_ | refine lit_false ?_))
          generalize hK : s.loads.getD i 0 = kk at f1 f2 htk
          refine aw_reset (n := 86) (bx := [((2, nx + 2), .c (outB v s)), ((1, nx + 1), .c (d.map fun k : Nat => u8 k))]) (pm := []) (nx := nx1) (nn := 3) (df := some []) (L := [(0, inss l), (4, rp64 b), (5, .bp (1, nx + 1) 0), (6, boolA false), (7, .bp (2, nx + 2) 0), (9, int i), (10, int kk)]) rfl rfl rfl (List.Sublist.refl _) .slnil ⟨AVle.refl _, AVle.refl _, AVle.refl _, AVle.refl _, AVle.refl _, AVle.refl _, le_int (by rw [← hK]; rfl), trivial⟩ ?_
          (repeat ((conv => whnf); first | refine aw_seq ?_ | refine aw_region ?_ | refine aw_block ?_ | refine aw_skip ?_ | refine aw_true rfl ?_ | refine aw_false rfl ?_ | refine aw_exit ?_ | refine aw_label ?_ | refine aw_ret ?_ | refine And.intro rfl ?_ | refine And.intro trivial ?_ | refine And.intro (And.intro rfl (Nat.le_of_ble_eq_true rfl)) ?_ | refine And.intro (And.intro (by kernel_rfl) (by kernel_rfl)) ?_ | refine And.intro (by decide) ?_ | refine lit_true ?_ | refine lit_false ?_))
          (intro c hc; obtain rfl : c = false := hc.trans (by first | exact decide_eq_false (by omega) | (simp; omega)); (repeat ((conv => whnf); first | refine aw_seq ?_ | refine aw_region ?_ | refine aw_block ?_ | refine aw_skip ?_ | refine aw_true rfl ?_ | refine aw_false rfl ?_ | refine aw_exit ?_ | refine aw_label ?_ | refine aw_ret ?_ | refine And.intro rfl ?_ | refine And.intro trivial ?_ | refine And.intro (And.intro rfl (Nat.le_of_ble_eq_true rfl)) ?_ | refine And.intro (And.intro (by kernel_rfl) (by kernel_rfl)) ?_ | refine And.intro (by decide) ?_ | refine lit_true ?_ | refine lit_false ?_)))
          have hw : IntKind.i64.wrap ((kk : Int) + 4) = ((kk + 4 : Nat) : Int) := wrap_id (by omega) (by omega)
          (repeat ((conv => whnf); first | refine aw_seq ?_ | refine aw_block ?_ | refine aw_skip ?_ | refine aw_true rfl ?_ | refine aw_false rfl ?_ | refine aw_exit ?_ | refine aw_label ?_ | refine aw_ret ?_ | refine And.intro rfl ?_ | refine And.intro trivial ?_ | refine And.intro (And.intro rfl (Nat.le_of_ble_eq_true rfl)) ?_ | refine And.intro (And.intro (by kernel_rfl) (by kernel_rfl)) ?_ | refine And.intro (by decide) ?_ | refine lit_true ?_ | refine lit_false ?_))
          refine aw_mixN 9 [] (fun i => match i with | 8 => true | _ => false) (fun i => match i with | 3 => true | 7 => true | _ => false) [0, 1, 2, 3, 4, 5, 6, 7, 8] (by kernel_rfl) (by kernel_rfl) HB0 ?_
          (repeat ((conv => whnf); first | refine aw_seq ?_ | refine aw_region ?_ | refine aw_block ?_ | refine aw_skip ?_ | refine aw_true rfl ?_ | refine aw_false rfl ?_ | refine aw_exit ?_ | refine aw_label ?_ | refine aw_ret ?_ | refine And.intro rfl ?_ | refine And.intro trivial ?_ | refine And.intro (And.intro rfl (Nat.le_of_ble_eq_true rfl)) ?_ | refine And.intro (And.intro (by kernel_rfl) (by kernel_rfl)) ?_ | refine And.intro (by decide) ?_ | refine lit_true ?_ | refine lit_false ?_))
          refine ⟨_, pure_part (n := 64) (l := kk) (h := kk + 4) (e := 5) rfl rfl rfl rfl (congrArg (fun n => AV.v (.int .i64 n)) hw) Try.underlying77 Try.underlying5 (by kernel_rfl) (by omega) (by omega) (by omega), ?_⟩
          (repeat ((conv => whnf); first | refine aw_seq ?_ | refine aw_region ?_ | refine aw_block ?_ | refine aw_skip ?_ | refine aw_true rfl ?_ | refine aw_false rfl ?_ | refine aw_exit ?_ | refine aw_label ?_ | refine aw_ret ?_ | refine And.intro rfl ?_ | refine And.intro trivial ?_ | refine And.intro (And.intro rfl (Nat.le_of_ble_eq_true rfl)) ?_ | refine And.intro (And.intro (by kernel_rfl) (by kernel_rfl)) ?_ | refine And.intro (by decide) ?_ | refine lit_true ?_ | refine lit_false ?_))
          refine ⟨_, pure_partR (n := 64) (l := kk) (h := kk + 4) (e := 5) rfl rfl rfl rfl (congrArg (fun n => AV.v (.int .i64 n)) hw) Try.underlying77 Try.underlying5 (by kernel_rfl) (by omega) (by omega) (by omega) (by simpa using hbl) (by intro c hc; obtain ⟨x, _, rfl⟩ := List.mem_map.1 hc; rfl), ?_⟩
          (repeat ((conv => whnf); first | refine aw_seq ?_ | refine aw_region ?_ | refine aw_block ?_ | refine aw_skip ?_ | refine aw_true rfl ?_ | refine aw_false rfl ?_ | refine aw_exit ?_ | refine aw_label ?_ | refine aw_ret ?_ | refine And.intro rfl ?_ | refine And.intro trivial ?_ | refine And.intro (And.intro rfl (Nat.le_of_ble_eq_true rfl)) ?_ | refine And.intro (And.intro (by kernel_rfl) (by kernel_rfl)) ?_ | refine And.intro (by decide) ?_ | refine lit_true ?_ | refine lit_false ?_))
          refine ⟨_, eff_copy (e := 5) rfl rfl rfl rfl rfl Try.underlying55 (by kernel_rfl) (by omega) ?_ ?_ HB0, fun r h' hr => ?_⟩
          · intro k hk
            have hk4 : k < 4 := by omega
            show isOne ((b.map fun k : Nat => u8 k).getD (kk + k) .any) = true
            simp [List.getD, show kk + k < b.length by omega]
            rfl
          · rw [List.length_map]; omega
          obtain ⟨rfl, rfl⟩ := hr
          have hsp : splice (d.map fun k : Nat => u8 k) (0 + kk) ((List.range (min (kk + 4 - kk) (kk + 4 - kk))).map fun j => (b.map fun k : Nat => u8 k).getD (kk + j) .any) = (copyW b d kk).map fun k : Nat => u8 k := by
            rw [show min (kk + 4 - kk) (kk + 4 - kk) = 4 by omega, Nat.zero_add]
            exact copyW_splice (by omega)
          (repeat ((conv => whnf); first | refine aw_seq ?_ | refine aw_region ?_ | refine aw_block ?_ | refine aw_skip ?_ | refine aw_true rfl ?_ | refine aw_false rfl ?_ | refine aw_exit ?_ | refine aw_label ?_ | refine aw_ret ?_ | refine And.intro rfl ?_ | refine And.intro trivial ?_ | refine And.intro (And.intro rfl (Nat.le_of_ble_eq_true rfl)) ?_ | refine And.intro (And.intro (by kernel_rfl) (by kernel_rfl)) ?_ | refine And.intro (by decide) ?_ | refine lit_true ?_ | refine lit_false ?_))
          refine back (i + 1, copyW b d kk, nx1) ⟨by first | omega | (dsimp only; omega), copyW_ok hb g3, by rw [copyW_length (by omega)]; exact g4, ?_⟩ (by first | omega | (dsimp only; omega)) (ele_tell _ _ rfl rfl (List.Sublist.refl _) .slnil ⟨rfl, OwnLe.refl _, rfl, OwnLe.of_eq (congrArg Own.c hsp), trivial⟩ trivial ⟨AVle.refl _, AVle.refl _, AVle.refl _, AVle.refl _, AVle.refl _, le_int (wrap_succ (by first | omega | (dsimp only; omega))), trivial⟩)
          intro k hk j hj
          dsimp only at hk ⊢
          rw [copyW_get (by omega)]
          split
          · rfl
          · rw [htk] at hk
            rcases List.mem_append.1 hk with h | h
            · exact g5 k h j hj
            · obtain rfl := List.mem_singleton.1 h
              omega
    · (repeat ((conv => whnf); first | refine aw_seq ?_ | refine aw_region ?_ | refine aw_block ?_ | refine aw_skip ?_ | refine aw_true rfl ?_ | refine aw_false rfl ?_ | refine aw_exit ?_ | refine aw_label ?_ | refine aw_ret ?_ | refine And.intro rfl ?_ | refine And.intro trivial ?_ | refine And.intro (And.intro rfl (Nat.le_of_ble_eq_true rfl)) ?_ | refine And.intro (And.intro (by kernel_rfl) (by kernel_rfl)) ?_ | refine And.intro (by decide) ?_ | refine lit_true ?_ | refine lit_false ?_))
      refine aop_tells rfl rfl awake6_spec trivial fun nx => ?_
      (repeat ((conv => whnf); first | refine aw_seq ?_ | refine aw_region ?_ | refine aw_block ?_ | refine aw_skip ?_ | refine aw_true rfl ?_ | refine aw_false rfl ?_ | refine aw_exit ?_ | refine aw_label ?_ | refine aw_ret ?_ | refine And.intro rfl ?_ | refine And.intro trivial ?_ | refine And.intro (And.intro rfl (Nat.le_of_ble_eq_true rfl)) ?_ | refine And.intro (And.intro (by kernel_rfl) (by kernel_rfl)) ?_ | refine And.intro (by decide) ?_ | refine lit_true ?_ | refine lit_false ?_))
      refine ret_is rfl rfl
  · (repeat ((conv => whnf); first | refine aw_seq ?_ | refine aw_region ?_ | refine aw_block ?_ | refine aw_skip ?_ | refine aw_true rfl ?_ | refine aw_false rfl ?_ | refine aw_exit ?_ | refine aw_label ?_ | refine aw_ret ?_ | refine And.intro rfl ?_ | refine And.intro trivial ?_ | refine And.intro (And.intro rfl (Nat.le_of_ble_eq_true rfl)) ?_ | refine And.intro (And.intro (by kernel_rfl) (by kernel_rfl)) ?_ | refine And.intro (by decide) ?_ | refine lit_true ?_ | refine lit_false ?_))
    refine ret_is rfl rfl
end Go.Proofs.W
