import Derived.Test.YtbgpfhgpjbfcgaaYgMoved
namespace Go.Proofs.Ytb
open Go.Vl

def thr (n : Nat) : List Int := (List.range n).map fun (i : Nat) => (3 * (i : Int))
theorem thr_len (n : Nat) : (thr n).length = n := by simp [thr]
theorem thr_get {n i : Nat} (h : i < n) : (thr n).getD i 0 = 3 * i := by simp [thr, List.getD, h]
theorem thr_succ (n : Nat) : thr (n + 1) = thr n ++ [3 * (n : Int)] := by simp [thr, List.range_succ]
theorem thr_rises (n : Nat) : rises (thr n) := fun i h1 h2 => by
  rw [thr_len] at h2
  rw [thr_get h2, thr_get (by omega)]; omega
theorem c40 : Try.prog.cellsOf 40 = 1 := by kernel_rfl
set_option maxHeartbeats 2000000 in
theorem long_spec (n : Nat) (hn : n < 256) : PCall Try.prog 6 [.v (.int .u8 n)] (fun r => r = .v (.bool true)) := by
  refine pcall_of_aw Try.func6 rfl rfl fun nx => ?_
  obtain ⟨K, hK⟩ : ∃ K : Nat, K = 4091 + n % 10 := ⟨_, rfl⟩
  have hw : IntKind.i64.wrap (4091 + (IntKind.i64.wrap (n : Int)).tmod 10) = (K : Int) := by
    rw [wrap_id (n := (n : Int)) (by omega) (by omega), Int.tmod_eq_emod_of_nonneg (by omega), wrap_id (by omega) (by omega)]; omega
  (repeat ((conv => whnf); first | refine aw_seq ?_ | refine aw_region ?_ | refine aw_block ?_ | refine aw_skip ?_ | refine aw_true rfl ?_ | refine aw_false rfl ?_ | refine aw_exit ?_ | refine aw_label ?_ | refine aw_ret ?_ | refine And.intro rfl ?_ | refine And.intro trivial ?_ | refine And.intro (And.intro rfl (Nat.le_of_ble_eq_true rfl)) ?_ | refine And.intro (And.intro (by kernel_rfl) (by kernel_rfl)) ?_ | refine And.intro (by decide) ?_ | refine lit_true ?_ | refine lit_false ?_))
  (conv => whnf)
  rw [hw]
  refine ⟨by omega, by omega, by show (4 : Int) * _ ≤ _; omega, by omega, ?_⟩
  (repeat ((conv => whnf); first | refine aw_seq ?_ | refine aw_region ?_ | refine aw_block ?_ | refine aw_skip ?_ | refine aw_true rfl ?_ | refine aw_false rfl ?_ | refine aw_exit ?_ | refine aw_label ?_ | refine aw_ret ?_ | refine And.intro rfl ?_ | refine And.intro trivial ?_ | refine And.intro (And.intro rfl (Nat.le_of_ble_eq_true rfl)) ?_ | refine And.intro (And.intro (by kernel_rfl) (by kernel_rfl)) ?_ | refine And.intro (by decide) ?_ | refine lit_true ?_ | refine lit_false ?_))
  refine aw_loop (fun s : Nat × Nat => mk 62 [(3, int' K), (4, .hs (0, nx) 0 K K), (5, int' s.1)] ⟨[((0, nx), .c ((thr s.1 ++ List.replicate (K - s.1) 0).map u32'))], [], s.2, 1⟩) (fun s => s.1 ≤ K) (fun s => K - s.1) ?_ ?_
  · refine ⟨(0, nx + 1), by simp, ele_tell _ _ rfl rfl (.cons_cons _ .slnil) .slnil ⟨rfl, ?_, trivial⟩ trivial ⟨AVle.refl _, AVle.refl _, AVle.refl _, trivial⟩⟩
    refine LeL.of_eq (?_ : List.replicate ((K : Int).toNat) (u32' 0) = _)
    simp [thr]
  · rintro ⟨i, nx2⟩ h1
    dsimp only at h1
    (repeat ((conv => whnf); first | refine aw_seq ?_ | refine aw_region ?_ | refine aw_block ?_ | refine aw_skip ?_ | refine aw_true rfl ?_ | refine aw_false rfl ?_ | refine aw_exit ?_ | refine aw_label ?_ | refine aw_ret ?_ | refine And.intro rfl ?_ | refine And.intro trivial ?_ | refine And.intro (And.intro rfl (Nat.le_of_ble_eq_true rfl)) ?_ | refine And.intro (And.intro (by kernel_rfl) (by kernel_rfl)) ?_ | refine And.intro (by decide) ?_ | refine lit_true ?_ | refine lit_false ?_))
    intro c h2; cases c
    · have h3 := not_of h2
      dsimp only at h3
      obtain rfl : i = K := by omega
      refine AW.le (ele_freeze (L := [(3, int' i), (4, .sl 1 i (fun k => u32' ((thr i).getD k 0))), (16, bool' false)]) (bx := []) (pm := []) (nn := 0) [((0, nx), .c _)] rfl rfl (List.Sublist.refl _) .slnil ⟨Frz.refl _, Frz.hs1 (.head _) (Nat.le_refl _) ?_ (fun k hk => rfl) ?_, Frz.refl _, trivial⟩) ?_
      · simp [thr_len]
      · intro k hk
        dsimp only
        rw [Nat.sub_self, List.replicate_zero, List.append_nil, List.getElem?_map]
        simp [List.getD, thr_len, hk]
      have hc : AVle (.sl 1 i (fun k => u32' ((thr i).getD k 0))) (u32s (thr i)) := AVle.of_eq (by rw [u32s, slOf, thr_len])
      by_cases h4 : i ≤ 4096
      · have hl := thr_len i
        obtain ⟨d, g1, g2, g3⟩ := build_tree (thr i) (by omega)
        have hb := (f12_spec (thr i) (by omega)).of_eq (s' := .tup [nodes (tr (thr i) 0 0), int' 0]) (by rw [buildN_ok (thr_rises i) (by omega) (by omega)])
        have ht := tr_len (l := thr i) (by omega)
        have p1 : placeI (thr i) 300 = 100 := by
          have := placeI_at (thr_rises i) (i := 100) (by omega)
          rw [thr_get (by omega)] at this; exact this
        have p2 : placeI (thr i) 301 = -1 := by
          rw [placeI, idx_none' (d := 0) fun j hj => ?_]
          rw [thr_get (by omega)]
          exact beq_eq_false_iff_ne.2 (by omega)
        have hd := f17_spec (tr (thr i) 0 0) (build_formed _ (by omega)) (by omega)
        have e : (0 :: deepL (tr (thr i) 0 0)).getD (tr (thr i) 0 0).length 0 = d := by
          obtain ⟨m, hm⟩ : ∃ m, (tr (thr i) 0 0).length = m + 1 := ⟨(tr (thr i) 0 0).length - 1, by omega⟩
          rw [hm] at g3 ⊢
          simpa using g3
        have hd12 := g2 12 (by omega)
        rw [e] at hd
        (repeat ((conv => whnf); first | refine aw_seq ?_ | refine aw_region ?_ | refine aw_block ?_ | refine aw_skip ?_ | refine aw_true rfl ?_ | refine aw_false rfl ?_ | refine aw_exit ?_ | refine aw_label ?_ | refine aw_ret ?_ | refine And.intro rfl ?_ | refine And.intro trivial ?_ | refine And.intro (And.intro rfl (Nat.le_of_ble_eq_true rfl)) ?_ | refine And.intro (And.intro (by kernel_rfl) (by kernel_rfl)) ?_ | refine And.intro (by decide) ?_ | refine lit_true ?_ | refine lit_false ?_))
        refine aop_tells rfl rfl hb ⟨hc, trivial⟩ fun nx3 => ?_
        (repeat ((conv => whnf); first | refine aw_seq ?_ | refine aw_region ?_ | refine aw_block ?_ | refine aw_skip ?_ | refine aw_true rfl ?_ | refine aw_false rfl ?_ | refine aw_exit ?_ | refine aw_label ?_ | refine aw_ret ?_ | refine And.intro rfl ?_ | refine And.intro trivial ?_ | refine And.intro (And.intro rfl (Nat.le_of_ble_eq_true rfl)) ?_ | refine And.intro (And.intro (by kernel_rfl) (by kernel_rfl)) ?_ | refine And.intro (by decide) ?_ | refine lit_true ?_ | refine lit_false ?_))
        intro c h5; cases c
        · (repeat ((conv => whnf); first | refine aw_seq ?_ | refine aw_region ?_ | refine aw_block ?_ | refine aw_skip ?_ | refine aw_true rfl ?_ | refine aw_false rfl ?_ | refine aw_exit ?_ | refine aw_label ?_ | refine aw_ret ?_ | refine And.intro rfl ?_ | refine And.intro trivial ?_ | refine And.intro (And.intro rfl (Nat.le_of_ble_eq_true rfl)) ?_ | refine And.intro (And.intro (by kernel_rfl) (by kernel_rfl)) ?_ | refine And.intro (by decide) ?_ | refine lit_true ?_ | refine lit_false ?_))
          refine aop_tells (s := int' 100) rfl rfl ((f15_spec _ 300 (thr i) d g1 (thr_rises i) (by omega)).of_eq (by rw [p1])) ⟨AVle.refl _, AVle.refl _, trivial⟩ fun nx4 => ?_
          (repeat ((conv => whnf); first | refine aw_seq ?_ | refine aw_region ?_ | refine aw_block ?_ | refine aw_skip ?_ | refine aw_true rfl ?_ | refine aw_false rfl ?_ | refine aw_exit ?_ | refine aw_label ?_ | refine aw_ret ?_ | refine And.intro rfl ?_ | refine And.intro trivial ?_ | refine And.intro (And.intro rfl (Nat.le_of_ble_eq_true rfl)) ?_ | refine And.intro (And.intro (by kernel_rfl) (by kernel_rfl)) ?_ | refine And.intro (by decide) ?_ | refine lit_true ?_ | refine lit_false ?_))
          refine aop_tells (s := int' (-1)) rfl rfl ((f15_spec _ 301 (thr i) d g1 (thr_rises i) (by omega)).of_eq (by rw [p2])) ⟨AVle.refl _, AVle.refl _, trivial⟩ fun nx4 => ?_
          (repeat ((conv => whnf); first | refine aw_seq ?_ | refine aw_region ?_ | refine aw_block ?_ | refine aw_skip ?_ | refine aw_true rfl ?_ | refine aw_false rfl ?_ | refine aw_exit ?_ | refine aw_label ?_ | refine aw_ret ?_ | refine And.intro rfl ?_ | refine And.intro trivial ?_ | refine And.intro (And.intro rfl (Nat.le_of_ble_eq_true rfl)) ?_ | refine And.intro (And.intro (by kernel_rfl) (by kernel_rfl)) ?_ | refine And.intro (by decide) ?_ | refine lit_true ?_ | refine lit_false ?_))
          refine aop_tells rfl rfl hd ⟨AVle.refl _, trivial⟩ fun nx4 => ?_
          (repeat ((conv => whnf); first | refine aw_seq ?_ | refine aw_region ?_ | refine aw_block ?_ | refine aw_skip ?_ | refine aw_true rfl ?_ | refine aw_false rfl ?_ | refine aw_exit ?_ | refine aw_label ?_ | refine aw_ret ?_ | refine And.intro rfl ?_ | refine And.intro trivial ?_ | refine And.intro (And.intro rfl (Nat.le_of_ble_eq_true rfl)) ?_ | refine And.intro (And.intro (by kernel_rfl) (by kernel_rfl)) ?_ | refine And.intro (by decide) ?_ | refine lit_true ?_ | refine lit_false ?_))
          intro c h6; cases c
          · have := not_of h6; omega
          (repeat ((conv => whnf); first | refine aw_seq ?_ | refine aw_region ?_ | refine aw_block ?_ | refine aw_skip ?_ | refine aw_true rfl ?_ | refine aw_false rfl ?_ | refine aw_exit ?_ | refine aw_label ?_ | refine aw_ret ?_ | refine And.intro rfl ?_ | refine And.intro trivial ?_ | refine And.intro (And.intro rfl (Nat.le_of_ble_eq_true rfl)) ?_ | refine And.intro (And.intro (by kernel_rfl) (by kernel_rfl)) ?_ | refine And.intro (by decide) ?_ | refine lit_true ?_ | refine lit_false ?_))
          refine aop_tells rfl rfl f14_spec trivial fun nx6 => ?_
          (repeat ((conv => whnf); first | refine aw_seq ?_ | refine aw_region ?_ | refine aw_block ?_ | refine aw_skip ?_ | refine aw_true rfl ?_ | refine aw_false rfl ?_ | refine aw_exit ?_ | refine aw_label ?_ | refine aw_ret ?_ | refine And.intro rfl ?_ | refine And.intro trivial ?_ | refine And.intro (And.intro rfl (Nat.le_of_ble_eq_true rfl)) ?_ | refine And.intro (And.intro (by kernel_rfl) (by kernel_rfl)) ?_ | refine And.intro (by decide) ?_ | refine lit_true ?_ | refine lit_false ?_))
          refine ret_all rfl trivial rfl
        · have := yes_of h5; omega
      · have hl := thr_len i
        have hb := (f12_spec (thr i) (by omega)).of_eq (s' := .tup [nodes [], int' 3]) (by rw [buildN, if_neg (by simpa using thr_rises i), if_pos (by omega)])
        (repeat ((conv => whnf); first | refine aw_seq ?_ | refine aw_region ?_ | refine aw_block ?_ | refine aw_skip ?_ | refine aw_true rfl ?_ | refine aw_false rfl ?_ | refine aw_exit ?_ | refine aw_label ?_ | refine aw_ret ?_ | refine And.intro rfl ?_ | refine And.intro trivial ?_ | refine And.intro (And.intro rfl (Nat.le_of_ble_eq_true rfl)) ?_ | refine And.intro (And.intro (by kernel_rfl) (by kernel_rfl)) ?_ | refine And.intro (by decide) ?_ | refine lit_true ?_ | refine lit_false ?_))
        refine aop_tells rfl rfl hb ⟨hc, trivial⟩ fun nx3 => ?_
        (repeat ((conv => whnf); first | refine aw_seq ?_ | refine aw_region ?_ | refine aw_block ?_ | refine aw_skip ?_ | refine aw_true rfl ?_ | refine aw_false rfl ?_ | refine aw_exit ?_ | refine aw_label ?_ | refine aw_ret ?_ | refine And.intro rfl ?_ | refine And.intro trivial ?_ | refine And.intro (And.intro rfl (Nat.le_of_ble_eq_true rfl)) ?_ | refine And.intro (And.intro (by kernel_rfl) (by kernel_rfl)) ?_ | refine And.intro (by decide) ?_ | refine lit_true ?_ | refine lit_false ?_))
        intro c h5; cases c
        · have := not_of h5; omega
        · (repeat ((conv => whnf); first | refine aw_seq ?_ | refine aw_region ?_ | refine aw_block ?_ | refine aw_skip ?_ | refine aw_true rfl ?_ | refine aw_false rfl ?_ | refine aw_exit ?_ | refine aw_label ?_ | refine aw_ret ?_ | refine And.intro rfl ?_ | refine And.intro trivial ?_ | refine And.intro (And.intro rfl (Nat.le_of_ble_eq_true rfl)) ?_ | refine And.intro (And.intro (by kernel_rfl) (by kernel_rfl)) ?_ | refine And.intro (by decide) ?_ | refine lit_true ?_ | refine lit_false ?_))
          refine aop_tells rfl rfl f14_spec trivial fun nx6 => ?_
          (repeat ((conv => whnf); first | refine aw_seq ?_ | refine aw_region ?_ | refine aw_block ?_ | refine aw_skip ?_ | refine aw_true rfl ?_ | refine aw_false rfl ?_ | refine aw_exit ?_ | refine aw_label ?_ | refine aw_ret ?_ | refine And.intro rfl ?_ | refine And.intro trivial ?_ | refine And.intro (And.intro rfl (Nat.le_of_ble_eq_true rfl)) ?_ | refine And.intro (And.intro (by kernel_rfl) (by kernel_rfl)) ?_ | refine And.intro (by decide) ?_ | refine lit_true ?_ | refine lit_false ?_))
          refine ret_all rfl trivial rfl
    · have h3 := yes_of h2
      dsimp only at h3
      have hw2 : IntKind.u32.wrap (IntKind.i64.wrap (3 * (i : Int))) = 3 * i := by rw [wrap_id (by omega) (by omega), IntWalk.u32_in _ (by omega)]
      obtain ⟨m, hm⟩ : ∃ m, K - i = m + 1 := ⟨K - i - 1, by omega⟩
      (repeat ((conv => whnf); first | refine aw_seq ?_ | refine aw_region ?_ | refine aw_block ?_ | refine aw_skip ?_ | refine aw_true rfl ?_ | refine aw_false rfl ?_ | refine aw_exit ?_ | refine aw_label ?_ | refine aw_ret ?_ | refine And.intro rfl ?_ | refine And.intro trivial ?_ | refine And.intro (And.intro rfl (Nat.le_of_ble_eq_true rfl)) ?_ | refine And.intro (And.intro (by kernel_rfl) (by kernel_rfl)) ?_ | refine And.intro (by decide) ?_ | refine lit_true ?_ | refine lit_false ?_))
      refine ⟨⟨by omega, by omega⟩, ?_⟩
      (repeat ((conv => whnf); first | refine aw_seq ?_ | refine aw_region ?_ | refine aw_block ?_ | refine aw_skip ?_ | refine aw_true rfl ?_ | refine aw_false rfl ?_ | refine aw_exit ?_ | refine aw_label ?_ | refine aw_ret ?_ | refine And.intro rfl ?_ | refine And.intro trivial ?_ | refine And.intro (And.intro rfl (Nat.le_of_ble_eq_true rfl)) ?_ | refine And.intro (And.intro (by kernel_rfl) (by kernel_rfl)) ?_ | refine And.intro (by decide) ?_ | refine lit_true ?_ | refine lit_false ?_))
      refine ⟨⟨rfl, by simp [thr_len, c40]; omega⟩, ?_⟩
      (repeat ((conv => whnf); first | refine aw_seq ?_ | refine aw_region ?_ | refine aw_block ?_ | refine aw_skip ?_ | refine aw_true rfl ?_ | refine aw_false rfl ?_ | refine aw_exit ?_ | refine aw_label ?_ | refine aw_ret ?_ | refine And.intro rfl ?_ | refine And.intro trivial ?_ | refine And.intro (And.intro rfl (Nat.le_of_ble_eq_true rfl)) ?_ | refine And.intro (And.intro (by kernel_rfl) (by kernel_rfl)) ?_ | refine And.intro (by decide) ?_ | refine lit_true ?_ | refine lit_false ?_))
      refine back (i + 1, nx2) (by dsimp only; omega) (by dsimp only; omega) (ele_tell _ _ rfl rfl (.cons_cons _ .slnil) .slnil ⟨rfl, ?_, trivial⟩ trivial ⟨AVle.refl _, AVle.refl _, le_int (wrap_succ (by omega)), trivial⟩)
      refine LeL.of_eq ?_
      show splice ((thr i ++ List.replicate (K - i) 0).map u32') (0 + (i : Int).toNat * Try.prog.cellsOf 40) [u32' (IntKind.u32.wrap (IntKind.i64.wrap (3 * (i : Int))))] = (thr (i + 1) ++ List.replicate (K - (i + 1)) 0).map u32'
      rw [hw2, c40, Nat.zero_add, Int.toNat_natCast, Nat.mul_one, splice_one (by simp [thr_len]; omega), hm, show K - (i + 1) = m by omega, thr_succ]
      have := fill_set (thr i) m (3 * (i : Int)) 0
      rw [thr_len] at this
      rw [this]
end Go.Proofs.Ytb
