import Derived.Test.YtgllcdchhfcoiaaF
import Derived.Test.YtgllcdchhfcoiaaE
set_option linter.unusedVariables false
set_option linter.unusedSimpArgs false
namespace Go.Proofs.W
open Go.Vl

/-- An instruction that goes elsewhere, but else does the same. -/
theorem doV_sim {b : List Nat} {i i' : Ins} {s : Rn} (f : Nat → Nat) (hc : i'.code = i.code) (hk : (kof i.code).1 ≠ 13 → i'.k = i.k)
    (h13 : (kof i.code).1 = 13 → f (s.at' + i.k) = f s.at' + i'.k) (h25 : 25 ≤ (kof i.code).1 → f (s.at' + i.jt) = f s.at' + i'.jt ∧ f (s.at' + i.jf) = f s.at' + i'.jf) :
    doV b i' { s with at' := f s.at' } = ((doV b i s).1, { (doV b i s).2 with at' := f (doV b i s).2.at' }) := by
  have hle := kof_le i.code
  unfold doV
  rw [hc]
  by_cases e : (kof i.code).1 = 13
  · rw [e]
    show (none, ({ s with at' := f s.at' + i'.k } : Rn)) = (none, { s with at' := f (s.at' + i.k) })
    rw [h13 e]
  · have hk' := hk e
    have ha : altV i' { s with at' := f s.at' } = altV i s := by unfold altV; rw [hc, hk']
    rw [ha, hk']
    split
    all_goals first | rfl | (exfalso; omega) | skip
    split
    · dsimp only
      cases reckV (kof i.code).1 s.a (altV i s) <;> rfl
    · have := h25 (by omega)
      dsimp only
      congr 2
      split
      · exact this.1.symm
      · exact this.2.symm
def mapAt (l : List Ins) (s : Rn) : Rn := { s with at' := cnt l s.at' }
theorem stepV_pruned {b : List Nat} {l : List Ins} (h : Right l) {s : Rn} (hr : Reached l s.at') : stepV b (pruneI l) (mapAt l s) = ((stepV b l s).1, mapAt l (stepV b l s).2) := by
  have hn := hr.lt h.1
  have hnx := nexts_lt h.1 hn
  have h1 := cnt_in h.1 hr
  have hkd : kind l s.at' = (kof (l.getD s.at' ins0).code).1 := rfl
  have e1 : stepV b (pruneI l) (mapAt l s) = doV b (prI l s.at') { ({ s with at' := s.at' + 1, steps := s.steps + 1 } : Rn) with at' := cnt l (s.at' + 1) } := by
    unfold stepV mapAt
    dsimp only
    rw [prune_get h hr, h1]
  rw [e1]
  unfold nextsI at hnx
  refine doV_sim (s := { s with at' := s.at' + 1, steps := s.steps + 1 }) (cnt l) (pr_code _) (fun hk => pr_k (by rw [hkd]; exact hk)) (fun hk => ?_) (fun hk => ?_)
  · rw [← hkd] at hk
    rw [if_neg (by omega), if_pos hk] at hnx
    have h2 := hnx _ (List.mem_singleton.2 rfl)
    have h3 := to_cnt h hr h2.2
    have h4 : (prI l s.at').k = (toI (sums (reachedOf l)) s.at' (l.getD s.at' ins0).k).toNat := by unfold prI prAt; rw [if_pos hk]
    rw [h4]
    dsimp only
    omega
  · rw [← hkd] at hk
    rw [if_neg (by omega), if_neg (by omega), if_pos hk] at hnx
    have h2 := hnx (s.at' + 1 + (l.getD s.at' ins0).jt) (by simp)
    have h2' := hnx (s.at' + 1 + (l.getD s.at' ins0).jf) (by simp)
    have h3 := to_cnt h hr h2.2
    have h3' := to_cnt h hr h2'.2
    have h4 : (prI l s.at').jt = (toI (sums (reachedOf l)) s.at' (l.getD s.at' ins0).jt).toNat := by unfold prI prAt; rw [if_neg (by omega), if_pos hk]
    have h4' : (prI l s.at').jf = (toI (sums (reachedOf l)) s.at' (l.getD s.at' ins0).jf).toNat := by unfold prI prAt; rw [if_neg (by omega), if_pos hk]
    rw [h4, h4']
    dsimp only
    omega
theorem runV_pruned {b : List Nat} {l : List Ins} (h : Right l) : ∀ f s, Reached l s.at' → runV b (pruneI l) f (mapAt l s) = ((runV b l f s).1, mapAt l (runV b l f s).2)
  | 0, s, _ => rfl
  | f + 1, s, hr => by
    unfold runV
    rw [stepV_pruned h hr]
    cases he : stepV b l s with
    | mk o s' =>
      cases o with
      | some v => rfl
      | none =>
        dsimp only
        exact runV_pruned h f s' (next_in h hr (stepV_next he).1)
theorem runI_pruned {b : List Nat} {l : List Ins} (h : Right l) : runI b (pruneI l) = ((runI b l).1, mapAt l (runI b l).2) := by
  have hp := pruned_right h
  have hlen : (pruneI l).length ≤ l.length := by
    rw [prune_len h]
    unfold cnt
    refine Nat.le_trans List.count_le_length ?_
    rw [List.length_take]; omega
  have e0 : rn0 = mapAt l rn0 := by
    unfold mapAt
    show rn0 = { rn0 with at' := cnt l 0 }
    rw [cnt_zero]; rfl
  have h1 := runV_pruned (b := b) h l.length rn0 .zero
  rw [← e0] at h1
  unfold runI
  rw [← h1]
  exact (runV_more hp.1 (pruneI l).length l.length rn0 hp.1.pos (Nat.le_add_left _ _) hlen).symm
theorem prune_le {l : List Ins} (h : Right l) : (pruneI l).length ≤ l.length := by
  rw [prune_len h]
  unfold cnt
  refine Nat.le_trans List.count_le_length ?_
  rw [List.length_take]; omega
theorem cnt_all {l : List Ins} (hf : Formed l) (h : ∀ n, n < l.length → Reached l n) : ∀ n, n ≤ l.length → cnt l n = n
  | 0, _ => cnt_zero
  | n + 1, hn => by rw [cnt_in hf (h n (by omega)), cnt_all hf h n (by omega)]
theorem prune_id {l : List Ins} (h : Right l) (hr : ∀ n, n < l.length → Reached l n) : pruneI l = l := by
  have hc := cnt_all h.1 hr
  have hlen : (pruneI l).length = l.length := by rw [prune_len h, hc _ (Nat.le_refl _)]
  refine List.ext_getElem hlen fun n h1 h2 => ?_
  have h3 := prune_get h (hr n h2)
  rw [hc n (by omega)] at h3
  have e1 : (pruneI l).getD n ins0 = (pruneI l)[n] := by simp [List.getD, h1]
  have e2 : l.getD n ins0 = l[n] := by simp [List.getD, h2]
  rw [← e1, h3, ← e2]
  have hnx := nexts_lt h.1 h2
  unfold nextsI at hnx
  unfold prI prAt
  split
  · rename_i hk
    rw [if_neg (by omega), if_pos hk] at hnx
    have h4 := hnx _ (List.mem_singleton.2 rfl)
    have h5 := (to_cnt h (hr n h2) h4.2).1
    rw [hc _ (by omega), hc _ (by omega)] at h5
    rw [show (toI (sums (reachedOf l)) n (l.getD n ins0).k).toNat = (l.getD n ins0).k by omega]
  · split
    · rename_i hk1 hk
      rw [if_neg (by omega), if_neg (by omega), if_pos hk] at hnx
      have h4 := hnx (n + 1 + (l.getD n ins0).jt) (by simp)
      have h4' := hnx (n + 1 + (l.getD n ins0).jf) (by simp)
      have h5 := (to_cnt h (hr n h2) h4.2).1
      have h5' := (to_cnt h (hr n h2) h4'.2).1
      rw [hc _ (by omega), hc _ (by omega)] at h5 h5'
      rw [show (toI (sums (reachedOf l)) n (l.getD n ins0).jt).toNat = (l.getD n ins0).jt by omega, show (toI (sums (reachedOf l)) n (l.getD n ins0).jf).toNat = (l.getD n ins0).jf by omega]
    · rfl
theorem prune_again {l : List Ins} (h : Right l) : pruneI (pruneI l) = pruneI l := prune_id (pruned_right h) fun _ hj => pruned_reached h hj
theorem longF_map {a b : List Nat} (g : Nat → Nat) : ∀ (ts : List Nat), (∀ t ∈ ts, a.getD (g t) 0 = b.getD t 0) → longF a (ts.map g) = longF b ts := by
  intro ts h
  unfold longF
  rw [List.foldl_map]
  have : ∀ (ts : List Nat) (m : Nat), (∀ t ∈ ts, a.getD (g t) 0 = b.getD t 0) → ts.foldl (fun x t => max x (a.getD (g t) 0)) m = ts.foldl (fun x t => max x (b.getD t 0)) m := by
    intro ts
    induction ts with
    | nil => intro m _; rfl
    | cons t ts ih => intro m h; rw [List.foldl_cons, List.foldl_cons, h t (by simp)]; exact ih _ fun x hx => h x (by simp [hx])
  exact this ts 0 h
theorem LV_pruned {l : List Ins} (h : Right l) : ∀ d n, l.length ≤ n + d → Reached l n → LV (pruneI l) (cnt l n) = LV l n
  | 0, n, hd, hr => by have := hr.lt h.1; omega
  | d + 1, n, hd, hr => by
    have hp := pruned_right h
    rw [LV_eq hp.1 (cnt_len h hr), LV_eq h.1 (hr.lt h.1), pr_nexts h hr]
    congr 1
    refine longF_map (cnt l) _ fun t ht => ?_
    have h1 := (nexts_lt h.1 (hr.lt h.1) t ht).1
    exact LV_pruned h d t (by omega) (next_in h hr ht)
theorem long_pruned {l : List Ins} (h : Right l) : longI (pruneI l) = longI l := by
  have := LV_pruned h l.length 0 (by omega) .zero
  rw [cnt_zero] at this
  exact this
end Go.Proofs.W

namespace Go.Proofs.W
open Go.Vl
set_option maxRecDepth 100000

theorem flowprunes_spec (l : List Ins) (hok : okL l) (hl : l.length ≤ maxLen) (b : List Nat) (hb : okB b) (hbl : b.length = 64) : PCall Try.prog 14 [inss l, b64A b] (fun r => r = .v (.bool true)) := by
  refine pcall_of_aw Try.func14 rfl rfl fun nx => ?_
  (repeat ((conv => whnf); first | refine aw_seq ?_ | refine aw_block ?_ | refine aw_skip ?_ | refine aw_true rfl ?_ | refine aw_false rfl ?_ | refine aw_exit ?_ | refine aw_label ?_ | refine aw_ret ?_ | refine And.intro rfl ?_ | refine And.intro trivial ?_ | refine And.intro (And.intro rfl (Nat.le_of_ble_eq_true rfl)) ?_ | refine And.intro (And.intro (by kernel_rfl) (by kernel_rfl)) ?_ | refine And.intro (by decide) ?_ | refine lit_true ?_ | refine lit_false ?_))
  refine aw_regionX 1 ?_
  refine aop_boxK rfl ?_ ?_
  · rfl
  (repeat ((conv => whnf); first | refine aw_seq ?_ | refine aw_block ?_ | refine aw_skip ?_ | refine aw_true rfl ?_ | refine aw_false rfl ?_ | refine aw_exit ?_ | refine aw_label ?_ | refine aw_ret ?_ | refine And.intro rfl ?_ | refine And.intro trivial ?_ | refine And.intro (And.intro rfl (Nat.le_of_ble_eq_true rfl)) ?_ | refine And.intro (And.intro (by kernel_rfl) (by kernel_rfl)) ?_ | refine And.intro (by decide) ?_ | refine lit_true ?_ | refine lit_false ?_))
  refine AW.le (ele_freeze (bx := []) (pm := []) (nn := 1) (L := [(0, inss l), (3, rp64 b), (4, boolA false)]) [((0, nx), .c (b.map fun k : Nat => u8 k))] rfl rfl (List.Sublist.refl _) .slnil ⟨Frz.refl _, Frz.bp (List.mem_cons_self ..) rfl, Frz.refl _, trivial⟩) ?_
  (repeat ((conv => whnf); first | refine aw_seq ?_ | refine aw_region ?_ | refine aw_block ?_ | refine aw_skip ?_ | refine aw_true rfl ?_ | refine aw_false rfl ?_ | refine aw_exit ?_ | refine aw_label ?_ | refine aw_ret ?_ | refine And.intro rfl ?_ | refine And.intro trivial ?_ | refine And.intro (And.intro rfl (Nat.le_of_ble_eq_true rfl)) ?_ | refine And.intro (And.intro (by kernel_rfl) (by kernel_rfl)) ?_ | refine And.intro (by decide) ?_ | refine lit_true ?_ | refine lit_false ?_))
  intro c h1; cases c
  · have h1 := not_of h1
    have hl2 : l.length ≤ 200 := by omega
    have hvm := vmrun_spec l hok (by omega) b hb (by omega)
    generalize hV : vmI l b = V at hvm
    obtain ⟨e, v, s⟩ := V
    dsimp only at hvm
    (repeat ((conv => whnf); first | refine aw_seq ?_ | refine aw_region ?_ | refine aw_block ?_ | refine aw_skip ?_ | refine aw_true rfl ?_ | refine aw_false rfl ?_ | refine aw_exit ?_ | refine aw_label ?_ | refine aw_ret ?_ | refine And.intro rfl ?_ | refine And.intro trivial ?_ | refine And.intro (And.intro rfl (Nat.le_of_ble_eq_true rfl)) ?_ | refine And.intro (And.intro (by kernel_rfl) (by kernel_rfl)) ?_ | refine And.intro (by decide) ?_ | refine lit_true ?_ | refine lit_false ?_))
    refine aop_tells rfl rfl (all_spec l (by omega)) ⟨AVle.refl _, trivial⟩ fun nx1 => ?_
    ((repeat ((conv => whnf); first | refine aw_seq ?_ | refine aw_block ?_ | refine aw_skip ?_ | refine aw_true rfl ?_ | refine aw_false rfl ?_ | refine aw_exit ?_ | refine aw_label ?_ | refine aw_ret ?_ | refine And.intro rfl ?_ | refine And.intro trivial ?_ | refine And.intro (And.intro rfl (Nat.le_of_ble_eq_true rfl)) ?_ | refine And.intro (And.intro (by kernel_rfl) (by kernel_rfl)) ?_ | refine And.intro (by decide) ?_ | refine lit_true ?_ | refine lit_false ?_)))
    refine aw_regionY (fun i => match i with | 1 => true | _ => false) 3 ?_
    (repeat ((conv => whnf); first | refine aw_seq ?_ | refine aw_region ?_ | refine aw_block ?_ | refine aw_skip ?_ | refine aw_true rfl ?_ | refine aw_false rfl ?_ | refine aw_exit ?_ | refine aw_label ?_ | refine aw_ret ?_ | refine And.intro rfl ?_ | refine And.intro trivial ?_ | refine And.intro (And.intro rfl (Nat.le_of_ble_eq_true rfl)) ?_ | refine And.intro (And.intro (by kernel_rfl) (by kernel_rfl)) ?_ | refine And.intro (by decide) ?_ | refine lit_true ?_ | refine lit_false ?_))
    refine aop_arr (n := 64) (e := 5) rfl rfl rfl Try.underlying77 Try.underlying5 rfl (by kernel_rfl) hbl (fun _ => rfl) ?_
    (repeat ((conv => whnf); first | refine aw_seq ?_ | refine aw_region ?_ | refine aw_block ?_ | refine aw_skip ?_ | refine aw_true rfl ?_ | refine aw_false rfl ?_ | refine aw_exit ?_ | refine aw_label ?_ | refine aw_ret ?_ | refine And.intro rfl ?_ | refine And.intro trivial ?_ | refine And.intro (And.intro rfl (Nat.le_of_ble_eq_true rfl)) ?_ | refine And.intro (And.intro (by kernel_rfl) (by kernel_rfl)) ?_ | refine And.intro (by decide) ?_ | refine lit_true ?_ | refine lit_false ?_))
    refine aop_tells rfl rfl hvm ⟨AVle.refl _, AVle.refl _, trivial⟩ fun nx2 => ?_
    (repeat ((conv => whnf); first | refine aw_seq ?_ | refine aw_region ?_ | refine aw_block ?_ | refine aw_skip ?_ | refine aw_true rfl ?_ | refine aw_false rfl ?_ | refine aw_exit ?_ | refine aw_label ?_ | refine aw_ret ?_ | refine And.intro rfl ?_ | refine And.intro trivial ?_ | refine And.intro (And.intro rfl (Nat.le_of_ble_eq_true rfl)) ?_ | refine And.intro (And.intro (by kernel_rfl) (by kernel_rfl)) ?_ | refine And.intro (by decide) ?_ | refine lit_true ?_ | refine lit_false ?_))
    intro c h2; cases c
    · have h2 : e = 0 := by have := bne_no h2; omega
      obtain ⟨hR, _, hrun⟩ := vmI_ok hV h2
      subst h2
      have hRp := pruned_right hR
      have hokp := pruned_ok hR hok
      have hrp := runI_pruned (b := b) hR
      have hplen := prune_le hR
      have hppos := hRp.1.pos
      have hpp := prune_again hR
      have hlong := long_pruned hR
      have hp1 := prune_spec l hok (by omega)
      have hp2 := prune_spec (pruneI l) hokp (by omega)
      have hq := vmrun_spec (pruneI l) hokp (by omega) b hb (by omega)
      have hL1 := longest_spec l hok (by omega)
      have hL2 := longest_spec (pruneI l) hokp (by omega)
      have hv2 : vmI (pruneI l) b = (0, v, mapAt l s) := by
        unfold vmI
        rw [if_neg (by rw [check_iff.2 hRp]; simp), if_neg (by omega), if_neg (by omega), hrp, hrun]
      rw [hv2] at hq
      rw [hpp] at hp2
      rw [if_pos (check_iff.2 hR)] at hL1
      rw [if_pos (check_iff.2 hRp), hlong] at hL2
      have hst : (mapAt l s).steps = s.steps := rfl
      have hld : (mapAt l s).loads = s.loads := rfl
      generalize mapAt l s = s2 at *
      obtain ⟨_, _, _, _, steps2, loads2⟩ := s2
      dsimp only at hst hld
      subst hst hld
      generalize hP : pruneI l = p at *
      generalize longI l = lg at *
      (repeat ((conv => whnf); first | refine aw_seq ?_ | refine aw_block ?_ | refine aw_skip ?_ | refine aw_true rfl ?_ | refine aw_false rfl ?_ | refine aw_exit ?_ | refine aw_label ?_ | refine aw_ret ?_ | refine And.intro rfl ?_ | refine And.intro trivial ?_ | refine And.intro (And.intro rfl (Nat.le_of_ble_eq_true rfl)) ?_ | refine And.intro (And.intro (by kernel_rfl) (by kernel_rfl)) ?_ | refine And.intro (by decide) ?_ | refine lit_true ?_ | refine lit_false ?_))
      refine aw_region ?_
      (repeat ((conv => whnf); first | refine aw_seq ?_ | refine aw_region ?_ | refine aw_block ?_ | refine aw_skip ?_ | refine aw_true rfl ?_ | refine aw_false rfl ?_ | refine aw_exit ?_ | refine aw_label ?_ | refine aw_ret ?_ | refine And.intro rfl ?_ | refine And.intro trivial ?_ | refine And.intro (And.intro rfl (Nat.le_of_ble_eq_true rfl)) ?_ | refine And.intro (And.intro (by kernel_rfl) (by kernel_rfl)) ?_ | refine And.intro (by decide) ?_ | refine lit_true ?_ | refine lit_false ?_))
      refine aop_tells rfl rfl hp1 ⟨AVle.refl _, trivial⟩ fun nx3 => ?_
      ((repeat ((conv => whnf); first | refine aw_seq ?_ | refine aw_block ?_ | refine aw_skip ?_ | refine aw_true rfl ?_ | refine aw_false rfl ?_ | refine aw_exit ?_ | refine aw_label ?_ | refine aw_ret ?_ | refine And.intro rfl ?_ | refine And.intro trivial ?_ | refine And.intro (And.intro rfl (Nat.le_of_ble_eq_true rfl)) ?_ | refine And.intro (And.intro (by kernel_rfl) (by kernel_rfl)) ?_ | refine And.intro (by decide) ?_ | refine lit_true ?_ | refine lit_false ?_)))
      refine aw_reset (n := 97) (bx := [((1, nx2), .c [u32 v, int s.steps, ints s.loads])]) (pm := []) (nx := nx3) (nn := 2) (df := some []) (L := [(3, rp64 b), (4, boolA false), (5, inss l), (6, .bp (1, nx2) 0), (8, inss p)]) rfl rfl rfl (List.Sublist.refl _) .slnil ⟨AVle.refl _, AVle.refl _, AVle.refl _, AVle.refl _, AVle.refl _, trivial⟩ ?_
      refine aw_regionY (fun i => match i with | 1 => true | _ => false) 3 ?_
      (repeat ((conv => whnf); first | refine aw_seq ?_ | refine aw_region ?_ | refine aw_block ?_ | refine aw_skip ?_ | refine aw_true rfl ?_ | refine aw_false rfl ?_ | refine aw_exit ?_ | refine aw_label ?_ | refine aw_ret ?_ | refine And.intro rfl ?_ | refine And.intro trivial ?_ | refine And.intro (And.intro rfl (Nat.le_of_ble_eq_true rfl)) ?_ | refine And.intro (And.intro (by kernel_rfl) (by kernel_rfl)) ?_ | refine And.intro (by decide) ?_ | refine lit_true ?_ | refine lit_false ?_))
      refine aop_arr (n := 64) (e := 5) rfl rfl rfl Try.underlying77 Try.underlying5 rfl (by kernel_rfl) hbl (fun _ => rfl) ?_
      (repeat ((conv => whnf); first | refine aw_seq ?_ | refine aw_region ?_ | refine aw_block ?_ | refine aw_skip ?_ | refine aw_true rfl ?_ | refine aw_false rfl ?_ | refine aw_exit ?_ | refine aw_label ?_ | refine aw_ret ?_ | refine And.intro rfl ?_ | refine And.intro trivial ?_ | refine And.intro (And.intro rfl (Nat.le_of_ble_eq_true rfl)) ?_ | refine And.intro (And.intro (by kernel_rfl) (by kernel_rfl)) ?_ | refine And.intro (by decide) ?_ | refine lit_true ?_ | refine lit_false ?_))
      refine aop_tells rfl rfl hq ⟨AVle.refl _, AVle.refl _, trivial⟩ fun nx4 => ?_
      (repeat ((conv => whnf); first | refine aw_seq ?_ | refine aw_region ?_ | refine aw_block ?_ | refine aw_skip ?_ | refine aw_true rfl ?_ | refine aw_false rfl ?_ | refine aw_exit ?_ | refine aw_label ?_ | refine aw_ret ?_ | refine And.intro rfl ?_ | refine And.intro trivial ?_ | refine And.intro (And.intro rfl (Nat.le_of_ble_eq_true rfl)) ?_ | refine And.intro (And.intro (by kernel_rfl) (by kernel_rfl)) ?_ | refine And.intro (by decide) ?_ | refine lit_true ?_ | refine lit_false ?_))
      (intro c hc; obtain rfl : c = false := hc.trans (bne_self_eq_false _); (repeat ((conv => whnf); first | refine aw_seq ?_ | refine aw_region ?_ | refine aw_block ?_ | refine aw_skip ?_ | refine aw_true rfl ?_ | refine aw_false rfl ?_ | refine aw_exit ?_ | refine aw_label ?_ | refine aw_ret ?_ | refine And.intro rfl ?_ | refine And.intro trivial ?_ | refine And.intro (And.intro rfl (Nat.le_of_ble_eq_true rfl)) ?_ | refine And.intro (And.intro (by kernel_rfl) (by kernel_rfl)) ?_ | refine And.intro (by decide) ?_ | refine lit_true ?_ | refine lit_false ?_)))
      (intro c hc; obtain rfl : c = false := hc.trans (bne_self_eq_false _); (repeat ((conv => whnf); first | refine aw_seq ?_ | refine aw_region ?_ | refine aw_block ?_ | refine aw_skip ?_ | refine aw_true rfl ?_ | refine aw_false rfl ?_ | refine aw_exit ?_ | refine aw_label ?_ | refine aw_ret ?_ | refine And.intro rfl ?_ | refine And.intro trivial ?_ | refine And.intro (And.intro rfl (Nat.le_of_ble_eq_true rfl)) ?_ | refine And.intro (And.intro (by kernel_rfl) (by kernel_rfl)) ?_ | refine And.intro (by decide) ?_ | refine lit_true ?_ | refine lit_false ?_)))
      (intro c hc; obtain rfl : c = false := hc.trans (bne_self_eq_false _); (repeat ((conv => whnf); first | refine aw_seq ?_ | refine aw_region ?_ | refine aw_block ?_ | refine aw_skip ?_ | refine aw_true rfl ?_ | refine aw_false rfl ?_ | refine aw_exit ?_ | refine aw_label ?_ | refine aw_ret ?_ | refine And.intro rfl ?_ | refine And.intro trivial ?_ | refine And.intro (And.intro rfl (Nat.le_of_ble_eq_true rfl)) ?_ | refine And.intro (And.intro (by kernel_rfl) (by kernel_rfl)) ?_ | refine And.intro (by decide) ?_ | refine lit_true ?_ | refine lit_false ?_)))
      (intro c hc; obtain rfl : c = false := hc.trans (by first | exact decide_eq_false (by omega) | (simp; omega)); (repeat ((conv => whnf); first | refine aw_seq ?_ | refine aw_region ?_ | refine aw_block ?_ | refine aw_skip ?_ | refine aw_true rfl ?_ | refine aw_false rfl ?_ | refine aw_exit ?_ | refine aw_label ?_ | refine aw_ret ?_ | refine And.intro rfl ?_ | refine And.intro trivial ?_ | refine And.intro (And.intro rfl (Nat.le_of_ble_eq_true rfl)) ?_ | refine And.intro (And.intro (by kernel_rfl) (by kernel_rfl)) ?_ | refine And.intro (by decide) ?_ | refine lit_true ?_ | refine lit_false ?_)))
      refine aop_tells rfl rfl hp2 ⟨AVle.refl _, trivial⟩ fun nx5 => ?_
      (repeat ((conv => whnf); first | refine aw_seq ?_ | refine aw_region ?_ | refine aw_block ?_ | refine aw_skip ?_ | refine aw_true rfl ?_ | refine aw_false rfl ?_ | refine aw_exit ?_ | refine aw_label ?_ | refine aw_ret ?_ | refine And.intro rfl ?_ | refine And.intro trivial ?_ | refine And.intro (And.intro rfl (Nat.le_of_ble_eq_true rfl)) ?_ | refine And.intro (And.intro (by kernel_rfl) (by kernel_rfl)) ?_ | refine And.intro (by decide) ?_ | refine lit_true ?_ | refine lit_false ?_))
      (intro c hc; obtain rfl : c = false := hc.trans (bne_self_eq_false _); (repeat ((conv => whnf); first | refine aw_seq ?_ | refine aw_region ?_ | refine aw_block ?_ | refine aw_skip ?_ | refine aw_true rfl ?_ | refine aw_false rfl ?_ | refine aw_exit ?_ | refine aw_label ?_ | refine aw_ret ?_ | refine And.intro rfl ?_ | refine And.intro trivial ?_ | refine And.intro (And.intro rfl (Nat.le_of_ble_eq_true rfl)) ?_ | refine And.intro (And.intro (by kernel_rfl) (by kernel_rfl)) ?_ | refine And.intro (by decide) ?_ | refine lit_true ?_ | refine lit_false ?_)))
      refine aw_loop (fun y : Nat × Nat => mk 97 [(4, boolA false), (5, inss l), (8, inss p), (11, inss p), (12, int y.1)] ⟨[], [], y.2, 0⟩) (fun y => y.1 ≤ p.length) (fun y => p.length - y.1) ?_ ?_
      · exact ⟨(0, nx5), Nat.zero_le _, ele_keep rfl rfl (List.nil_sublist _) .slnil ⟨AVle.refl _, AVle.refl _, AVle.refl _, AVle.refl _, AVle.refl _, trivial⟩⟩
      · rintro ⟨i, nx6⟩ g1
        dsimp only at g1
        (repeat ((conv => whnf); first | refine aw_seq ?_ | refine aw_region ?_ | refine aw_block ?_ | refine aw_skip ?_ | refine aw_true rfl ?_ | refine aw_false rfl ?_ | refine aw_exit ?_ | refine aw_label ?_ | refine aw_ret ?_ | refine And.intro rfl ?_ | refine And.intro trivial ?_ | refine And.intro (And.intro rfl (Nat.le_of_ble_eq_true rfl)) ?_ | refine And.intro (And.intro (by kernel_rfl) (by kernel_rfl)) ?_ | refine And.intro (by decide) ?_ | refine lit_true ?_ | refine lit_false ?_))
        intro c g2; cases c
        · (repeat ((conv => whnf); first | refine aw_seq ?_ | refine aw_region ?_ | refine aw_block ?_ | refine aw_skip ?_ | refine aw_true rfl ?_ | refine aw_false rfl ?_ | refine aw_exit ?_ | refine aw_label ?_ | refine aw_ret ?_ | refine And.intro rfl ?_ | refine And.intro trivial ?_ | refine And.intro (And.intro rfl (Nat.le_of_ble_eq_true rfl)) ?_ | refine And.intro (And.intro (by kernel_rfl) (by kernel_rfl)) ?_ | refine And.intro (by decide) ?_ | refine lit_true ?_ | refine lit_false ?_))
          refine aop_tells rfl rfl hL2 ⟨AVle.refl _, trivial⟩ fun nx7 => ?_
          (repeat ((conv => whnf); first | refine aw_seq ?_ | refine aw_region ?_ | refine aw_block ?_ | refine aw_skip ?_ | refine aw_true rfl ?_ | refine aw_false rfl ?_ | refine aw_exit ?_ | refine aw_label ?_ | refine aw_ret ?_ | refine And.intro rfl ?_ | refine And.intro trivial ?_ | refine And.intro (And.intro rfl (Nat.le_of_ble_eq_true rfl)) ?_ | refine And.intro (And.intro (by kernel_rfl) (by kernel_rfl)) ?_ | refine And.intro (by decide) ?_ | refine lit_true ?_ | refine lit_false ?_))
          refine aop_tells rfl rfl hL1 ⟨AVle.refl _, trivial⟩ fun nx8 => ?_
          (repeat ((conv => whnf); first | refine aw_seq ?_ | refine aw_region ?_ | refine aw_block ?_ | refine aw_skip ?_ | refine aw_true rfl ?_ | refine aw_false rfl ?_ | refine aw_exit ?_ | refine aw_label ?_ | refine aw_ret ?_ | refine And.intro rfl ?_ | refine And.intro trivial ?_ | refine And.intro (And.intro rfl (Nat.le_of_ble_eq_true rfl)) ?_ | refine And.intro (And.intro (by kernel_rfl) (by kernel_rfl)) ?_ | refine And.intro (by decide) ?_ | refine lit_true ?_ | refine lit_false ?_))
          (intro c hc; obtain rfl : c = true := hc.trans (beq_self_eq_true _); (repeat ((conv => whnf); first | refine aw_seq ?_ | refine aw_region ?_ | refine aw_block ?_ | refine aw_skip ?_ | refine aw_true rfl ?_ | refine aw_false rfl ?_ | refine aw_exit ?_ | refine aw_label ?_ | refine aw_ret ?_ | refine And.intro rfl ?_ | refine And.intro trivial ?_ | refine And.intro (And.intro rfl (Nat.le_of_ble_eq_true rfl)) ?_ | refine And.intro (And.intro (by kernel_rfl) (by kernel_rfl)) ?_ | refine And.intro (by decide) ?_ | refine lit_true ?_ | refine lit_false ?_)))
          refine aop_tells rfl rfl awake_spec trivial fun nx9 => ?_
          (repeat ((conv => whnf); first | refine aw_seq ?_ | refine aw_region ?_ | refine aw_block ?_ | refine aw_skip ?_ | refine aw_true rfl ?_ | refine aw_false rfl ?_ | refine aw_exit ?_ | refine aw_label ?_ | refine aw_ret ?_ | refine And.intro rfl ?_ | refine And.intro trivial ?_ | refine And.intro (And.intro rfl (Nat.le_of_ble_eq_true rfl)) ?_ | refine And.intro (And.intro (by kernel_rfl) (by kernel_rfl)) ?_ | refine And.intro (by decide) ?_ | refine lit_true ?_ | refine lit_false ?_))
          refine ret_is rfl rfl
        · have g2 := yes_of g2
          dsimp only at g2
          (repeat ((conv => whnf); first | refine aw_seq ?_ | refine aw_region ?_ | refine aw_block ?_ | refine aw_skip ?_ | refine aw_true rfl ?_ | refine aw_false rfl ?_ | refine aw_exit ?_ | refine aw_label ?_ | refine aw_ret ?_ | refine And.intro rfl ?_ | refine And.intro trivial ?_ | refine And.intro (And.intro rfl (Nat.le_of_ble_eq_true rfl)) ?_ | refine And.intro (And.intro (by kernel_rfl) (by kernel_rfl)) ?_ | refine And.intro (by decide) ?_ | refine lit_true ?_ | refine lit_false ?_))
          (refine aw_draw 9 ?_ ?_ ?_ ?_; (· kernel_rfl); (· kernel_rfl); (· kernel_rfl))
          (repeat ((conv => whnf); first | refine aw_seq ?_ | refine aw_region ?_ | refine aw_block ?_ | refine aw_skip ?_ | refine aw_true rfl ?_ | refine aw_false rfl ?_ | refine aw_exit ?_ | refine aw_label ?_ | refine aw_ret ?_ | refine And.intro rfl ?_ | refine And.intro trivial ?_ | refine And.intro (And.intro rfl (Nat.le_of_ble_eq_true rfl)) ?_ | refine And.intro (And.intro (by kernel_rfl) (by kernel_rfl)) ?_ | refine And.intro (by decide) ?_ | refine lit_true ?_ | refine lit_false ?_))
          refine ⟨⟨by first | omega | (dsimp only; omega), by first | omega | (dsimp only; omega)⟩, ?_⟩
          (repeat ((conv => whnf); first | refine aw_seq ?_ | refine aw_region ?_ | refine aw_block ?_ | refine aw_skip ?_ | refine aw_true rfl ?_ | refine aw_false rfl ?_ | refine aw_exit ?_ | refine aw_label ?_ | refine aw_ret ?_ | refine And.intro rfl ?_ | refine And.intro trivial ?_ | refine And.intro (And.intro rfl (Nat.le_of_ble_eq_true rfl)) ?_ | refine And.intro (And.intro (by kernel_rfl) (by kernel_rfl)) ?_ | refine And.intro (by decide) ?_ | refine lit_true ?_ | refine lit_false ?_))
          refine ⟨⟨by first | omega | (dsimp only; omega), by first | omega | (dsimp only; omega)⟩, ?_⟩
          (repeat ((conv => whnf); first | refine aw_seq ?_ | refine aw_region ?_ | refine aw_block ?_ | refine aw_skip ?_ | refine aw_true rfl ?_ | refine aw_false rfl ?_ | refine aw_exit ?_ | refine aw_label ?_ | refine aw_ret ?_ | refine And.intro rfl ?_ | refine And.intro trivial ?_ | refine And.intro (And.intro rfl (Nat.le_of_ble_eq_true rfl)) ?_ | refine And.intro (And.intro (by kernel_rfl) (by kernel_rfl)) ?_ | refine And.intro (by decide) ?_ | refine lit_true ?_ | refine lit_false ?_))
          intro c hc
          obtain rfl : c = false := hc.trans (by simp)
          (repeat ((conv => whnf); first | refine aw_seq ?_ | refine aw_region ?_ | refine aw_block ?_ | refine aw_skip ?_ | refine aw_true rfl ?_ | refine aw_false rfl ?_ | refine aw_exit ?_ | refine aw_label ?_ | refine aw_ret ?_ | refine And.intro rfl ?_ | refine And.intro trivial ?_ | refine And.intro (And.intro rfl (Nat.le_of_ble_eq_true rfl)) ?_ | refine And.intro (And.intro (by kernel_rfl) (by kernel_rfl)) ?_ | refine And.intro (by decide) ?_ | refine lit_true ?_ | refine lit_false ?_))
          exact back (i + 1, _) (by dsimp only; omega) (by dsimp only; omega) (ele_keep rfl rfl (List.nil_sublist _) .slnil ⟨AVle.refl _, AVle.refl _, AVle.refl _, AVle.refl _, le_int (wrap_succ (by dsimp only; omega)), trivial⟩)
    · (repeat ((conv => whnf); first | refine aw_seq ?_ | refine aw_region ?_ | refine aw_block ?_ | refine aw_skip ?_ | refine aw_true rfl ?_ | refine aw_false rfl ?_ | refine aw_exit ?_ | refine aw_label ?_ | refine aw_ret ?_ | refine And.intro rfl ?_ | refine And.intro trivial ?_ | refine And.intro (And.intro rfl (Nat.le_of_ble_eq_true rfl)) ?_ | refine And.intro (And.intro (by kernel_rfl) (by kernel_rfl)) ?_ | refine And.intro (by decide) ?_ | refine lit_true ?_ | refine lit_false ?_))
      refine aop_tells rfl rfl awake_spec trivial fun nx => ?_
      (repeat ((conv => whnf); first | refine aw_seq ?_ | refine aw_region ?_ | refine aw_block ?_ | refine aw_skip ?_ | refine aw_true rfl ?_ | refine aw_false rfl ?_ | refine aw_exit ?_ | refine aw_label ?_ | refine aw_ret ?_ | refine And.intro rfl ?_ | refine And.intro trivial ?_ | refine And.intro (And.intro rfl (Nat.le_of_ble_eq_true rfl)) ?_ | refine And.intro (And.intro (by kernel_rfl) (by kernel_rfl)) ?_ | refine And.intro (by decide) ?_ | refine lit_true ?_ | refine lit_false ?_))
      refine ret_is rfl rfl
  · (repeat ((conv => whnf); first | refine aw_seq ?_ | refine aw_region ?_ | refine aw_block ?_ | refine aw_skip ?_ | refine aw_true rfl ?_ | refine aw_false rfl ?_ | refine aw_exit ?_ | refine aw_label ?_ | refine aw_ret ?_ | refine And.intro rfl ?_ | refine And.intro trivial ?_ | refine And.intro (And.intro rfl (Nat.le_of_ble_eq_true rfl)) ?_ | refine And.intro (And.intro (by kernel_rfl) (by kernel_rfl)) ?_ | refine And.intro (by decide) ?_ | refine lit_true ?_ | refine lit_false ?_))
    refine ret_is rfl rfl
end Go.Proofs.W
