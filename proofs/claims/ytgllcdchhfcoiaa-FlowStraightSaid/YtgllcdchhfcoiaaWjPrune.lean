import Derived.Test.YtgllcdchhfcoiaaWiReached
namespace Go.Proofs.W
open Go.Vl
set_option maxRecDepth 100000

def sums (o : List Bool) : List Nat := (List.range (o.length + 1)).map fun k => (o.take k).count true
theorem sums_length (o : List Bool) : (sums o).length = o.length + 1 := by simp [sums]
theorem sums_get {o : List Bool} {k : Nat} (h : k ≤ o.length) : (sums o).getD k 0 = (o.take k).count true := by
  have : k < o.length + 1 := by omega
  simp [sums, List.getD, this]
theorem count_take {o : List Bool} {k : Nat} (h : k < o.length) : (o.take (k + 1)).count true = (o.take k).count true + (if o.getD k false then 1 else 0) := by
  rw [take_getD false h, List.count_append]
  cases o.getD k false <;> rfl
theorem count_mono (o : List Bool) (j : Nat) : ∀ d, (o.take j).count true ≤ (o.take (j + d)).count true ∧ (o.take (j + d)).count true ≤ (o.take j).count true + d
  | 0 => ⟨Nat.le_refl _, Nat.le_refl _⟩
  | d + 1 => by
    obtain ⟨h1, h2⟩ := count_mono o j d
    rcases Nat.lt_or_ge (j + d) o.length with h | h
    · rw [show j + (d + 1) = j + d + 1 from rfl, count_take h]
      split <;> omega
    · rw [List.take_of_length_le (show o.length ≤ j + (d + 1) by omega)]
      rw [List.take_of_length_le h] at h1 h2
      omega
theorem to_sums {o : List Bool} {n k : Nat} (h : n + 1 + k ≤ o.length) (hl : o.length ≤ 1000000) : toI (sums o) n k = (((o.take (n + 1 + k)).count true - (o.take (n + 1)).count true : Nat) : Int) ∧ 0 ≤ toI (sums o) n k ∧ toI (sums o) n k ≤ k := by
  have h1 := count_mono o (n + 1) k
  have h2 : (o.take (n + 1 + k)).count true ≤ o.length := Nat.le_trans List.count_le_length (by simp; omega)
  have h3 : toI (sums o) n k = (((o.take (n + 1 + k)).count true - (o.take (n + 1)).count true : Nat) : Int) := by
    unfold toI
    rw [sums_get h, sums_get (by omega), wrap_id (by omega) (by omega)]
    omega
  rw [h3]
  refine ⟨rfl, by omega, by omega⟩
def prI (l : List Ins) (n : Nat) : Ins := prAt (sums (reachedOf l)) n (l.getD n ins0) (kind l n)
def prTo (l : List Ins) (n : Nat) : List Ins := ((List.range n).filter fun n => (reachedOf l).getD n false).map (prI l)
def pruneI (l : List Ins) : List Ins := prTo l (reachedOf l).length
theorem prTo_succ (l : List Ins) (n : Nat) : prTo l (n + 1) = if (reachedOf l).getD n false then prTo l n ++ [prI l n] else prTo l n := by
  unfold prTo
  have h0 : List.filter (fun n => (reachedOf l).getD n false) [n] = if (reachedOf l).getD n false then [n] else [] := by rw [List.filter_cons]; rfl
  rw [List.range_succ, List.filter_append, h0]
  cases h : (reachedOf l).getD n false
  · simp
  · simp
theorem prTo_length (l : List Ins) (n : Nat) : (prTo l n).length ≤ n := by
  unfold prTo
  rw [List.length_map]
  exact Nat.le_trans (List.length_filter_le _ _) (by simp)
def fillA (o : List Bool) (i : Nat) : List Nat := (sums o).take (i + 1) ++ List.replicate (o.length - i) 0
theorem fillA_zero (o : List Bool) : fillA o 0 = List.replicate (o.length + 1) 0 := by
  have : (sums o).take (0 + 1) = [0] := by simp [sums, List.range_succ_eq_map]
  unfold fillA
  rw [this, Nat.sub_zero, List.replicate_succ]; rfl
theorem fillA_length {o : List Bool} {i : Nat} (h : i ≤ o.length) : (fillA o i).length = o.length + 1 := by
  unfold fillA; rw [List.length_append, List.length_take, sums_length, List.length_replicate]; omega
theorem fillA_full (o : List Bool) : fillA o o.length = sums o := by
  unfold fillA; rw [Nat.sub_self, List.take_of_length_le (by rw [sums_length]; exact Nat.le_refl _)]; simp
theorem fillA_at {o : List Bool} {i : Nat} (h : i < o.length) : (fillA o i).getD i 0 = (o.take i).count true := by
  unfold fillA
  rw [fill_get (by rw [List.length_take, sums_length]; omega), ← sums_get (by omega)]
  simp only [List.getD, List.getElem?_take]
  rw [if_pos (by omega)]
theorem fillA_next {o : List Bool} {i : Nat} (h : i < o.length) : fillA o (i + 1) = (fillA o i).set (i + 1) ((fillA o i).getD i 0 + if o.getD i false then 1 else 0) := by
  rw [fillA_at h]
  obtain ⟨m, hm⟩ : ∃ m, o.length - i = m + 1 := ⟨o.length - i - 1, by omega⟩
  have hl : ((sums o).take (i + 1)).length = i + 1 := by rw [List.length_take, sums_length]; omega
  have h1 := fill_set ((sums o).take (i + 1)) m ((o.take i).count true + if o.getD i false then 1 else 0) 0
  rw [hl] at h1
  have h2 := take_getD (l := sums o) (i := i + 1) 0 (by rw [sums_length]; omega)
  rw [sums_get (by omega), count_take h] at h2
  show (sums o).take (i + 1 + 1) ++ _ = ((sums o).take (i + 1) ++ _).set _ _
  rw [hm, h1, h2, show o.length - (i + 1) = m by omega]
theorem check_formed {l : List Ins} (h : (checkI l).2 = 0) : Formed l := by
  refine formed_of ?_
  unfold checkI at h
  split at h
  · exact absurd h (by assumption)
  · rename_i h3; omega
theorem reachedOf_some {l : List Ins} {n : Nat} (h : n < (reachedOf l).length) : Formed l ∧ (reachedOf l).length = l.length := by
  unfold reachedOf at h ⊢
  split at h
  · rename_i h1; rw [if_pos h1]; exact ⟨check_formed h1, reachI_length l⟩
  · simp at h
theorem leave_all (l : List Ins) (hok : okL l) (s0 s1 s2 : Nat) (n : Nat) (x : List Ins × Option Nat) (nx : Nat) (hn : n < (reachedOf l).length) (hb : (reachedOf l).getD n false = true) (hx : x.1 = prTo l n ∧ (x.2 = none → x.1 = [])) :
    ECall Try.prog 49 ([int n, insA (l.getD n ins0), int (kind l n)] ++ [.bp (1, s1) 0, .bp (2, s2) 0]) ⟨prB s0 s1 s2 (sums (reachedOf l)) x.1 x.2, pmOf (nm3 x.2) (x.1.length * 4), nx, 4⟩ fun _ h' =>
      ∃ (x' : List Ins × Option Nat) (nx' nn' : Nat), h' = ⟨prB s0 s1 s2 (sums (reachedOf l)) x'.1 x'.2, pmOf (nm3 x'.2) (x'.1.length * 4), nx', nn'⟩ ∧ (x'.1 = prTo l (n + 1) ∧ (x'.2 = none → x'.1 = [])) := by
  obtain ⟨out, oi⟩ := x
  obtain ⟨h1, h2⟩ := hx
  dsimp only at h1 h2
  obtain ⟨hf, hlen⟩ := reachedOf_some hn
  have hle := hf.le
  have hnx := nexts_lt hf (n := n) (by omega)
  have hol : out.length ≤ n := by rw [h1]; exact prTo_length l n
  refine (leave_spec s0 s1 s2 nx (sums (reachedOf l)) out oi (l.getD n ins0) n (kind l n) (hok.get (by omega)) (by rw [sums_length]; omega) (by omega) h2 (fun hk => ?_) (fun hk => ?_) (fun k hk => ?_)).mono fun r h' ⟨id, nx', nn', q⟩ => ⟨(out ++ [prAt (sums (reachedOf l)) n (l.getD n ins0) (kind l n)], some id), nx', nn', q, ?_, fun h => by cases h⟩
  · have := hnx (n + 1 + (l.getD n ins0).k) (by unfold nextsI; rw [if_neg (by omega), if_pos hk]; simp)
    rw [sums_length]; omega
  · have a1 := hnx (n + 1 + (l.getD n ins0).jt) (by unfold nextsI; rw [if_neg (by omega), if_neg (by omega), if_pos hk]; simp)
    have a2 := hnx (n + 1 + (l.getD n ins0).jf) (by unfold nextsI; rw [if_neg (by omega), if_neg (by omega), if_pos hk]; simp)
    rw [sums_length]; omega
  · rw [sums_length] at hk
    exact (to_sums (o := reachedOf l) (by omega) (by omega)).2
  · rw [prTo_succ, hb, if_pos rfl, h1]; rfl
theorem skip_all (l : List Ins) (n : Nat) (x : List Ins × Option Nat) (hn : n < (reachedOf l).length) (hb : (reachedOf l).getD n false = false) (hx : x.1 = prTo l n ∧ (x.2 = none → x.1 = [])) : x.1 = prTo l (n + 1) ∧ (x.2 = none → x.1 = []) := by
  rw [prTo_succ, hb]
  exact hx
theorem prune_spec (l : List Ins) (hok : okL l) (hl : l.length ≤ 1000000000) : Tells Try.prog 17 [inss l] (inss (pruneI l)) := by
  have hro : (reachedOf l).length ≤ 4096 := by
    unfold reachedOf; split
    · rename_i h; rw [reachI_length]; exact (check_formed h).le
    · simp
  refine tells_of_aw Try.func17 rfl rfl fun nx => ?_
  (repeat ((conv => whnf); first | refine aw_seq ?_ | refine aw_region ?_ | refine aw_block ?_ | refine aw_skip ?_ | refine aw_true rfl ?_ | refine aw_false rfl ?_ | refine aw_exit ?_ | refine aw_label ?_ | refine aw_ret ?_ | refine And.intro rfl ?_ | refine And.intro trivial ?_ | refine And.intro (And.intro rfl (Nat.le_of_ble_eq_true rfl)) ?_ | refine And.intro (And.intro (by kernel_rfl) (by kernel_rfl)) ?_ | refine And.intro (by decide) ?_ | refine lit_true ?_ | refine lit_false ?_))
  have hr : Tells Try.prog 20 [inss l] (bools (reachedOf l)) := reach_spec l hok hl
  refine aop_tells rfl rfl hr ⟨AVle.refl _, trivial⟩ fun nx => ?_
  have hcall := fun (s0 s1 s2 : Nat) => reached_spec (α := List Ins × Option Nat) l hok hl (fun x => prB s0 s1 s2 (sums (reachedOf l)) x.1 x.2) (fun x => pmOf (nm3 x.2) (x.1.length * 4)) 4 49 [.bp (1, s1) 0, .bp (2, s2) 0]
    (fun n x => x.1 = prTo l n ∧ (x.2 = none → x.1 = []))
  have hw : IntKind.i64.wrap (((reachedOf l).length : Int) + 1) = (((reachedOf l).length + 1 : Nat) : Int) := wrap_succ (by omega)
  (repeat ((conv => whnf); first | refine aw_seq ?_ | refine aw_region ?_ | refine aw_block ?_ | refine aw_skip ?_ | refine aw_true rfl ?_ | refine aw_false rfl ?_ | refine aw_exit ?_ | refine aw_label ?_ | refine aw_ret ?_ | refine And.intro rfl ?_ | refine And.intro trivial ?_ | refine And.intro (And.intro rfl (Nat.le_of_ble_eq_true rfl)) ?_ | refine And.intro (And.intro (by kernel_rfl) (by kernel_rfl)) ?_ | refine And.intro (by decide) ?_ | refine lit_true ?_ | refine lit_false ?_))
  (conv => whnf)
  rw [hw]
  refine ⟨by omega, by omega, by show ((8 : Nat) : Int) * _ ≤ _; omega, by omega, ?_⟩
  (repeat ((conv => whnf); first | refine aw_seq ?_ | refine aw_region ?_ | refine aw_block ?_ | refine aw_skip ?_ | refine aw_true rfl ?_ | refine aw_false rfl ?_ | refine aw_exit ?_ | refine aw_label ?_ | refine aw_ret ?_ | refine And.intro rfl ?_ | refine And.intro trivial ?_ | refine And.intro (And.intro rfl (Nat.le_of_ble_eq_true rfl)) ?_ | refine And.intro (And.intro (by kernel_rfl) (by kernel_rfl)) ?_ | refine And.intro (by decide) ?_ | refine lit_true ?_ | refine lit_false ?_))
  refine aw_loop (fun i : Nat => mk 42 [(0, inss l), (3, bools (reachedOf l)), (4, .bp (1, nx + 1) 0), (14, bools (reachedOf l)), (15, int (reachedOf l).length), (16, int i)]
    ⟨[((1, nx + 1), .c [.hs (0, nx) 0 ((reachedOf l).length + 1) ((reachedOf l).length + 1)]), ((0, nx), .c ((fillA (reachedOf l) i).map intA))], [], nx + 2, 2⟩) (fun i => i ≤ (reachedOf l).length) (fun i => (reachedOf l).length - i) ?_ ?_
  · refine ⟨0, by omega, ele_tell _ _ rfl rfl (List.Sublist.refl _) .slnil ⟨rfl, OwnLe.refl _, rfl, OwnLe.of_eq ?_, trivial⟩ trivial ⟨AVle.refl _, AVle.refl _, AVle.refl _, AVle.refl _, AVle.refl _, AVle.refl _, trivial⟩⟩
    rw [fillA_zero, List.map_replicate]
    rfl
  · rintro i h1
    (repeat ((conv => whnf); first | refine aw_seq ?_ | refine aw_region ?_ | refine aw_block ?_ | refine aw_skip ?_ | refine aw_true rfl ?_ | refine aw_false rfl ?_ | refine aw_exit ?_ | refine aw_label ?_ | refine aw_ret ?_ | refine And.intro rfl ?_ | refine And.intro trivial ?_ | refine And.intro (And.intro rfl (Nat.le_of_ble_eq_true rfl)) ?_ | refine And.intro (And.intro (by kernel_rfl) (by kernel_rfl)) ?_ | refine And.intro (by decide) ?_ | refine lit_true ?_ | refine lit_false ?_))
    intro c g1; cases c
    · have g1 := not_of g1
      obtain rfl : i = (reachedOf l).length := by omega
      (repeat ((conv => whnf); first | refine aw_seq ?_ | refine aw_region ?_ | refine aw_block ?_ | refine aw_skip ?_ | refine aw_true rfl ?_ | refine aw_false rfl ?_ | refine aw_exit ?_ | refine aw_label ?_ | refine aw_ret ?_ | refine And.intro rfl ?_ | refine And.intro trivial ?_ | refine And.intro (And.intro rfl (Nat.le_of_ble_eq_true rfl)) ?_ | refine And.intro (And.intro (by kernel_rfl) (by kernel_rfl)) ?_ | refine And.intro (by decide) ?_ | refine lit_true ?_ | refine lit_false ?_))
      refine aop_call rfl rfl (ECall.tell (ECall.args (bs := [inss l, .fn (.func 49) [] [.bp (1, nx + 1) 0, .bp (2, nx + 2) 0]]) ⟨AVle.refl _, AVle.refl _, trivial⟩ (hcall nx (nx + 1) (nx + 2) (leave_all l hok _ _ _) (skip_all l) ([], none) (nx + 3) ⟨rfl, fun _ => rfl⟩))
        ⟨rfl, ⟨AVle.os_nil, trivial⟩, rfl, OwnLe.of_eq (by rw [sums_length]), rfl, OwnLe.of_eq (by rw [← fillA_full]), trivial⟩ trivial rfl) fun r h' hq => ?_
      obtain ⟨⟨out, oi⟩, nx5, nn5, rfl, h5, h6⟩ := hq
      refine Named.same ?_
      dsimp only at h5
      (repeat ((conv => whnf); first | refine aw_seq ?_ | refine aw_region ?_ | refine aw_block ?_ | refine aw_skip ?_ | refine aw_true rfl ?_ | refine aw_false rfl ?_ | refine aw_exit ?_ | refine aw_label ?_ | refine aw_ret ?_ | refine And.intro rfl ?_ | refine And.intro trivial ?_ | refine And.intro (And.intro rfl (Nat.le_of_ble_eq_true rfl)) ?_ | refine And.intro (And.intro (by kernel_rfl) (by kernel_rfl)) ?_ | refine And.intro (by decide) ?_ | refine lit_true ?_ | refine lit_false ?_))
      refine ret_tells rfl ?_
      unfold pruneI
      rw [← h5]
      exact AVle.os_sl
    · have g1 := yes_of g1
      (repeat ((conv => whnf); first | refine aw_seq ?_ | refine aw_region ?_ | refine aw_block ?_ | refine aw_skip ?_ | refine aw_true rfl ?_ | refine aw_false rfl ?_ | refine aw_exit ?_ | refine aw_label ?_ | refine aw_ret ?_ | refine And.intro rfl ?_ | refine And.intro trivial ?_ | refine And.intro (And.intro rfl (Nat.le_of_ble_eq_true rfl)) ?_ | refine And.intro (And.intro (by kernel_rfl) (by kernel_rfl)) ?_ | refine And.intro (by decide) ?_ | refine lit_true ?_ | refine lit_false ?_))
      refine ⟨⟨by omega, by omega⟩, ?_⟩
      have hi0 : (0 + (Int.toNat (i : Int)) * Try.prog.cellsOf 3) = i := by rw [c3]; omega
      have hi1 : (0 + (Int.toNat ((i + 1 : Nat) : Int)) * Try.prog.cellsOf 3) = i + 1 := by rw [c3]; omega
      have hwi : IntKind.i64.wrap ((i : Int) + 1) = ((i + 1 : Nat) : Int) := wrap_succ (by omega)
      have hfl := fillA_length (o := reachedOf l) (i := i) (by omega)
      (repeat ((conv => whnf); first | refine aw_seq ?_ | refine aw_region ?_ | refine aw_block ?_ | refine aw_skip ?_ | refine aw_true rfl ?_ | refine aw_false rfl ?_ | refine aw_exit ?_ | refine aw_label ?_ | refine aw_ret ?_ | refine And.intro rfl ?_ | refine And.intro trivial ?_ | refine And.intro (And.intro rfl (Nat.le_of_ble_eq_true rfl)) ?_ | refine And.intro (And.intro (by kernel_rfl) (by kernel_rfl)) ?_ | refine And.intro (by decide) ?_ | refine lit_true ?_ | refine lit_false ?_))
      intro c g2; cases c
      · (repeat ((conv => whnf); first | refine aw_seq ?_ | refine aw_region ?_ | refine aw_block ?_ | refine aw_skip ?_ | refine aw_true rfl ?_ | refine aw_false rfl ?_ | refine aw_exit ?_ | refine aw_label ?_ | refine aw_ret ?_ | refine And.intro rfl ?_ | refine And.intro trivial ?_ | refine And.intro (And.intro rfl (Nat.le_of_ble_eq_true rfl)) ?_ | refine And.intro (And.intro (by kernel_rfl) (by kernel_rfl)) ?_ | refine And.intro (by decide) ?_ | refine lit_true ?_ | refine lit_false ?_))
        (refine aw_draw 8 ?_ ?_ ?_ ?_; (· kernel_rfl); (· kernel_rfl); (· kernel_rfl))
        (repeat ((conv => whnf); first | refine aw_seq ?_ | refine aw_region ?_ | refine aw_block ?_ | refine aw_skip ?_ | refine aw_true rfl ?_ | refine aw_false rfl ?_ | refine aw_exit ?_ | refine aw_label ?_ | refine aw_ret ?_ | refine And.intro rfl ?_ | refine And.intro trivial ?_ | refine And.intro (And.intro rfl (Nat.le_of_ble_eq_true rfl)) ?_ | refine And.intro (And.intro (by kernel_rfl) (by kernel_rfl)) ?_ | refine And.intro (by decide) ?_ | refine lit_true ?_ | refine lit_false ?_))
        (conv => whnf)
        refine ⟨⟨by omega, by omega⟩, splitO_eq (b := .bp (0, nx) i) (congrArg (AV.bp (0, nx)) hi0) ?_⟩
        (conv => whnf)
        refine ⟨⟨rfl, by simp; omega⟩, splitO_eq (b := int ((fillA (reachedOf l) i).getD i 0 : Nat)) (getD_map (by omega)) ?_⟩
        (repeat ((conv => whnf); first | refine aw_seq ?_ | refine aw_region ?_ | refine aw_block ?_ | refine aw_skip ?_ | refine aw_true rfl ?_ | refine aw_false rfl ?_ | refine aw_exit ?_ | refine aw_label ?_ | refine aw_ret ?_ | refine And.intro rfl ?_ | refine And.intro trivial ?_ | refine And.intro (And.intro rfl (Nat.le_of_ble_eq_true rfl)) ?_ | refine And.intro (And.intro (by kernel_rfl) (by kernel_rfl)) ?_ | refine And.intro (by decide) ?_ | refine lit_true ?_ | refine lit_false ?_))
        (conv => whnf)
        rw [hwi]
        refine ⟨⟨by omega, by omega⟩, splitO_eq (b := .bp (0, nx) (i + 1)) (congrArg (AV.bp (0, nx)) hi1) ?_⟩
        (conv => whnf)
        have hsp : splice ((fillA (reachedOf l) i).map intA) (i + 1) [AV.v (.int .i64 ((fillA (reachedOf l) i).getD i 0 : Nat))] = ((fillA (reachedOf l) i).set (i + 1) ((fillA (reachedOf l) i).getD i 0)).map intA := splice_one (f := intA) (by omega)
        refine ⟨⟨rfl, by simp; omega⟩, ?_⟩
        rw [hsp]
        (repeat ((conv => whnf); first | refine aw_seq ?_ | refine aw_region ?_ | refine aw_block ?_ | refine aw_skip ?_ | refine aw_true rfl ?_ | refine aw_false rfl ?_ | refine aw_exit ?_ | refine aw_label ?_ | refine aw_ret ?_ | refine And.intro rfl ?_ | refine And.intro trivial ?_ | refine And.intro (And.intro rfl (Nat.le_of_ble_eq_true rfl)) ?_ | refine And.intro (And.intro (by kernel_rfl) (by kernel_rfl)) ?_ | refine And.intro (by decide) ?_ | refine lit_true ?_ | refine lit_false ?_))
        refine back (i + 1) (by omega) (by omega) (ele_tell _ _ rfl rfl (List.Sublist.refl _) .slnil ⟨rfl, OwnLe.refl _, rfl, OwnLe.of_eq ?_, trivial⟩ trivial ⟨AVle.refl _, AVle.refl _, AVle.refl _, AVle.refl _, AVle.refl _, le_int (wrap_succ (by omega)), trivial⟩)
        dsimp only
        have g3 : (reachedOf l).getD i false = false := g2.symm
        rw [fillA_next (by omega), g3]
        rfl
      · (repeat ((conv => whnf); first | refine aw_seq ?_ | refine aw_region ?_ | refine aw_block ?_ | refine aw_skip ?_ | refine aw_true rfl ?_ | refine aw_false rfl ?_ | refine aw_exit ?_ | refine aw_label ?_ | refine aw_ret ?_ | refine And.intro rfl ?_ | refine And.intro trivial ?_ | refine And.intro (And.intro rfl (Nat.le_of_ble_eq_true rfl)) ?_ | refine And.intro (And.intro (by kernel_rfl) (by kernel_rfl)) ?_ | refine And.intro (by decide) ?_ | refine lit_true ?_ | refine lit_false ?_))
        (refine aw_draw 8 ?_ ?_ ?_ ?_; (· kernel_rfl); (· kernel_rfl); (· kernel_rfl))
        (repeat ((conv => whnf); first | refine aw_seq ?_ | refine aw_region ?_ | refine aw_block ?_ | refine aw_skip ?_ | refine aw_true rfl ?_ | refine aw_false rfl ?_ | refine aw_exit ?_ | refine aw_label ?_ | refine aw_ret ?_ | refine And.intro rfl ?_ | refine And.intro trivial ?_ | refine And.intro (And.intro rfl (Nat.le_of_ble_eq_true rfl)) ?_ | refine And.intro (And.intro (by kernel_rfl) (by kernel_rfl)) ?_ | refine And.intro (by decide) ?_ | refine lit_true ?_ | refine lit_false ?_))
        (conv => whnf)
        refine ⟨⟨by omega, by omega⟩, splitO_eq (b := .bp (0, nx) i) (congrArg (AV.bp (0, nx)) hi0) ?_⟩
        (conv => whnf)
        refine ⟨⟨rfl, by simp; omega⟩, splitO_eq (b := int ((fillA (reachedOf l) i).getD i 0 : Nat)) (getD_map (by omega)) ?_⟩
        (repeat ((conv => whnf); first | refine aw_seq ?_ | refine aw_region ?_ | refine aw_block ?_ | refine aw_skip ?_ | refine aw_true rfl ?_ | refine aw_false rfl ?_ | refine aw_exit ?_ | refine aw_label ?_ | refine aw_ret ?_ | refine And.intro rfl ?_ | refine And.intro trivial ?_ | refine And.intro (And.intro rfl (Nat.le_of_ble_eq_true rfl)) ?_ | refine And.intro (And.intro (by kernel_rfl) (by kernel_rfl)) ?_ | refine And.intro (by decide) ?_ | refine lit_true ?_ | refine lit_false ?_))
        (conv => whnf)
        rw [hwi]
        refine ⟨⟨by omega, by omega⟩, splitO_eq (b := .bp (0, nx) (i + 1)) (congrArg (AV.bp (0, nx)) hi1) ?_⟩
        (conv => whnf)
        have hsp : splice ((fillA (reachedOf l) i).map intA) (i + 1) [AV.v (.int .i64 ((fillA (reachedOf l) i).getD i 0 : Nat))] = ((fillA (reachedOf l) i).set (i + 1) ((fillA (reachedOf l) i).getD i 0)).map intA := splice_one (f := intA) (by omega)
        refine ⟨⟨rfl, by simp; omega⟩, ?_⟩
        rw [hsp]
        (repeat ((conv => whnf); first | refine aw_seq ?_ | refine aw_region ?_ | refine aw_block ?_ | refine aw_skip ?_ | refine aw_true rfl ?_ | refine aw_false rfl ?_ | refine aw_exit ?_ | refine aw_label ?_ | refine aw_ret ?_ | refine And.intro rfl ?_ | refine And.intro trivial ?_ | refine And.intro (And.intro rfl (Nat.le_of_ble_eq_true rfl)) ?_ | refine And.intro (And.intro (by kernel_rfl) (by kernel_rfl)) ?_ | refine And.intro (by decide) ?_ | refine lit_true ?_ | refine lit_false ?_))
        (conv => whnf)
        rw [hwi]
        refine ⟨⟨by omega, by omega⟩, splitO_eq (b := .bp (0, nx) (i + 1)) (congrArg (AV.bp (0, nx)) hi1) ?_⟩
        (conv => whnf)
        refine ⟨⟨rfl, by simp; omega⟩, splitO_eq (b := int (((fillA (reachedOf l) i).set (i + 1) ((fillA (reachedOf l) i).getD i 0)).getD (i + 1) 0 : Nat)) (getD_map (by simp; omega)) ?_⟩
        (repeat ((conv => whnf); first | refine aw_seq ?_ | refine aw_region ?_ | refine aw_block ?_ | refine aw_skip ?_ | refine aw_true rfl ?_ | refine aw_false rfl ?_ | refine aw_exit ?_ | refine aw_label ?_ | refine aw_ret ?_ | refine And.intro rfl ?_ | refine And.intro trivial ?_ | refine And.intro (And.intro rfl (Nat.le_of_ble_eq_true rfl)) ?_ | refine And.intro (And.intro (by kernel_rfl) (by kernel_rfl)) ?_ | refine And.intro (by decide) ?_ | refine lit_true ?_ | refine lit_false ?_))
        (conv => whnf)
        refine ⟨⟨by omega, by omega⟩, splitO_eq (b := .bp (0, nx) (i + 1)) (congrArg (AV.bp (0, nx)) hi1) ?_⟩
        (conv => whnf)
        have hv : ((fillA (reachedOf l) i).set (i + 1) ((fillA (reachedOf l) i).getD i 0)).getD (i + 1) 0 = (fillA (reachedOf l) i).getD i 0 := by
          rw [getDL_set, if_pos ⟨rfl, by omega⟩]
        have hle2 : (fillA (reachedOf l) i).getD i 0 ≤ (reachedOf l).length := by
          rw [fillA_at (by omega)]
          exact Nat.le_trans List.count_le_length (by simp; omega)
        have hsp2 : splice (((fillA (reachedOf l) i).set (i + 1) ((fillA (reachedOf l) i).getD i 0)).map intA) (i + 1) [AV.v (.int .i64 (IntKind.i64.wrap ((((fillA (reachedOf l) i).set (i + 1) ((fillA (reachedOf l) i).getD i 0)).getD (i + 1) 0 : Nat) + 1)))] = (fillA (reachedOf l) (i + 1)).map intA := by
          have g3 : (reachedOf l).getD i false = true := g2.symm
          rw [hv, show IntKind.i64.wrap (((fillA (reachedOf l) i).getD i 0 : Nat) + 1 : Int) = (((fillA (reachedOf l) i).getD i 0 + 1 : Nat) : Int) from wrap_succ (by omega)]
          refine (splice_one (f := intA) (x := (fillA (reachedOf l) i).getD i 0 + 1) (by simp; omega)).trans ?_
          rw [fillA_next (by omega), g3, List.set_set]
          rfl
        refine ⟨⟨rfl, by simp; omega⟩, ?_⟩
        rw [hsp2]
        (repeat ((conv => whnf); first | refine aw_seq ?_ | refine aw_region ?_ | refine aw_block ?_ | refine aw_skip ?_ | refine aw_true rfl ?_ | refine aw_false rfl ?_ | refine aw_exit ?_ | refine aw_label ?_ | refine aw_ret ?_ | refine And.intro rfl ?_ | refine And.intro trivial ?_ | refine And.intro (And.intro rfl (Nat.le_of_ble_eq_true rfl)) ?_ | refine And.intro (And.intro (by kernel_rfl) (by kernel_rfl)) ?_ | refine And.intro (by decide) ?_ | refine lit_true ?_ | refine lit_false ?_))
        exact back (i + 1) (by omega) (by omega) (ele_tell _ _ rfl rfl (List.Sublist.refl _) .slnil ⟨rfl, OwnLe.refl _, rfl, OwnLe.refl _, trivial⟩ trivial ⟨AVle.refl _, AVle.refl _, AVle.refl _, AVle.refl _, AVle.refl _, le_int (wrap_succ (by omega)), trivial⟩)
end Go.Proofs.W
