import Derived.Test.YtgllcdchhfcoiaaG
import Derived.Test.YtgllcdchhfcoiaaX
set_option linter.unusedVariables false
set_option linter.unusedSimpArgs false
namespace Go.Proofs.W
open Go.Vl

/-- Whether a record meets a path's test. -/
def oneP (b : List Nat) (t : Tst) : Bool := decide (t.at' ≤ 60 ∧ 25 ≤ t.kind ∧ t.kind ≤ 28) && (branchV t.kind (wordL b t.at' &&& t.mask) t.k == t.is)
theorem pathsF_ext (l : List Ins) : ∀ f n a m ts st, ∀ p ∈ pathsF l f n a m ts st, ∃ us, p.tests = ts ++ us
  | 0, _, _, _, _, _, p, h => by cases h
  | f + 1, n, a, m, ts, st, p, h => by
    unfold pathsF at h
    split at h
    · obtain rfl := List.mem_singleton.1 h
      exact ⟨[], by simp⟩
    · split at h
      · exact pathsF_ext l f _ _ _ _ _ p h
      · split at h
        · exact pathsF_ext l f _ _ _ _ _ p h
        · split at h
          · rcases List.mem_append.1 h with h | h
            · obtain ⟨us, hu⟩ := pathsF_ext l f _ _ _ _ _ p h
              exact ⟨_, hu.trans (List.append_assoc _ _ _)⟩
            · obtain ⟨us, hu⟩ := pathsF_ext l f _ _ _ _ _ p h
              exact ⟨_, hu.trans (List.append_assoc _ _ _)⟩
          · exact pathsF_ext l f _ _ _ _ _ p h
theorem pathsF_none {b : List Nat} {l : List Ins} {f n a m : Nat} {ts : List Tst} {st : Nat} (h : ts.all (oneP b) = false) : (pathsF l f n a m ts st).filter (fun p => p.tests.all (oneP b)) = [] := by
  rw [List.filter_eq_nil_iff]
  intro p hp
  obtain ⟨us, hu⟩ := pathsF_ext l f n a m ts st p hp
  rw [hu, List.all_append, h]
  simp
theorem bareN_mono {l : List Ins} {k : Nat} : ∀ d n, (bareN l n).getD k false = true → (bareN l (n + d)).getD k false = true
  | 0, _, h => h
  | d + 1, n, h => by
    have := bareN_mono d n h
    rw [show n + (d + 1) = n + d + 1 from rfl]
    unfold bareN
    split
    · rw [setT_get, this]; rfl
    · exact this
theorem and_full {x : Nat} (h : x < 4294967296) : x &&& 4294967295 = x := by
  have := Nat.and_two_pow_sub_one_eq_mod x 32
  rw [show 2 ^ 32 - 1 = 4294967295 from rfl, Nat.mod_eq_of_lt h] at this
  exact this
theorem paths_run {b : List Nat} (hb : okB b) {l : List Ins} (hp : Plain l) : ∀ f (s : Rn) (at' mask : Nat) (ts : List Tst), s.at' < l.length → l.length ≤ s.at' + f →
    ((at' ≤ 60 ∧ s.a = wordL b at' &&& mask) ∨ (bareN l s.at').getD s.at' false = true) → ts.all (oneP b) = true →
    ∃ ts', (pathsF l f s.at' at' mask ts s.steps).filter (fun p => p.tests.all (oneP b)) = [⟨ts', (runV b l f s).2.steps, (runV b l f s).1⟩]
  | 0, s, _, _, _, hs, hl, _, _ => by omega
  | f + 1, s, at', mask, ts, hs, hl, hA, hts => by
    obtain ⟨o1, o2, o3⟩ := hp.2 s.at' hs
    have hf := hp.formed
    obtain ⟨q1, q2, q3⟩ := formed_nexts hf hs
    have hw := wrong_parts (hf.ok s.at' hs)
    have hk := hp.kinds hs
    have hkd : (kof (l.getD s.at' ins0).code).1 = kind l s.at' := rfl
    have hle := kof_le (l.getD s.at' ins0).code
    rw [hkd] at hle
    have hst := stepV_steps b l s
    have halt : ∀ s' : Rn, altV (l.getD s.at' ins0) s' = (l.getD s.at' ins0).k := fun s' => by unfold altV; rw [o2]; exact if_neg (by decide)
    unfold pathsF runV
    rcases hk with hk | hk | hk | hk | hk
    · -- load
      have e : stepV b l s = (none, { s with at' := s.at' + 1, steps := s.steps + 1, a := wordL b (l.getD s.at' ins0).k, loads := s.loads ++ [(l.getD s.at' ins0).k] }) := by
        unfold stepV doV; rw [hkd, hk]; rfl
      rw [e, if_neg (by omega), if_pos hk]
      have h60 : (l.getD s.at' ins0).k ≤ 60 := by have := hw.2.1; rw [hkd] at this; omega
      refine paths_run hb hp f { s with at' := s.at' + 1, steps := s.steps + 1, a := wordL b (l.getD s.at' ins0).k, loads := s.loads ++ [(l.getD s.at' ins0).k] } (l.getD s.at' ins0).k 4294967295 ts (q3 (by omega) (by omega) (by omega) (by omega)) (by dsimp only; omega) (.inl ⟨h60, ?_⟩) hts
      exact (and_full (wordL_lt hb _)).symm
    · -- jump
      have e : stepV b l s = (none, { s with at' := s.at' + 1 + (l.getD s.at' ins0).k, steps := s.steps + 1 }) := by
        unfold stepV doV; rw [hkd, hk]; rfl
      rw [e, if_neg (by omega), if_neg (by omega), if_neg (by omega), if_neg (by omega)]
      refine paths_run hb hp f { s with at' := s.at' + 1 + (l.getD s.at' ins0).k, steps := s.steps + 1 } at' mask ts (q1 hk) (by dsimp only; omega) ?_ hts
      rcases hA with hA | hA
      · exact .inl hA
      · refine .inr ?_
        have h1 : (bareN l (s.at' + 1)).getD (s.at' + 1 + (l.getD s.at' ins0).k) false = true := by
          unfold bareN
          rw [if_pos ⟨hA, hk⟩, setT_get, decide_eq_true rfl, decide_eq_true (by rw [bareN_length]; exact q1 hk)]
          simp
        exact bareN_mono (l.getD s.at' ins0).k (s.at' + 1) h1
    · -- return
      have e : stepV b l s = (some (l.getD s.at' ins0).k, { s with at' := s.at' + 1, steps := s.steps + 1 }) := by
        unfold stepV doV; rw [hkd, hk]; rfl
      rw [e, if_pos hk]
      refine ⟨ts, ?_⟩
      rw [List.filter_cons, if_pos hts, List.filter_nil]
    · -- and
      have e : stepV b l s = (none, { s with at' := s.at' + 1, steps := s.steps + 1, a := s.a &&& (l.getD s.at' ins0).k }) := by
        unfold stepV doV; rw [hkd, hk]; dsimp only; rw [halt]; rfl
      rw [e, if_neg (by omega), if_neg (by omega), if_pos hk]
      have hbare : ¬ (bareN l s.at').getD s.at' false = true := fun h => o3 ⟨.inl hk, h⟩
      obtain ⟨h60, ha⟩ := hA.resolve_right hbare
      refine paths_run hb hp f { s with at' := s.at' + 1, steps := s.steps + 1, a := s.a &&& (l.getD s.at' ins0).k } at' (mask &&& (l.getD s.at' ins0).k) ts (q3 (by omega) (by omega) (by omega) (by omega)) (by dsimp only; omega) (.inl ⟨h60, ?_⟩) hts
      dsimp only
      rw [ha, Nat.and_assoc]
    · -- branch
      have hbare : ¬ (bareN l s.at').getD s.at' false = true := fun h => o3 ⟨.inr hk, h⟩
      obtain ⟨h60, ha⟩ := hA.resolve_right hbare
      have e : stepV b l s = (none, { s with at' := s.at' + 1 + if branchV (kind l s.at') s.a (l.getD s.at' ins0).k then (l.getD s.at' ins0).jt else (l.getD s.at' ins0).jf, steps := s.steps + 1 }) := by
        unfold stepV doV
        rw [hkd]
        split
        all_goals first | (exfalso; omega) | skip
        rw [if_neg (by omega), halt]
      rw [e, if_neg (by omega), if_neg (by omega), if_neg (by omega), if_pos hk]
      obtain ⟨r1, r2⟩ := q2 hk
      have hone : ∀ is : Bool, oneP b ⟨at', mask, kind l s.at', (l.getD s.at' ins0).k, is⟩ = (branchV (kind l s.at') s.a (l.getD s.at' ins0).k == is) := fun is => by
        unfold oneP
        dsimp only
        rw [decide_eq_true ⟨h60, hk, hle⟩, ← ha]; rfl
      have hall : ∀ is : Bool, (ts ++ [(⟨at', mask, kind l s.at', (l.getD s.at' ins0).k, is⟩ : Tst)]).all (oneP b) = (branchV (kind l s.at') s.a (l.getD s.at' ins0).k == is) := fun is => by
        rw [List.all_append, hts, List.all_cons, List.all_nil, hone]; simp
      rw [List.filter_append]
      cases hbr : branchV (kind l s.at') s.a (l.getD s.at' ins0).k
      · rw [pathsF_none (ts := ts ++ [(⟨at', mask, kind l s.at', (l.getD s.at' ins0).k, true⟩ : Tst)]) (by rw [hall, hbr]; rfl), List.nil_append]
        exact paths_run hb hp f { s with at' := s.at' + 1 + (l.getD s.at' ins0).jf, steps := s.steps + 1 } at' mask _ r2 (by dsimp only; omega) (.inl ⟨h60, ha⟩) (by rw [hall, hbr]; rfl)
      · rw [pathsF_none (ts := ts ++ [(⟨at', mask, kind l s.at', (l.getD s.at' ins0).k, false⟩ : Tst)]) (by rw [hall, hbr]; rfl), List.append_nil]
        exact paths_run hb hp f { s with at' := s.at' + 1 + (l.getD s.at' ins0).jt, steps := s.steps + 1 } at' mask _ r1 (by dsimp only; omega) (.inl ⟨h60, ha⟩) (by rw [hall, hbr]; rfl)
theorem paths_one {b : List Nat} (hb : okB b) {l : List Ins} (hp : Plain l) : ∃ ts', (pathsI l).filter (fun p => p.tests.all (oneP b)) = [⟨ts', (runI b l).2.steps, (runI b l).1⟩] := by
  refine paths_run hb hp l.length rn0 0 0 [] hp.formed.pos (Nat.le_add_left _ _) (.inr ?_) rfl
  show (bareN l 0).getD 0 false = true
  unfold bareN
  rw [setT_get]
  simp [hp.formed.pos]
end Go.Proofs.W

namespace Go.Proofs.W
open Go.Vl
set_option maxRecDepth 100000

theorem all27_spec (l : List Ins) (hl : l.length ≤ 1000000) : Tells Try.prog 22 [inss l] (inss l) := by
  refine tells_of_aw Try.func22 rfl rfl fun nx => ?_
  (repeat ((conv => whnf); first | refine aw_seq ?_ | refine aw_region ?_ | refine aw_block ?_ | refine aw_skip ?_ | refine aw_true rfl ?_ | refine aw_false rfl ?_ | refine aw_exit ?_ | refine aw_label ?_ | refine aw_ret ?_ | refine And.intro rfl ?_ | refine And.intro trivial ?_ | refine And.intro (And.intro rfl (Nat.le_of_ble_eq_true rfl)) ?_ | refine And.intro (And.intro (by kernel_rfl) (by kernel_rfl)) ?_ | refine And.intro (by decide) ?_ | refine lit_true ?_ | refine lit_false ?_))
  refine aw_loop (fun s : Nat × Option Nat × Nat => mk 36 [(0, inss l), (3, .os 4 s.1 (fun k => insA (l.getD k ins0)) (nmd s.2.1)), (4, int s.1)] ⟨[], pmOf (nmd s.2.1) (s.1 * 4), s.2.2, 0⟩) (fun s => s.1 ≤ l.length ∧ (s.2.1 = none → s.1 = 0)) (fun s => l.length - s.1) ?_ ?_
  · exact ⟨(0, none, nx), ⟨by simp, fun _ => rfl⟩, ele_mk rfl rfl ⟨AVle.refl _, AVle.os_nil, AVle.refl _, trivial⟩⟩
  · rintro ⟨i, oi, nx2⟩ ⟨h3, h4⟩
    dsimp only at h3 h4
    (repeat ((conv => whnf); first | refine aw_seq ?_ | refine aw_region ?_ | refine aw_block ?_ | refine aw_skip ?_ | refine aw_true rfl ?_ | refine aw_false rfl ?_ | refine aw_exit ?_ | refine aw_label ?_ | refine aw_ret ?_ | refine And.intro rfl ?_ | refine And.intro trivial ?_ | refine And.intro (And.intro rfl (Nat.le_of_ble_eq_true rfl)) ?_ | refine And.intro (And.intro (by kernel_rfl) (by kernel_rfl)) ?_ | refine And.intro (by decide) ?_ | refine lit_true ?_ | refine lit_false ?_))
    intro c h5; cases c
    · have h6 := not_of h5
      dsimp only at h6
      obtain rfl : i = l.length := by omega
      (repeat ((conv => whnf); first | refine aw_seq ?_ | refine aw_region ?_ | refine aw_block ?_ | refine aw_skip ?_ | refine aw_true rfl ?_ | refine aw_false rfl ?_ | refine aw_exit ?_ | refine aw_label ?_ | refine aw_ret ?_ | refine And.intro rfl ?_ | refine And.intro trivial ?_ | refine And.intro (And.intro rfl (Nat.le_of_ble_eq_true rfl)) ?_ | refine And.intro (And.intro (by kernel_rfl) (by kernel_rfl)) ?_ | refine And.intro (by decide) ?_ | refine lit_true ?_ | refine lit_false ?_))
      exact ret_tells rfl AVle.os_sl
    · have h6 := yes_of h5
      dsimp only at h6
      rcases oi with _ | id
      · obtain rfl := h4 rfl
        (repeat ((conv => whnf); first | refine aw_seq ?_ | refine aw_region ?_ | refine aw_block ?_ | refine aw_skip ?_ | refine aw_true rfl ?_ | refine aw_false rfl ?_ | refine aw_exit ?_ | refine aw_label ?_ | refine aw_ret ?_ | refine And.intro rfl ?_ | refine And.intro trivial ?_ | refine And.intro (And.intro rfl (Nat.le_of_ble_eq_true rfl)) ?_ | refine And.intro (And.intro (by kernel_rfl) (by kernel_rfl)) ?_ | refine And.intro (by decide) ?_ | refine lit_true ?_ | refine lit_false ?_))
        (refine aw_draw 23 ?_ ?_ ?_ ?_; (· kernel_rfl); (· kernel_rfl); (· kernel_rfl))
        (repeat ((conv => whnf); first | refine aw_seq ?_ | refine aw_region ?_ | refine aw_block ?_ | refine aw_skip ?_ | refine aw_true rfl ?_ | refine aw_false rfl ?_ | refine aw_exit ?_ | refine aw_label ?_ | refine aw_ret ?_ | refine And.intro rfl ?_ | refine And.intro trivial ?_ | refine And.intro (And.intro rfl (Nat.le_of_ble_eq_true rfl)) ?_ | refine And.intro (And.intro (by kernel_rfl) (by kernel_rfl)) ?_ | refine And.intro (by decide) ?_ | refine lit_true ?_ | refine lit_false ?_))
        refine ⟨⟨by dsimp only; omega, by dsimp only; omega⟩, ?_⟩
        (repeat ((conv => whnf); first | refine aw_seq ?_ | refine aw_region ?_ | refine aw_block ?_ | refine aw_skip ?_ | refine aw_true rfl ?_ | refine aw_false rfl ?_ | refine aw_exit ?_ | refine aw_label ?_ | refine aw_ret ?_ | refine And.intro rfl ?_ | refine And.intro trivial ?_ | refine And.intro (And.intro rfl (Nat.le_of_ble_eq_true rfl)) ?_ | refine And.intro (And.intro (by kernel_rfl) (by kernel_rfl)) ?_ | refine And.intro (by decide) ?_ | refine lit_true ?_ | refine lit_false ?_))
        refine ⟨⟨by dsimp only; omega, by dsimp only; omega⟩, ?_⟩
        (repeat ((conv => whnf); first | refine aw_seq ?_ | refine aw_region ?_ | refine aw_block ?_ | refine aw_skip ?_ | refine aw_true rfl ?_ | refine aw_false rfl ?_ | refine aw_exit ?_ | refine aw_label ?_ | refine aw_ret ?_ | refine And.intro rfl ?_ | refine And.intro trivial ?_ | refine And.intro (And.intro rfl (Nat.le_of_ble_eq_true rfl)) ?_ | refine And.intro (And.intro (by kernel_rfl) (by kernel_rfl)) ?_ | refine And.intro (by decide) ?_ | refine lit_true ?_ | refine lit_false ?_))
        refine ⟨⟨by dsimp only; omega, by dsimp only; omega⟩, ?_⟩
        (repeat ((conv => whnf); first | refine aw_seq ?_ | refine aw_region ?_ | refine aw_block ?_ | refine aw_skip ?_ | refine aw_true rfl ?_ | refine aw_false rfl ?_ | refine aw_exit ?_ | refine aw_label ?_ | refine aw_ret ?_ | refine And.intro rfl ?_ | refine And.intro trivial ?_ | refine And.intro (And.intro rfl (Nat.le_of_ble_eq_true rfl)) ?_ | refine And.intro (And.intro (by kernel_rfl) (by kernel_rfl)) ?_ | refine And.intro (by decide) ?_ | refine lit_true ?_ | refine lit_false ?_))
        refine ⟨⟨by dsimp only; omega, by dsimp only; omega⟩, ?_⟩
        (repeat ((conv => whnf); first | refine aw_seq ?_ | refine aw_region ?_ | refine aw_block ?_ | refine aw_skip ?_ | refine aw_true rfl ?_ | refine aw_false rfl ?_ | refine aw_exit ?_ | refine aw_label ?_ | refine aw_ret ?_ | refine And.intro rfl ?_ | refine And.intro trivial ?_ | refine And.intro (And.intro rfl (Nat.le_of_ble_eq_true rfl)) ?_ | refine And.intro (And.intro (by kernel_rfl) (by kernel_rfl)) ?_ | refine And.intro (by decide) ?_ | refine lit_true ?_ | refine lit_false ?_))
        refine ⟨oneRow_one rfl, by show (0 + 1) * 8 ≤ _; omega, by dsimp only; omega, ?_⟩
        (repeat ((conv => whnf); first | refine aw_seq ?_ | refine aw_region ?_ | refine aw_block ?_ | refine aw_skip ?_ | refine aw_true rfl ?_ | refine aw_false rfl ?_ | refine aw_exit ?_ | refine aw_label ?_ | refine aw_ret ?_ | refine And.intro rfl ?_ | refine And.intro trivial ?_ | refine And.intro (And.intro rfl (Nat.le_of_ble_eq_true rfl)) ?_ | refine And.intro (And.intro (by kernel_rfl) (by kernel_rfl)) ?_ | refine And.intro (by decide) ?_ | refine lit_true ?_ | refine lit_false ?_))
        exact back (0 + 1, some nx2, nx2 + 1) ⟨by dsimp only; omega, (fun h => by cases h)⟩ (by dsimp only; omega) (ele_keep rfl rfl .slnil (.cons_cons _ .slnil) ⟨AVle.refl _, AVle.os_fun (appF_one (fun k hk => absurd hk (Nat.not_lt_zero _)) rfl), le_int (wrap_succ (by dsimp only; omega)), trivial⟩)
      · (repeat ((conv => whnf); first | refine aw_seq ?_ | refine aw_region ?_ | refine aw_block ?_ | refine aw_skip ?_ | refine aw_true rfl ?_ | refine aw_false rfl ?_ | refine aw_exit ?_ | refine aw_label ?_ | refine aw_ret ?_ | refine And.intro rfl ?_ | refine And.intro trivial ?_ | refine And.intro (And.intro rfl (Nat.le_of_ble_eq_true rfl)) ?_ | refine And.intro (And.intro (by kernel_rfl) (by kernel_rfl)) ?_ | refine And.intro (by decide) ?_ | refine lit_true ?_ | refine lit_false ?_))
        (refine aw_draw 23 ?_ ?_ ?_ ?_; (· kernel_rfl); (· kernel_rfl); (· kernel_rfl))
        (repeat ((conv => whnf); first | refine aw_seq ?_ | refine aw_region ?_ | refine aw_block ?_ | refine aw_skip ?_ | refine aw_true rfl ?_ | refine aw_false rfl ?_ | refine aw_exit ?_ | refine aw_label ?_ | refine aw_ret ?_ | refine And.intro rfl ?_ | refine And.intro trivial ?_ | refine And.intro (And.intro rfl (Nat.le_of_ble_eq_true rfl)) ?_ | refine And.intro (And.intro (by kernel_rfl) (by kernel_rfl)) ?_ | refine And.intro (by decide) ?_ | refine lit_true ?_ | refine lit_false ?_))
        refine ⟨⟨by dsimp only; omega, by dsimp only; omega⟩, ?_⟩
        (repeat ((conv => whnf); first | refine aw_seq ?_ | refine aw_region ?_ | refine aw_block ?_ | refine aw_skip ?_ | refine aw_true rfl ?_ | refine aw_false rfl ?_ | refine aw_exit ?_ | refine aw_label ?_ | refine aw_ret ?_ | refine And.intro rfl ?_ | refine And.intro trivial ?_ | refine And.intro (And.intro rfl (Nat.le_of_ble_eq_true rfl)) ?_ | refine And.intro (And.intro (by kernel_rfl) (by kernel_rfl)) ?_ | refine And.intro (by decide) ?_ | refine lit_true ?_ | refine lit_false ?_))
        refine ⟨⟨by dsimp only; omega, by dsimp only; omega⟩, ?_⟩
        (repeat ((conv => whnf); first | refine aw_seq ?_ | refine aw_region ?_ | refine aw_block ?_ | refine aw_skip ?_ | refine aw_true rfl ?_ | refine aw_false rfl ?_ | refine aw_exit ?_ | refine aw_label ?_ | refine aw_ret ?_ | refine And.intro rfl ?_ | refine And.intro trivial ?_ | refine And.intro (And.intro rfl (Nat.le_of_ble_eq_true rfl)) ?_ | refine And.intro (And.intro (by kernel_rfl) (by kernel_rfl)) ?_ | refine And.intro (by decide) ?_ | refine lit_true ?_ | refine lit_false ?_))
        refine ⟨⟨by dsimp only; omega, by dsimp only; omega⟩, ?_⟩
        (repeat ((conv => whnf); first | refine aw_seq ?_ | refine aw_region ?_ | refine aw_block ?_ | refine aw_skip ?_ | refine aw_true rfl ?_ | refine aw_false rfl ?_ | refine aw_exit ?_ | refine aw_label ?_ | refine aw_ret ?_ | refine And.intro rfl ?_ | refine And.intro trivial ?_ | refine And.intro (And.intro rfl (Nat.le_of_ble_eq_true rfl)) ?_ | refine And.intro (And.intro (by kernel_rfl) (by kernel_rfl)) ?_ | refine And.intro (by decide) ?_ | refine lit_true ?_ | refine lit_false ?_))
        refine ⟨⟨by dsimp only; omega, by dsimp only; omega⟩, ?_⟩
        (repeat ((conv => whnf); first | refine aw_seq ?_ | refine aw_region ?_ | refine aw_block ?_ | refine aw_skip ?_ | refine aw_true rfl ?_ | refine aw_false rfl ?_ | refine aw_exit ?_ | refine aw_label ?_ | refine aw_ret ?_ | refine And.intro rfl ?_ | refine And.intro trivial ?_ | refine And.intro (And.intro rfl (Nat.le_of_ble_eq_true rfl)) ?_ | refine And.intro (And.intro (by kernel_rfl) (by kernel_rfl)) ?_ | refine And.intro (by decide) ?_ | refine lit_true ?_ | refine lit_false ?_))
        refine ⟨oneRow_one rfl, by show (i + 1) * 8 ≤ _; omega, by dsimp only; omega, ?_⟩
        (repeat ((conv => whnf); first | refine aw_seq ?_ | refine aw_region ?_ | refine aw_block ?_ | refine aw_skip ?_ | refine aw_true rfl ?_ | refine aw_false rfl ?_ | refine aw_exit ?_ | refine aw_label ?_ | refine aw_ret ?_ | refine And.intro rfl ?_ | refine And.intro trivial ?_ | refine And.intro (And.intro rfl (Nat.le_of_ble_eq_true rfl)) ?_ | refine And.intro (And.intro (by kernel_rfl) (by kernel_rfl)) ?_ | refine And.intro (by decide) ?_ | refine lit_true ?_ | refine lit_false ?_))
        exact back (i + 1, some nx2, nx2 + 1) ⟨by dsimp only; omega, (fun h => by cases h)⟩ (by dsimp only; omega) (ele_keep rfl rfl .slnil (.cons_cons _ .slnil) ⟨AVle.refl _, AVle.os_fun (appF_one (fun k hk => rfl) rfl), le_int (wrap_succ (by dsimp only; omega)), trivial⟩)
def toZ (t : Tst) : TstZ := ⟨t.at', t.mask, t.kind, t.k, t.is⟩
def Tst.okT (t : Tst) : Prop := t.at' < 4294967296 ∧ t.mask < 4294967296 ∧ t.kind ≤ 28 ∧ t.k < 4294967296
theorem okL.getAll {l : List Ins} (h : okL l) (n : Nat) : (l.getD n ins0).ok := by
  rcases Nat.lt_or_ge n l.length with hn | hn
  · exact h.get hn
  · have : l.getD n ins0 = ins0 := by simp [List.getD, List.getElem?_eq_none hn]
    rw [this]; exact ⟨by decide, by decide, by decide, by decide⟩
theorem pathsF_okT {l : List Ins} (hok : okL l) : ∀ f n a m ts st, a < 4294967296 → m < 4294967296 → (∀ t ∈ ts, t.okT) → ∀ p ∈ pathsF l f n a m ts st, ∀ t ∈ p.tests, t.okT
  | 0, _, _, _, _, _, _, _, _, p, h => by cases h
  | f + 1, n, a, m, ts, st, ha, hm, hts, p, h => by
    have hk := (hok.getAll n).2.2.2
    have hle := kof_le (l.getD n ins0).code
    have hadd : ∀ is : Bool, ∀ t ∈ ts ++ [(⟨a, m, kind l n, (l.getD n ins0).k, is⟩ : Tst)], t.okT := by
      intro is t ht
      rcases List.mem_append.1 ht with ht | ht
      · exact hts t ht
      · obtain rfl := List.mem_singleton.1 ht
        exact ⟨ha, hm, hle, hk⟩
    unfold pathsF at h
    split at h
    · obtain rfl := List.mem_singleton.1 h
      exact hts
    · split at h
      · exact pathsF_okT hok f _ _ _ _ _ hk (by decide) hts p h
      · split at h
        · exact pathsF_okT hok f _ _ _ _ _ ha (Nat.lt_of_le_of_lt Nat.and_le_left hm) hts p h
        · split at h
          · rcases List.mem_append.1 h with h | h
            · exact pathsF_okT hok f _ _ _ _ _ ha hm (hadd true) p h
            · exact pathsF_okT hok f _ _ _ _ _ ha hm (hadd false) p h
          · exact pathsF_okT hok f _ _ _ _ _ ha hm hts p h
theorem pathsF_len (l : List Ins) : ∀ f n a m ts st, ∀ p ∈ pathsF l f n a m ts st, p.tests.length ≤ ts.length + f
  | 0, _, _, _, _, _, p, h => by cases h
  | f + 1, n, a, m, ts, st, p, h => by
    unfold pathsF at h
    split at h
    · obtain rfl := List.mem_singleton.1 h
      exact Nat.le_add_right _ _
    · split at h
      · have := pathsF_len l f _ _ _ _ _ p h; omega
      · split at h
        · have := pathsF_len l f _ _ _ _ _ p h; omega
        · split at h
          · rcases List.mem_append.1 h with h | h
            · have := pathsF_len l f _ _ _ _ _ p h
              rw [List.length_append, List.length_singleton] at this; omega
            · have := pathsF_len l f _ _ _ _ _ p h
              rw [List.length_append, List.length_singleton] at this; omega
          · have := pathsF_len l f _ _ _ _ _ p h; omega
theorem pathsI_okT {l : List Ins} (hok : okL l) : ∀ p ∈ pathsI l, ∀ t ∈ p.tests, t.okT := pathsF_okT hok l.length 0 0 0 [] 0 (by decide) (by decide) (fun t h => by cases h)
theorem Tst.okT.z {t : Tst} (h : t.okT) : (toZ t).ok := by
  obtain ⟨h1, h2, h3, h4⟩ := h
  exact ⟨⟨by show (-9223372036854775808 : Int) ≤ (t.at' : Int); omega, by show (t.at' : Int) ≤ 9223372036854775807; omega⟩, h2, ⟨by show (-9223372036854775808 : Int) ≤ (t.kind : Int); omega, by show (t.kind : Int) ≤ 9223372036854775807; omega⟩, h4⟩
theorem one_toZ (b : List Nat) (t : Tst) : oneT b (toZ t) = oneP b t := by
  unfold oneT oneP
  have hd : decide (0 ≤ (toZ t).at' ∧ (toZ t).at' ≤ 60 ∧ 25 ≤ (toZ t).kind ∧ (toZ t).kind ≤ 28) = decide (t.at' ≤ 60 ∧ 25 ≤ t.kind ∧ t.kind ≤ 28) := by
    refine decide_eq_decide.2 ?_
    show (0 : Int) ≤ (t.at' : Int) ∧ (t.at' : Int) ≤ 60 ∧ (25 : Int) ≤ (t.kind : Int) ∧ (t.kind : Int) ≤ 28 ↔ _
    omega
  rw [hd]
  by_cases h : t.at' ≤ 60 ∧ 25 ≤ t.kind ∧ t.kind ≤ 28
  · rw [decide_eq_true h]
    show (isZ (toZ t) (wordL b t.at') == t.is) = _
    congr 1
    unfold isZ
    obtain ⟨h1, h2, h3⟩ := h
    have : t.kind = 25 ∨ t.kind = 26 ∨ t.kind = 27 ∨ t.kind = 28 := by omega
    rcases this with e | e | e | e
    all_goals
      rw [e, show (toZ t).kind = (t.kind : Int) from rfl, e]
      rfl
  · rw [decide_eq_false h]; rfl
theorem taken_toZ {b : List Nat} (hbl : b.length = 64) (ts : List Tst) : takenZ (ts.map toZ) b = ts.all (oneP b) := by
  unfold takenZ
  rw [decide_eq_true hbl, List.all_map]
  show ts.all (oneT b ∘ toZ) = _
  congr 1
  funext t
  exact one_toZ b t
theorem le_toZ (ts : List Tst) : AVle (tsts ts) (tzs (ts.map toZ)) := by
  unfold tsts tzs slOf
  rw [List.length_map]
  refine AVle.sl_fun fun k hk => ?_
  show tstA (ts.getD k tst0) = tzA ((ts.map toZ).getD k tz0)
  have : (ts.map toZ).getD k tz0 = toZ (ts.getD k tst0) := by simp [List.getD, hk]
  rw [this]; rfl
theorem takenP_spec (p : Pth) (b : List Nat) (hts : ∀ t ∈ p.tests, t.okT) (hl : p.tests.length ≤ 1000000) (hb : okB b) (hbl : b.length = 64) : Tells Try.prog 31 [pthA p, bytesA b] (boolA (p.tests.all (oneP b))) := by
  have h := taken_spec (p.tests.map toZ) p.steps p.value b (by intro t ht; obtain ⟨u, hu, rfl⟩ := List.mem_map.1 ht; exact (hts u hu).z) (by simpa using hl) hb (by omega)
  rw [taken_toZ hbl] at h
  exact Tells.args (bs := [.ag [tzs (p.tests.map toZ), int p.steps, u32 p.value], bytesA b]) ⟨AVle.ags (cs := [_, _, _]) ⟨le_toZ _, AVle.refl _, AVle.refl _, trivial⟩, AVle.refl _, trivial⟩ h
theorem filter_take {α : Type} {p : α → Bool} {l : List α} {i : Nat} (d : α) (hi : i < l.length) : ((l.take (i + 1)).filter p).length = ((l.take i).filter p).length + (if p (l.getD i d) then 1 else 0) := by
  rw [take_getD d hi, List.filter_append, List.length_append, List.filter_cons]
  split <;> rfl
theorem noid_bool (c : Bool) : NoId (boolA c) := NoId.v _
set_option maxHeartbeats 1000000 in
theorem pathsone_spec (l : List Ins) (hok : okL l) (hl : l.length ≤ maxLen) (b : List Nat) (hb : okB b) (hbl : b.length = 64) : PCall Try.prog 15 [inss l, b64A b] (fun r => r = .v (.bool true)) := by
  refine pcall_of_aw Try.func15 rfl rfl fun nx => ?_
  (repeat ((conv => whnf); first | refine aw_seq ?_ | refine aw_block ?_ | refine aw_skip ?_ | refine aw_true rfl ?_ | refine aw_false rfl ?_ | refine aw_exit ?_ | refine aw_label ?_ | refine aw_ret ?_ | refine And.intro rfl ?_ | refine And.intro trivial ?_ | refine And.intro (And.intro rfl (Nat.le_of_ble_eq_true rfl)) ?_ | refine And.intro (And.intro (by kernel_rfl) (by kernel_rfl)) ?_ | refine And.intro (by decide) ?_ | refine lit_true ?_ | refine lit_false ?_))
  refine aw_regionX 1 ?_
  refine aop_boxK rfl ?_ ?_
  · rfl
  (repeat ((conv => whnf); first | refine aw_seq ?_ | refine aw_block ?_ | refine aw_skip ?_ | refine aw_true rfl ?_ | refine aw_false rfl ?_ | refine aw_exit ?_ | refine aw_label ?_ | refine aw_ret ?_ | refine And.intro rfl ?_ | refine And.intro trivial ?_ | refine And.intro (And.intro rfl (Nat.le_of_ble_eq_true rfl)) ?_ | refine And.intro (And.intro (by kernel_rfl) (by kernel_rfl)) ?_ | refine And.intro (by decide) ?_ | refine lit_true ?_ | refine lit_false ?_))
  refine AW.le (ele_freeze (bx := []) (pm := []) (nn := 1) (L := [(0, inss l), (3, rp64 b), (4, boolA false)]) [((0, nx), .c (b.map fun k : Nat => u8 k))] rfl rfl (List.Sublist.refl _) .slnil ⟨Frz.refl _, Frz.bp (List.mem_cons_self ..) rfl, Frz.refl _, trivial⟩) ?_
  (repeat ((conv => whnf); first | refine aw_seq ?_ | refine aw_region ?_ | refine aw_block ?_ | refine aw_skip ?_ | refine aw_true rfl ?_ | refine aw_false rfl ?_ | refine aw_exit ?_ | refine aw_label ?_ | refine aw_ret ?_ | refine And.intro rfl ?_ | refine And.intro trivial ?_ | refine And.intro (And.intro rfl (Nat.le_of_ble_eq_true rfl)) ?_ | refine And.intro (And.intro (by kernel_rfl) (by kernel_rfl)) ?_ | refine And.intro (by decide) ?_ | refine lit_true ?_ | refine lit_false ?_))
  intro c h1; cases c
  · have h1 := not_of h1
    have hl2 : l.length ≤ 40 := by omega
    (repeat ((conv => whnf); first | refine aw_seq ?_ | refine aw_region ?_ | refine aw_block ?_ | refine aw_skip ?_ | refine aw_true rfl ?_ | refine aw_false rfl ?_ | refine aw_exit ?_ | refine aw_label ?_ | refine aw_ret ?_ | refine And.intro rfl ?_ | refine And.intro trivial ?_ | refine And.intro (And.intro rfl (Nat.le_of_ble_eq_true rfl)) ?_ | refine And.intro (And.intro (by kernel_rfl) (by kernel_rfl)) ?_ | refine And.intro (by decide) ?_ | refine lit_true ?_ | refine lit_false ?_))
    refine aop_tells rfl rfl (all27_spec l (by omega)) ⟨AVle.refl _, trivial⟩ fun nx1 => ?_
    (repeat ((conv => whnf); first | refine aw_seq ?_ | refine aw_region ?_ | refine aw_block ?_ | refine aw_skip ?_ | refine aw_true rfl ?_ | refine aw_false rfl ?_ | refine aw_exit ?_ | refine aw_label ?_ | refine aw_ret ?_ | refine And.intro rfl ?_ | refine And.intro trivial ?_ | refine And.intro (And.intro rfl (Nat.le_of_ble_eq_true rfl)) ?_ | refine And.intro (And.intro (by kernel_rfl) (by kernel_rfl)) ?_ | refine And.intro (by decide) ?_ | refine lit_true ?_ | refine lit_false ?_))
    have hall := all_paths_spec l hok (by omega)
    generalize hA : allP l = A at hall
    obtain ⟨ps, e⟩ := A
    dsimp only at hall
    refine aop_tells rfl rfl hall ⟨AVle.refl _, trivial⟩ fun nx2 => ?_
    (repeat ((conv => whnf); first | refine aw_seq ?_ | refine aw_region ?_ | refine aw_block ?_ | refine aw_skip ?_ | refine aw_true rfl ?_ | refine aw_false rfl ?_ | refine aw_exit ?_ | refine aw_label ?_ | refine aw_ret ?_ | refine And.intro rfl ?_ | refine And.intro trivial ?_ | refine And.intro (And.intro rfl (Nat.le_of_ble_eq_true rfl)) ?_ | refine And.intro (And.intro (by kernel_rfl) (by kernel_rfl)) ?_ | refine And.intro (by decide) ?_ | refine lit_true ?_ | refine lit_false ?_))
    intro c h2; cases c
    · have h2 : e = 0 := by have := bne_no h2; omega
      subst h2
      obtain ⟨hp, hpl, rfl⟩ : Plain l ∧ ps.length ≤ 4096 ∧ pathsI l = ps := by
        unfold allP at hA
        split at hA
        · rename_i hpl
          split at hA
          · rename_i hq
            have := congrArg Prod.fst hA
            dsimp only at this
            exact ⟨plainB_iff.1 hpl, by rw [← this]; exact hq, this⟩
          · cases hA
        · cases hA
      have hvm := vmrun_spec l hok (by omega) b hb (by omega)
      have hvi : vmI l b = (0, runI b l) := by
        unfold vmI
        rw [if_neg (by rw [hp.1]; simp), if_neg (by omega), if_neg (by omega)]
      rw [hvi] at hvm
      obtain ⟨ts', hone⟩ := paths_one hb hp
      have hT := pathsI_okT hok
      have hTl : ∀ p ∈ pathsI l, p.tests.length ≤ l.length := fun p h => by
        have := pathsF_len l l.length 0 0 0 [] 0 p h
        simpa using this
      generalize pathsI l = ps at *
      generalize runI b l = rb at *
      obtain ⟨v, s⟩ := rb
      dsimp only at hone hvm
      (repeat ((conv => whnf); first | refine aw_seq ?_ | refine aw_block ?_ | refine aw_skip ?_ | refine aw_true rfl ?_ | refine aw_false rfl ?_ | refine aw_exit ?_ | refine aw_label ?_ | refine aw_ret ?_ | refine And.intro rfl ?_ | refine And.intro trivial ?_ | refine And.intro (And.intro rfl (Nat.le_of_ble_eq_true rfl)) ?_ | refine And.intro (And.intro (by kernel_rfl) (by kernel_rfl)) ?_ | refine And.intro (by decide) ?_ | refine lit_true ?_ | refine lit_false ?_))
      refine aw_reset (n := 78) (bx := []) (pm := []) (nx := nx2) (nn := 0) (df := some []) (L := [(3, rp64 b), (4, boolA false), (5, inss l), (6, pths ps)]) rfl rfl rfl (List.Sublist.refl _) .slnil ⟨AVle.refl _, AVle.refl _, AVle.refl _, AVle.refl _, trivial⟩ ?_
      refine aw_regionY (fun i => match i with | 1 => true | _ => false) 3 ?_
      (repeat ((conv => whnf); first | refine aw_seq ?_ | refine aw_region ?_ | refine aw_block ?_ | refine aw_skip ?_ | refine aw_true rfl ?_ | refine aw_false rfl ?_ | refine aw_exit ?_ | refine aw_label ?_ | refine aw_ret ?_ | refine And.intro rfl ?_ | refine And.intro trivial ?_ | refine And.intro (And.intro rfl (Nat.le_of_ble_eq_true rfl)) ?_ | refine And.intro (And.intro (by kernel_rfl) (by kernel_rfl)) ?_ | refine And.intro (by decide) ?_ | refine lit_true ?_ | refine lit_false ?_))
      refine aop_arr (n := 64) (e := 5) rfl rfl rfl Try.underlying77 Try.underlying5 rfl (by kernel_rfl) hbl (fun _ => rfl) ?_
      (repeat ((conv => whnf); first | refine aw_seq ?_ | refine aw_region ?_ | refine aw_block ?_ | refine aw_skip ?_ | refine aw_true rfl ?_ | refine aw_false rfl ?_ | refine aw_exit ?_ | refine aw_label ?_ | refine aw_ret ?_ | refine And.intro rfl ?_ | refine And.intro trivial ?_ | refine And.intro (And.intro rfl (Nat.le_of_ble_eq_true rfl)) ?_ | refine And.intro (And.intro (by kernel_rfl) (by kernel_rfl)) ?_ | refine And.intro (by decide) ?_ | refine lit_true ?_ | refine lit_false ?_))
      refine aop_tells rfl rfl hvm ⟨AVle.refl _, AVle.refl _, trivial⟩ fun nx4 => ?_
      (repeat ((conv => whnf); first | refine aw_seq ?_ | refine aw_region ?_ | refine aw_block ?_ | refine aw_skip ?_ | refine aw_true rfl ?_ | refine aw_false rfl ?_ | refine aw_exit ?_ | refine aw_label ?_ | refine aw_ret ?_ | refine And.intro rfl ?_ | refine And.intro trivial ?_ | refine And.intro (And.intro rfl (Nat.le_of_ble_eq_true rfl)) ?_ | refine And.intro (And.intro (by kernel_rfl) (by kernel_rfl)) ?_ | refine And.intro (by decide) ?_ | refine lit_true ?_ | refine lit_false ?_))
      refine aw_loop (fun y : Nat × Nat => mk 78 [(3, rp64 b), (4, boolA false), (6, pths ps), (8, .bp (0, nx4) 0), (9, int 0), (10, int ((ps.take y.1).filter fun p => p.tests.all (oneP b)).length), (11, int y.1)] ⟨[((0, nx4), .c [u32 v, int s.steps, ints s.loads])], [], y.2, 1⟩) (fun y => y.1 ≤ ps.length) (fun y => ps.length - y.1) ?_ ?_
      · exact ⟨(0, nx4 + 1), Nat.zero_le _, ele_keep rfl rfl (List.Sublist.refl _) .slnil ⟨AVle.refl _, AVle.refl _, AVle.refl _, AVle.refl _, AVle.refl _, AVle.refl _, AVle.refl _, trivial⟩⟩
      · rintro ⟨i, nx6⟩ g1
        dsimp only at g1
        (repeat ((conv => whnf); first | refine aw_seq ?_ | refine aw_region ?_ | refine aw_block ?_ | refine aw_skip ?_ | refine aw_true rfl ?_ | refine aw_false rfl ?_ | refine aw_exit ?_ | refine aw_label ?_ | refine aw_ret ?_ | refine And.intro rfl ?_ | refine And.intro trivial ?_ | refine And.intro (And.intro rfl (Nat.le_of_ble_eq_true rfl)) ?_ | refine And.intro (And.intro (by kernel_rfl) (by kernel_rfl)) ?_ | refine And.intro (by decide) ?_ | refine lit_true ?_ | refine lit_false ?_))
        intro c g2; cases c
        · have g2 := not_of g2
          dsimp only at g2
          (repeat ((conv => whnf); first | refine aw_seq ?_ | refine aw_region ?_ | refine aw_block ?_ | refine aw_skip ?_ | refine aw_true rfl ?_ | refine aw_false rfl ?_ | refine aw_exit ?_ | refine aw_label ?_ | refine aw_ret ?_ | refine And.intro rfl ?_ | refine And.intro trivial ?_ | refine And.intro (And.intro rfl (Nat.le_of_ble_eq_true rfl)) ?_ | refine And.intro (And.intro (by kernel_rfl) (by kernel_rfl)) ?_ | refine And.intro (by decide) ?_ | refine lit_true ?_ | refine lit_false ?_))
          intro c hc
          obtain rfl : c = true := hc.trans (by
            rw [List.take_of_length_le (by omega), hone]; rfl)
          (repeat ((conv => whnf); first | refine aw_seq ?_ | refine aw_region ?_ | refine aw_block ?_ | refine aw_skip ?_ | refine aw_true rfl ?_ | refine aw_false rfl ?_ | refine aw_exit ?_ | refine aw_label ?_ | refine aw_ret ?_ | refine And.intro rfl ?_ | refine And.intro trivial ?_ | refine And.intro (And.intro rfl (Nat.le_of_ble_eq_true rfl)) ?_ | refine And.intro (And.intro (by kernel_rfl) (by kernel_rfl)) ?_ | refine And.intro (by decide) ?_ | refine lit_true ?_ | refine lit_false ?_))
          refine aop_tells rfl rfl paths27_awake trivial fun nx9 => ?_
          (repeat ((conv => whnf); first | refine aw_seq ?_ | refine aw_region ?_ | refine aw_block ?_ | refine aw_skip ?_ | refine aw_true rfl ?_ | refine aw_false rfl ?_ | refine aw_exit ?_ | refine aw_label ?_ | refine aw_ret ?_ | refine And.intro rfl ?_ | refine And.intro trivial ?_ | refine And.intro (And.intro rfl (Nat.le_of_ble_eq_true rfl)) ?_ | refine And.intro (And.intro (by kernel_rfl) (by kernel_rfl)) ?_ | refine And.intro (by decide) ?_ | refine lit_true ?_ | refine lit_false ?_))
          refine ret_is rfl rfl
        · have g2 := yes_of g2
          dsimp only at g2
          have hi : i < ps.length := by omega
          have hm : ps.getD i pth0 ∈ ps := by simp [List.getD, hi]
          have htk := takenP_spec (ps.getD i pth0) b (hT _ hm) (by have := hTl _ hm; omega) hb hbl
          have hft := filter_take (p := fun p : Pth => p.tests.all (oneP b)) pth0 hi
          have hin : (ps.getD i pth0).tests.all (oneP b) = true → (ps.getD i pth0).value = v ∧ (ps.getD i pth0).steps = s.steps := fun h => by
            have : ps.getD i pth0 ∈ ps.filter fun p => p.tests.all (oneP b) := List.mem_filter.2 ⟨hm, h⟩
            rw [hone, List.mem_singleton] at this
            rw [this]; exact ⟨rfl, rfl⟩
          cases hx : (ps.getD i pth0).tests.all (oneP b)
          · rw [hx] at htk hft
            (repeat ((conv => whnf); first | refine aw_seq ?_ | refine aw_region ?_ | refine aw_block ?_ | refine aw_skip ?_ | refine aw_true rfl ?_ | refine aw_false rfl ?_ | refine aw_exit ?_ | refine aw_label ?_ | refine aw_ret ?_ | refine And.intro rfl ?_ | refine And.intro trivial ?_ | refine And.intro (And.intro rfl (Nat.le_of_ble_eq_true rfl)) ?_ | refine And.intro (And.intro (by kernel_rfl) (by kernel_rfl)) ?_ | refine And.intro (by decide) ?_ | refine lit_true ?_ | refine lit_false ?_))
            refine aw_mixN 7 [] (fun _ => false) (fun i => match i with | 4 => true | _ => false) [0, 1, 2, 3, 4, 5, 6] (by kernel_rfl) (by kernel_rfl) HB0 ?_
            (repeat ((conv => whnf); first | refine aw_seq ?_ | refine aw_region ?_ | refine aw_block ?_ | refine aw_skip ?_ | refine aw_true rfl ?_ | refine aw_false rfl ?_ | refine aw_exit ?_ | refine aw_label ?_ | refine aw_ret ?_ | refine And.intro rfl ?_ | refine And.intro trivial ?_ | refine And.intro (And.intro rfl (Nat.le_of_ble_eq_true rfl)) ?_ | refine And.intro (And.intro (by kernel_rfl) (by kernel_rfl)) ?_ | refine And.intro (by decide) ?_ | refine lit_true ?_ | refine lit_false ?_))
            refine ⟨⟨by first | omega | (dsimp only; omega), by first | omega | (dsimp only; omega)⟩, ?_⟩
            (repeat ((conv => whnf); first | refine aw_seq ?_ | refine aw_region ?_ | refine aw_block ?_ | refine aw_skip ?_ | refine aw_true rfl ?_ | refine aw_false rfl ?_ | refine aw_exit ?_ | refine aw_label ?_ | refine aw_ret ?_ | refine And.intro rfl ?_ | refine And.intro trivial ?_ | refine And.intro (And.intro rfl (Nat.le_of_ble_eq_true rfl)) ?_ | refine And.intro (And.intro (by kernel_rfl) (by kernel_rfl)) ?_ | refine And.intro (by decide) ?_ | refine lit_true ?_ | refine lit_false ?_))
            refine ⟨_, pure_arr (n := 64) (e := 5) rfl rfl rfl Try.underlying77 Try.underlying5 rfl (by kernel_rfl) hbl (fun _ => rfl), ?_⟩
            (repeat ((conv => whnf); first | refine aw_seq ?_ | refine aw_region ?_ | refine aw_block ?_ | refine aw_skip ?_ | refine aw_true rfl ?_ | refine aw_false rfl ?_ | refine aw_exit ?_ | refine aw_label ?_ | refine aw_ret ?_ | refine And.intro rfl ?_ | refine And.intro trivial ?_ | refine And.intro (And.intro rfl (Nat.le_of_ble_eq_true rfl)) ?_ | refine And.intro (And.intro (by kernel_rfl) (by kernel_rfl)) ?_ | refine And.intro (by decide) ?_ | refine lit_true ?_ | refine lit_false ?_))
            refine ⟨_, pure_tells rfl rfl rfl htk ⟨AVle.refl _, AVle.refl _, trivial⟩ (noid_bool _), ?_⟩
            (repeat ((conv => whnf); first | refine aw_seq ?_ | refine aw_region ?_ | refine aw_block ?_ | refine aw_skip ?_ | refine aw_true rfl ?_ | refine aw_false rfl ?_ | refine aw_exit ?_ | refine aw_label ?_ | refine aw_ret ?_ | refine And.intro rfl ?_ | refine And.intro trivial ?_ | refine And.intro (And.intro rfl (Nat.le_of_ble_eq_true rfl)) ?_ | refine And.intro (And.intro (by kernel_rfl) (by kernel_rfl)) ?_ | refine And.intro (by decide) ?_ | refine lit_true ?_ | refine lit_false ?_))
            exact back (i + 1, _) (by dsimp only; omega) (by dsimp only; omega) (ele_keep rfl rfl (List.Sublist.refl _) .slnil ⟨AVle.refl _, AVle.refl _, AVle.refl _, AVle.refl _, AVle.refl _, le_int (by rw [hft]; rfl), le_int (wrap_succ (by dsimp only; omega)), trivial⟩)
          · rw [hx] at htk hft
            obtain ⟨hin1, hin2⟩ := hin hx
            have hcn : ((ps.take i).filter fun p => p.tests.all (oneP b)).length ≤ ps.length := Nat.le_trans (List.length_filter_le _ _) (by rw [List.length_take]; omega)
            (repeat ((conv => whnf); first | refine aw_seq ?_ | refine aw_region ?_ | refine aw_block ?_ | refine aw_skip ?_ | refine aw_true rfl ?_ | refine aw_false rfl ?_ | refine aw_exit ?_ | refine aw_label ?_ | refine aw_ret ?_ | refine And.intro rfl ?_ | refine And.intro trivial ?_ | refine And.intro (And.intro rfl (Nat.le_of_ble_eq_true rfl)) ?_ | refine And.intro (And.intro (by kernel_rfl) (by kernel_rfl)) ?_ | refine And.intro (by decide) ?_ | refine lit_true ?_ | refine lit_false ?_))
            refine aw_mixN 7 [] (fun _ => false) (fun i => match i with | 4 => true | _ => false) [0, 1, 2, 3, 4, 5, 6] (by kernel_rfl) (by kernel_rfl) HB0 ?_
            (repeat ((conv => whnf); first | refine aw_seq ?_ | refine aw_region ?_ | refine aw_block ?_ | refine aw_skip ?_ | refine aw_true rfl ?_ | refine aw_false rfl ?_ | refine aw_exit ?_ | refine aw_label ?_ | refine aw_ret ?_ | refine And.intro rfl ?_ | refine And.intro trivial ?_ | refine And.intro (And.intro rfl (Nat.le_of_ble_eq_true rfl)) ?_ | refine And.intro (And.intro (by kernel_rfl) (by kernel_rfl)) ?_ | refine And.intro (by decide) ?_ | refine lit_true ?_ | refine lit_false ?_))
            refine ⟨⟨by first | omega | (dsimp only; omega), by first | omega | (dsimp only; omega)⟩, ?_⟩
            (repeat ((conv => whnf); first | refine aw_seq ?_ | refine aw_region ?_ | refine aw_block ?_ | refine aw_skip ?_ | refine aw_true rfl ?_ | refine aw_false rfl ?_ | refine aw_exit ?_ | refine aw_label ?_ | refine aw_ret ?_ | refine And.intro rfl ?_ | refine And.intro trivial ?_ | refine And.intro (And.intro rfl (Nat.le_of_ble_eq_true rfl)) ?_ | refine And.intro (And.intro (by kernel_rfl) (by kernel_rfl)) ?_ | refine And.intro (by decide) ?_ | refine lit_true ?_ | refine lit_false ?_))
            refine ⟨_, pure_arr (n := 64) (e := 5) rfl rfl rfl Try.underlying77 Try.underlying5 rfl (by kernel_rfl) hbl (fun _ => rfl), ?_⟩
            (repeat ((conv => whnf); first | refine aw_seq ?_ | refine aw_region ?_ | refine aw_block ?_ | refine aw_skip ?_ | refine aw_true rfl ?_ | refine aw_false rfl ?_ | refine aw_exit ?_ | refine aw_label ?_ | refine aw_ret ?_ | refine And.intro rfl ?_ | refine And.intro trivial ?_ | refine And.intro (And.intro rfl (Nat.le_of_ble_eq_true rfl)) ?_ | refine And.intro (And.intro (by kernel_rfl) (by kernel_rfl)) ?_ | refine And.intro (by decide) ?_ | refine lit_true ?_ | refine lit_false ?_))
            refine ⟨_, pure_tells rfl rfl rfl htk ⟨AVle.refl _, AVle.refl _, trivial⟩ (noid_bool _), ?_⟩
            (repeat ((conv => whnf); first | refine aw_seq ?_ | refine aw_region ?_ | refine aw_block ?_ | refine aw_skip ?_ | refine aw_true rfl ?_ | refine aw_false rfl ?_ | refine aw_exit ?_ | refine aw_label ?_ | refine aw_ret ?_ | refine And.intro rfl ?_ | refine And.intro trivial ?_ | refine And.intro (And.intro rfl (Nat.le_of_ble_eq_true rfl)) ?_ | refine And.intro (And.intro (by kernel_rfl) (by kernel_rfl)) ?_ | refine And.intro (by decide) ?_ | refine lit_true ?_ | refine lit_false ?_))
            (refine aw_draw 18 ?_ ?_ ?_ ?_; (· kernel_rfl); (· kernel_rfl); (· kernel_rfl))
            (repeat ((conv => whnf); first | refine aw_seq ?_ | refine aw_region ?_ | refine aw_block ?_ | refine aw_skip ?_ | refine aw_true rfl ?_ | refine aw_false rfl ?_ | refine aw_exit ?_ | refine aw_label ?_ | refine aw_ret ?_ | refine And.intro rfl ?_ | refine And.intro trivial ?_ | refine And.intro (And.intro rfl (Nat.le_of_ble_eq_true rfl)) ?_ | refine And.intro (And.intro (by kernel_rfl) (by kernel_rfl)) ?_ | refine And.intro (by decide) ?_ | refine lit_true ?_ | refine lit_false ?_))
            refine ⟨⟨by first | omega | (dsimp only; omega), by first | omega | (dsimp only; omega)⟩, ?_⟩
            (repeat ((conv => whnf); first | refine aw_seq ?_ | refine aw_region ?_ | refine aw_block ?_ | refine aw_skip ?_ | refine aw_true rfl ?_ | refine aw_false rfl ?_ | refine aw_exit ?_ | refine aw_label ?_ | refine aw_ret ?_ | refine And.intro rfl ?_ | refine And.intro trivial ?_ | refine And.intro (And.intro rfl (Nat.le_of_ble_eq_true rfl)) ?_ | refine And.intro (And.intro (by kernel_rfl) (by kernel_rfl)) ?_ | refine And.intro (by decide) ?_ | refine lit_true ?_ | refine lit_false ?_))
            intro c hc
            obtain rfl : c = false := hc.trans (show (((ps.getD i pth0).value : Int) != (v : Int)) = false by rw [hin1]; exact bne_self_eq_false _)
            (repeat ((conv => whnf); first | refine aw_seq ?_ | refine aw_region ?_ | refine aw_block ?_ | refine aw_skip ?_ | refine aw_true rfl ?_ | refine aw_false rfl ?_ | refine aw_exit ?_ | refine aw_label ?_ | refine aw_ret ?_ | refine And.intro rfl ?_ | refine And.intro trivial ?_ | refine And.intro (And.intro rfl (Nat.le_of_ble_eq_true rfl)) ?_ | refine And.intro (And.intro (by kernel_rfl) (by kernel_rfl)) ?_ | refine And.intro (by decide) ?_ | refine lit_true ?_ | refine lit_false ?_))
            refine ⟨⟨by first | omega | (dsimp only; omega), by first | omega | (dsimp only; omega)⟩, ?_⟩
            (repeat ((conv => whnf); first | refine aw_seq ?_ | refine aw_region ?_ | refine aw_block ?_ | refine aw_skip ?_ | refine aw_true rfl ?_ | refine aw_false rfl ?_ | refine aw_exit ?_ | refine aw_label ?_ | refine aw_ret ?_ | refine And.intro rfl ?_ | refine And.intro trivial ?_ | refine And.intro (And.intro rfl (Nat.le_of_ble_eq_true rfl)) ?_ | refine And.intro (And.intro (by kernel_rfl) (by kernel_rfl)) ?_ | refine And.intro (by decide) ?_ | refine lit_true ?_ | refine lit_false ?_))
            intro c hc
            obtain rfl : c = false := hc.trans (show (((ps.getD i pth0).steps : Int) != (s.steps : Int)) = false by rw [hin2]; exact bne_self_eq_false _)
            (repeat ((conv => whnf); first | refine aw_seq ?_ | refine aw_region ?_ | refine aw_block ?_ | refine aw_skip ?_ | refine aw_true rfl ?_ | refine aw_false rfl ?_ | refine aw_exit ?_ | refine aw_label ?_ | refine aw_ret ?_ | refine And.intro rfl ?_ | refine And.intro trivial ?_ | refine And.intro (And.intro rfl (Nat.le_of_ble_eq_true rfl)) ?_ | refine And.intro (And.intro (by kernel_rfl) (by kernel_rfl)) ?_ | refine And.intro (by decide) ?_ | refine lit_true ?_ | refine lit_false ?_))
            exact back (i + 1, _) (by dsimp only; omega) (by dsimp only; omega) (ele_keep rfl rfl (List.Sublist.refl _) .slnil ⟨AVle.refl _, AVle.refl _, AVle.refl _, AVle.refl _, AVle.refl _, le_int (by rw [hft]; exact wrap_succ (by dsimp only; omega)), le_int (wrap_succ (by dsimp only; omega)), trivial⟩)
    · have h2 : e ≠ 0 := by have := bne_yes h2; omega
      obtain rfl : ps = [] := by
        unfold allP at hA
        split at hA
        · split at hA
          · exact absurd (congrArg Prod.snd hA).symm h2
          · exact (congrArg Prod.fst hA).symm
        · exact (congrArg Prod.fst hA).symm
      (repeat ((conv => whnf); first | refine aw_seq ?_ | refine aw_region ?_ | refine aw_block ?_ | refine aw_skip ?_ | refine aw_true rfl ?_ | refine aw_false rfl ?_ | refine aw_exit ?_ | refine aw_label ?_ | refine aw_ret ?_ | refine And.intro rfl ?_ | refine And.intro trivial ?_ | refine And.intro (And.intro rfl (Nat.le_of_ble_eq_true rfl)) ?_ | refine And.intro (And.intro (by kernel_rfl) (by kernel_rfl)) ?_ | refine And.intro (by decide) ?_ | refine lit_true ?_ | refine lit_false ?_))
      refine aop_tells rfl rfl paths27_awake trivial fun nx9 => ?_
      (repeat ((conv => whnf); first | refine aw_seq ?_ | refine aw_region ?_ | refine aw_block ?_ | refine aw_skip ?_ | refine aw_true rfl ?_ | refine aw_false rfl ?_ | refine aw_exit ?_ | refine aw_label ?_ | refine aw_ret ?_ | refine And.intro rfl ?_ | refine And.intro trivial ?_ | refine And.intro (And.intro rfl (Nat.le_of_ble_eq_true rfl)) ?_ | refine And.intro (And.intro (by kernel_rfl) (by kernel_rfl)) ?_ | refine And.intro (by decide) ?_ | refine lit_true ?_ | refine lit_false ?_))
      refine ret_is rfl rfl
  · (repeat ((conv => whnf); first | refine aw_seq ?_ | refine aw_region ?_ | refine aw_block ?_ | refine aw_skip ?_ | refine aw_true rfl ?_ | refine aw_false rfl ?_ | refine aw_exit ?_ | refine aw_label ?_ | refine aw_ret ?_ | refine And.intro rfl ?_ | refine And.intro trivial ?_ | refine And.intro (And.intro rfl (Nat.le_of_ble_eq_true rfl)) ?_ | refine And.intro (And.intro (by kernel_rfl) (by kernel_rfl)) ?_ | refine And.intro (by decide) ?_ | refine lit_true ?_ | refine lit_false ?_))
    refine ret_is rfl rfl
end Go.Proofs.W

namespace Go.Proofs.W
open Go.Vl
set_option maxRecDepth 100000

/-- A row of branches each of which doubles the ways. -/
def dblP (k : Nat) : List Ins := ⟨32, 0, 0, 0⟩ :: (List.range k).map fun i => ⟨69, 0, 0, 2 ^ i⟩
def dbl (k : Nat) : List Ins := dblP k ++ [⟨6, 0, 0, 0⟩]
theorem dblP_len (k : Nat) : (dblP k).length = k + 1 := by simp [dblP]
theorem dblP_succ (k : Nat) : dblP (k + 1) = dblP k ++ [⟨69, 0, 0, 2 ^ k⟩] := by simp [dblP, List.range_succ]
theorem dbl_len (k : Nat) : (dbl k).length = k + 2 := by simp [dbl, dblP_len]
theorem dbl_formed : ∀ k, k < 15 → (formedI (dbl k)).2 = 0 ∧ ∀ n, n < (dbl k).length → okP (dbl k) n ∧ kind (dbl k) n ≠ 3 ∧ kind (dbl k) n ≠ 6 := by decide +kernel
theorem dbl_plain {k : Nat} (hk : k < 15) : Plain (dbl k) := by
  obtain ⟨h1, h2⟩ := dbl_formed k hk
  exact ⟨check_iff.2 ⟨formed_of h1, fun n hn h => by have := (h2 n hn).2; omega⟩, fun n hn => (h2 n hn).1⟩
theorem dbl_ok (k : Nat) (hk : k < 15) : okL (dbl k) := by
  intro i hi
  simp only [dbl, dblP, List.mem_append, List.mem_cons, List.mem_map, List.mem_range, List.not_mem_nil, or_false] at hi
  rcases hi with (rfl | ⟨j, hj, rfl⟩) | rfl
  · exact ⟨by decide, by decide, by decide, by decide⟩
  · exact ⟨by show 69 < 65536; decide, by show 0 < 256; decide, by show 0 < 256; decide, by show 2 ^ j < 2 ^ 32; exact Nat.pow_lt_pow_right (by decide) (by omega)⟩
  · exact ⟨by decide, by decide, by decide, by decide⟩
theorem dbl_kind {k : Nat} (hk : k < 15) : ∀ n, n < k + 2 → kind (dbl k) n = (if n = 0 then 1 else if n = k + 1 then 14 else 28) ∧ (n ≠ 0 → n ≠ k + 1 → ((dbl k).getD n ins0).jt = 0 ∧ ((dbl k).getD n ins0).jf = 0) := by
  revert k
  have h : ∀ k, k < 15 → ∀ n, n < k + 2 → kind (dbl k) n = (if n = 0 then 1 else if n = k + 1 then 14 else 28) ∧ (n ≠ 0 → n ≠ k + 1 → ((dbl k).getD n ins0).jt = 0 ∧ ((dbl k).getD n ins0).jf = 0) := by decide +kernel
  exact fun {k} hk => h k hk
theorem dbl_cnt {k : Nat} (hk : k < 15) : ∀ d f, d ≤ k → d < f → cntF (dbl k) f (k + 1 - d) = 2 ^ d
  | 0, 0, _, h => by omega
  | 0, f + 1, _, _ => by
    have := (dbl_kind hk (k + 1) (by omega)).1
    unfold cntF
    rw [if_neg (by omega), if_pos rfl] at this
    rw [show k + 1 - 0 = k + 1 from rfl, this, if_pos rfl]
  | d + 1, 0, _, h => by omega
  | d + 1, f + 1, hd, hf => by
    obtain ⟨h1, h2⟩ := dbl_kind hk (k + 1 - (d + 1)) (by omega)
    rw [if_neg (by omega), if_neg (by omega)] at h1
    obtain ⟨h3, h4⟩ := h2 (by omega) (by omega)
    unfold cntF
    rw [if_neg (by omega), if_neg (by omega), if_pos (by omega), h3, h4, show k + 1 - (d + 1) + 1 + 0 = k + 1 - d by omega, dbl_cnt hk d f (by omega) (by omega), Nat.pow_succ]
    omega
theorem dbl_many {k : Nat} (hk : k < 15) : (pathsI (dbl k)).length = 2 ^ k := by
  unfold pathsI
  rw [pathsF_length, dbl_len]
  have h1 := (dbl_kind hk 0 (by omega)).1
  rw [if_pos rfl] at h1
  unfold cntF
  rw [if_neg (by omega), if_pos (.inl h1)]
  have := dbl_cnt hk k (k + 1) (Nat.le_refl _) (by omega)
  rw [show k + 1 - k = 0 + 1 by omega] at this
  exact this
theorem dbl_all {k : Nat} (hk : k < 15) : (allP (dbl k)).2 = (if k ≤ 12 then 0 else 3) ∧ (allP (dbl k)).1.length = (if k ≤ 12 then 2 ^ k else 0) := by
  unfold allP
  rw [if_pos (plainB_iff.2 (dbl_plain hk)), dbl_many hk]
  by_cases h : k ≤ 12
  · have : 2 ^ k ≤ 2 ^ 12 := Nat.pow_le_pow_right (by decide) h
    rw [if_pos this, if_pos h, if_pos h]
    exact ⟨rfl, dbl_many hk⟩
  · have : 2 ^ 13 ≤ 2 ^ k := Nat.pow_le_pow_right (by decide) (by omega)
    rw [if_neg (by omega), if_neg h, if_neg h]
    exact ⟨rfl, rfl⟩
theorem shl_one {i : Nat} (hi : i < 15) : IntKind.u32.wrap (1 * 2 ^ min (Int.toNat (i : Int)) IntKind.u32.bits) = ((2 ^ i : Nat) : Int) := by
  revert i; decide
theorem shl_int {i : Nat} (hi : i < 15) : IntKind.i64.wrap (1 * 2 ^ min (Int.toNat (i : Int)) IntKind.i64.bits) = ((2 ^ i : Nat) : Int) := by
  revert i; decide
theorem dblP_last (i : Nat) : insA ((dblP (i + 1)).getD (i + 1) ins0) = .ag [u16 69, u8 0, u8 0, u32 (2 ^ i : Nat)] := by
  have : (dblP (i + 1)).getD (i + 1) ins0 = ⟨69, 0, 0, 2 ^ i⟩ := by
    rw [dblP_succ]
    simp [List.getD, List.getElem?_append_right, dblP_len]
  rw [this]; rfl
theorem dblP_low {i j : Nat} (h : j < i + 1) : (dblP (i + 1)).getD j ins0 = (dblP i).getD j ins0 := by
  rw [dblP_succ]
  simp only [List.getD]
  rw [List.getElem?_append_left (by rw [dblP_len]; exact h)]
theorem dbl_last (i : Nat) : insA ((dbl i).getD (i + 1) ins0) = .ag [u16 6, u8 0, u8 0, u32 0] := by
  have : (dbl i).getD (i + 1) ins0 = ⟨6, 0, 0, 0⟩ := by
    unfold dbl
    simp [List.getD, List.getElem?_append_right, dblP_len]
  rw [this]; rfl
theorem dbl_low {i j : Nat} (h : j < i + 1) : (dbl i).getD j ins0 = (dblP i).getD j ins0 := by
  unfold dbl
  simp only [List.getD]
  rw [List.getElem?_append_left (by rw [dblP_len]; exact h)]
theorem pathsmany_spec (n : Nat) (hn : n < 256) : PCall Try.prog 5 [u8 n] (fun r => r = .v (.bool true)) := by
  obtain ⟨k, hk⟩ : ∃ k, n % 15 = k := ⟨_, rfl⟩
  have hk15 : k < 15 := by omega
  have hall := all_paths_spec (dbl k) (dbl_ok k hk15) (by rw [dbl_len]; omega)
  obtain ⟨hA1, hA2⟩ := dbl_all hk15
  generalize allP (dbl k) = A at hall hA1 hA2
  obtain ⟨ps, e⟩ := A
  dsimp only at hall hA1 hA2
  refine pcall_of_aw Try.func5 rfl rfl fun nx => ?_
  (repeat ((conv => whnf); first | refine aw_seq ?_ | refine aw_region ?_ | refine aw_block ?_ | refine aw_skip ?_ | refine aw_true rfl ?_ | refine aw_false rfl ?_ | refine aw_exit ?_ | refine aw_label ?_ | refine aw_ret ?_ | refine And.intro rfl ?_ | refine And.intro trivial ?_ | refine And.intro (And.intro rfl (Nat.le_of_ble_eq_true rfl)) ?_ | refine And.intro (And.intro (by kernel_rfl) (by kernel_rfl)) ?_ | refine And.intro (by decide) ?_ | refine lit_true ?_ | refine lit_false ?_))
  have hw : (IntKind.i64.wrap (n : Int)).tmod 15 = (k : Int) := by
    rw [wrap_id (by omega) (by omega), ← hk]; rfl
  refine aw_loop (fun s : Nat × Option Nat × Nat => mk 57 [(2, boolA false), (3, int k), (4, .os 4 (s.1 + 1) (fun j => insA ((dblP s.1).getD j ins0)) (nmd s.2.1)), (5, int s.1)] ⟨[], pmOf (nmd s.2.1) ((s.1 + 1) * 4), s.2.2, 0⟩) (fun s => s.1 ≤ k ∧ (s.2.1 = none → s.1 = 0)) (fun s => k - s.1) ?_ ?_
  · refine ⟨(0, none, nx), ⟨by simp, fun _ => rfl⟩, ele_mk rfl rfl ⟨AVle.refl _, le_int ?_, ?_, AVle.refl _, trivial⟩⟩
    · exact hw
    · exact AVle.os_fun (allK_use ⟨trivial, rfl⟩)
  · rintro ⟨i, oi, nx2⟩ ⟨h3, h4⟩
    dsimp only at h3 h4
    (repeat ((conv => whnf); first | refine aw_seq ?_ | refine aw_region ?_ | refine aw_block ?_ | refine aw_skip ?_ | refine aw_true rfl ?_ | refine aw_false rfl ?_ | refine aw_exit ?_ | refine aw_label ?_ | refine aw_ret ?_ | refine And.intro rfl ?_ | refine And.intro trivial ?_ | refine And.intro (And.intro rfl (Nat.le_of_ble_eq_true rfl)) ?_ | refine And.intro (And.intro (by kernel_rfl) (by kernel_rfl)) ?_ | refine And.intro (by decide) ?_ | refine lit_true ?_ | refine lit_false ?_))
    intro c h5; cases c
    · have h6 := not_of h5
      dsimp only at h6
      obtain rfl : i = k := by omega
      rcases oi with _ | id
      · obtain rfl := h4 rfl
        (repeat ((conv => whnf); first | refine aw_seq ?_ | refine aw_region ?_ | refine aw_block ?_ | refine aw_skip ?_ | refine aw_true rfl ?_ | refine aw_false rfl ?_ | refine aw_exit ?_ | refine aw_label ?_ | refine aw_ret ?_ | refine And.intro rfl ?_ | refine And.intro trivial ?_ | refine And.intro (And.intro rfl (Nat.le_of_ble_eq_true rfl)) ?_ | refine And.intro (And.intro (by kernel_rfl) (by kernel_rfl)) ?_ | refine And.intro (by decide) ?_ | refine lit_true ?_ | refine lit_false ?_))
        refine ⟨oneRow_one rfl, by show (1 + 1) * 8 ≤ _; omega, by dsimp only; omega, ?_⟩
        (repeat ((conv => whnf); first | refine aw_seq ?_ | refine aw_region ?_ | refine aw_block ?_ | refine aw_skip ?_ | refine aw_true rfl ?_ | refine aw_false rfl ?_ | refine aw_exit ?_ | refine aw_label ?_ | refine aw_ret ?_ | refine And.intro rfl ?_ | refine And.intro trivial ?_ | refine And.intro (And.intro rfl (Nat.le_of_ble_eq_true rfl)) ?_ | refine And.intro (And.intro (by kernel_rfl) (by kernel_rfl)) ?_ | refine And.intro (by decide) ?_ | refine lit_true ?_ | refine lit_false ?_))
        have hA1 : e = 0 := hA1
        have hA2 : ps.length = 1 := hA2
        subst hA1
        refine aop_tells rfl rfl hall ⟨(AVle.os_sl.trans (AVle.sl_fun (appF_one (fun j hj => by rw [← dbl_low hj]) (by rw [dbl_last]; rfl)))).trans (AVle.of_eq (by unfold inss slOf; rw [dbl_len, show Try.prog.cellsOf 51 = 4 by kernel_rfl])), trivial⟩ fun nx3 => ?_
        (repeat ((conv => whnf); first | refine aw_seq ?_ | refine aw_region ?_ | refine aw_block ?_ | refine aw_skip ?_ | refine aw_true rfl ?_ | refine aw_false rfl ?_ | refine aw_exit ?_ | refine aw_label ?_ | refine aw_ret ?_ | refine And.intro rfl ?_ | refine And.intro trivial ?_ | refine And.intro (And.intro rfl (Nat.le_of_ble_eq_true rfl)) ?_ | refine And.intro (And.intro (by kernel_rfl) (by kernel_rfl)) ?_ | refine And.intro (by decide) ?_ | refine lit_true ?_ | refine lit_false ?_))
        intro c hc
        obtain rfl : c = true := hc.trans (by rw [hA2]; rfl)
        (repeat ((conv => whnf); first | refine aw_seq ?_ | refine aw_region ?_ | refine aw_block ?_ | refine aw_skip ?_ | refine aw_true rfl ?_ | refine aw_false rfl ?_ | refine aw_exit ?_ | refine aw_label ?_ | refine aw_ret ?_ | refine And.intro rfl ?_ | refine And.intro trivial ?_ | refine And.intro (And.intro rfl (Nat.le_of_ble_eq_true rfl)) ?_ | refine And.intro (And.intro (by kernel_rfl) (by kernel_rfl)) ?_ | refine And.intro (by decide) ?_ | refine lit_true ?_ | refine lit_false ?_))
        refine aop_tells rfl rfl paths27_awake trivial fun nx9 => ?_
        (repeat ((conv => whnf); first | refine aw_seq ?_ | refine aw_region ?_ | refine aw_block ?_ | refine aw_skip ?_ | refine aw_true rfl ?_ | refine aw_false rfl ?_ | refine aw_exit ?_ | refine aw_label ?_ | refine aw_ret ?_ | refine And.intro rfl ?_ | refine And.intro trivial ?_ | refine And.intro (And.intro rfl (Nat.le_of_ble_eq_true rfl)) ?_ | refine And.intro (And.intro (by kernel_rfl) (by kernel_rfl)) ?_ | refine And.intro (by decide) ?_ | refine lit_true ?_ | refine lit_false ?_))
        refine ret_is rfl rfl
      · (repeat ((conv => whnf); first | refine aw_seq ?_ | refine aw_region ?_ | refine aw_block ?_ | refine aw_skip ?_ | refine aw_true rfl ?_ | refine aw_false rfl ?_ | refine aw_exit ?_ | refine aw_label ?_ | refine aw_ret ?_ | refine And.intro rfl ?_ | refine And.intro trivial ?_ | refine And.intro (And.intro rfl (Nat.le_of_ble_eq_true rfl)) ?_ | refine And.intro (And.intro (by kernel_rfl) (by kernel_rfl)) ?_ | refine And.intro (by decide) ?_ | refine lit_true ?_ | refine lit_false ?_))
        refine ⟨oneRow_one rfl, by show (i + 1 + 1) * 8 ≤ _; omega, by dsimp only; omega, ?_⟩
        (repeat ((conv => whnf); first | refine aw_seq ?_ | refine aw_region ?_ | refine aw_block ?_ | refine aw_skip ?_ | refine aw_true rfl ?_ | refine aw_false rfl ?_ | refine aw_exit ?_ | refine aw_label ?_ | refine aw_ret ?_ | refine And.intro rfl ?_ | refine And.intro trivial ?_ | refine And.intro (And.intro rfl (Nat.le_of_ble_eq_true rfl)) ?_ | refine And.intro (And.intro (by kernel_rfl) (by kernel_rfl)) ?_ | refine And.intro (by decide) ?_ | refine lit_true ?_ | refine lit_false ?_))
        refine aop_tells rfl rfl hall ⟨(AVle.os_sl.trans (AVle.sl_fun (appF_one (fun j hj => by rw [← dbl_low hj]) (by rw [dbl_last]; rfl)))).trans (AVle.of_eq (by unfold inss slOf; rw [dbl_len, show Try.prog.cellsOf 51 = 4 by kernel_rfl])), trivial⟩ fun nx3 => ?_
        (repeat ((conv => whnf); first | refine aw_seq ?_ | refine aw_region ?_ | refine aw_block ?_ | refine aw_skip ?_ | refine aw_true rfl ?_ | refine aw_false rfl ?_ | refine aw_exit ?_ | refine aw_label ?_ | refine aw_ret ?_ | refine And.intro rfl ?_ | refine And.intro trivial ?_ | refine And.intro (And.intro rfl (Nat.le_of_ble_eq_true rfl)) ?_ | refine And.intro (And.intro (by kernel_rfl) (by kernel_rfl)) ?_ | refine And.intro (by decide) ?_ | refine lit_true ?_ | refine lit_false ?_))
        intro c h7; cases c
        · have h7 := not_of h7
          have h8 : i ≤ 12 := by omega
          rw [if_pos h8] at hA1 hA2
          subst hA1
          (repeat ((conv => whnf); first | refine aw_seq ?_ | refine aw_region ?_ | refine aw_block ?_ | refine aw_skip ?_ | refine aw_true rfl ?_ | refine aw_false rfl ?_ | refine aw_exit ?_ | refine aw_label ?_ | refine aw_ret ?_ | refine And.intro rfl ?_ | refine And.intro trivial ?_ | refine And.intro (And.intro rfl (Nat.le_of_ble_eq_true rfl)) ?_ | refine And.intro (And.intro (by kernel_rfl) (by kernel_rfl)) ?_ | refine And.intro (by decide) ?_ | refine lit_true ?_ | refine lit_false ?_))
          refine ⟨Int.natCast_nonneg _, ?_⟩
          (repeat ((conv => whnf); first | refine aw_seq ?_ | refine aw_region ?_ | refine aw_block ?_ | refine aw_skip ?_ | refine aw_true rfl ?_ | refine aw_false rfl ?_ | refine aw_exit ?_ | refine aw_label ?_ | refine aw_ret ?_ | refine And.intro rfl ?_ | refine And.intro trivial ?_ | refine And.intro (And.intro rfl (Nat.le_of_ble_eq_true rfl)) ?_ | refine And.intro (And.intro (by kernel_rfl) (by kernel_rfl)) ?_ | refine And.intro (by decide) ?_ | refine lit_true ?_ | refine lit_false ?_))
          intro c hc
          obtain rfl : c = true := hc.trans (by rw [hA2]; exact beq_iff_eq.2 (shl_int hk15).symm)
          (repeat ((conv => whnf); first | refine aw_seq ?_ | refine aw_region ?_ | refine aw_block ?_ | refine aw_skip ?_ | refine aw_true rfl ?_ | refine aw_false rfl ?_ | refine aw_exit ?_ | refine aw_label ?_ | refine aw_ret ?_ | refine And.intro rfl ?_ | refine And.intro trivial ?_ | refine And.intro (And.intro rfl (Nat.le_of_ble_eq_true rfl)) ?_ | refine And.intro (And.intro (by kernel_rfl) (by kernel_rfl)) ?_ | refine And.intro (by decide) ?_ | refine lit_true ?_ | refine lit_false ?_))
          refine aop_tells rfl rfl paths27_awake trivial fun nx9 => ?_
          (repeat ((conv => whnf); first | refine aw_seq ?_ | refine aw_region ?_ | refine aw_block ?_ | refine aw_skip ?_ | refine aw_true rfl ?_ | refine aw_false rfl ?_ | refine aw_exit ?_ | refine aw_label ?_ | refine aw_ret ?_ | refine And.intro rfl ?_ | refine And.intro trivial ?_ | refine And.intro (And.intro rfl (Nat.le_of_ble_eq_true rfl)) ?_ | refine And.intro (And.intro (by kernel_rfl) (by kernel_rfl)) ?_ | refine And.intro (by decide) ?_ | refine lit_true ?_ | refine lit_false ?_))
          refine ret_is rfl rfl
        · have h7 := yes_of h7
          have h8 : ¬ i ≤ 12 := by omega
          rw [if_neg h8] at hA1 hA2
          subst hA1
          (repeat ((conv => whnf); first | refine aw_seq ?_ | refine aw_region ?_ | refine aw_block ?_ | refine aw_skip ?_ | refine aw_true rfl ?_ | refine aw_false rfl ?_ | refine aw_exit ?_ | refine aw_label ?_ | refine aw_ret ?_ | refine And.intro rfl ?_ | refine And.intro trivial ?_ | refine And.intro (And.intro rfl (Nat.le_of_ble_eq_true rfl)) ?_ | refine And.intro (And.intro (by kernel_rfl) (by kernel_rfl)) ?_ | refine And.intro (by decide) ?_ | refine lit_true ?_ | refine lit_false ?_))
          intro c hc
          obtain rfl : c = true := hc.trans (by rw [hA2]; rfl)
          (repeat ((conv => whnf); first | refine aw_seq ?_ | refine aw_region ?_ | refine aw_block ?_ | refine aw_skip ?_ | refine aw_true rfl ?_ | refine aw_false rfl ?_ | refine aw_exit ?_ | refine aw_label ?_ | refine aw_ret ?_ | refine And.intro rfl ?_ | refine And.intro trivial ?_ | refine And.intro (And.intro rfl (Nat.le_of_ble_eq_true rfl)) ?_ | refine And.intro (And.intro (by kernel_rfl) (by kernel_rfl)) ?_ | refine And.intro (by decide) ?_ | refine lit_true ?_ | refine lit_false ?_))
          refine aop_tells rfl rfl paths27_awake trivial fun nx9 => ?_
          (repeat ((conv => whnf); first | refine aw_seq ?_ | refine aw_region ?_ | refine aw_block ?_ | refine aw_skip ?_ | refine aw_true rfl ?_ | refine aw_false rfl ?_ | refine aw_exit ?_ | refine aw_label ?_ | refine aw_ret ?_ | refine And.intro rfl ?_ | refine And.intro trivial ?_ | refine And.intro (And.intro rfl (Nat.le_of_ble_eq_true rfl)) ?_ | refine And.intro (And.intro (by kernel_rfl) (by kernel_rfl)) ?_ | refine And.intro (by decide) ?_ | refine lit_true ?_ | refine lit_false ?_))
          refine ret_is rfl rfl
    · have h6 := yes_of h5
      dsimp only at h6
      have hsh := shl_one (i := i) (by omega)
      rcases oi with _ | id
      · obtain rfl := h4 rfl
        (repeat ((conv => whnf); first | refine aw_seq ?_ | refine aw_region ?_ | refine aw_block ?_ | refine aw_skip ?_ | refine aw_true rfl ?_ | refine aw_false rfl ?_ | refine aw_exit ?_ | refine aw_label ?_ | refine aw_ret ?_ | refine And.intro rfl ?_ | refine And.intro trivial ?_ | refine And.intro (And.intro rfl (Nat.le_of_ble_eq_true rfl)) ?_ | refine And.intro (And.intro (by kernel_rfl) (by kernel_rfl)) ?_ | refine And.intro (by decide) ?_ | refine lit_true ?_ | refine lit_false ?_))
        refine ⟨Int.natCast_nonneg _, ?_⟩
        (repeat ((conv => whnf); first | refine aw_seq ?_ | refine aw_region ?_ | refine aw_block ?_ | refine aw_skip ?_ | refine aw_true rfl ?_ | refine aw_false rfl ?_ | refine aw_exit ?_ | refine aw_label ?_ | refine aw_ret ?_ | refine And.intro rfl ?_ | refine And.intro trivial ?_ | refine And.intro (And.intro rfl (Nat.le_of_ble_eq_true rfl)) ?_ | refine And.intro (And.intro (by kernel_rfl) (by kernel_rfl)) ?_ | refine And.intro (by decide) ?_ | refine lit_true ?_ | refine lit_false ?_))
        refine ⟨oneRow_one rfl, by show (1 + 1) * 8 ≤ _; omega, by dsimp only; omega, ?_⟩
        (repeat ((conv => whnf); first | refine aw_seq ?_ | refine aw_region ?_ | refine aw_block ?_ | refine aw_skip ?_ | refine aw_true rfl ?_ | refine aw_false rfl ?_ | refine aw_exit ?_ | refine aw_label ?_ | refine aw_ret ?_ | refine And.intro rfl ?_ | refine And.intro trivial ?_ | refine And.intro (And.intro rfl (Nat.le_of_ble_eq_true rfl)) ?_ | refine And.intro (And.intro (by kernel_rfl) (by kernel_rfl)) ?_ | refine And.intro (by decide) ?_ | refine lit_true ?_ | refine lit_false ?_))
        exact back (0 + 1, some nx2, nx2 + 1) ⟨by dsimp only; omega, (fun h => by cases h)⟩ (by dsimp only; omega) (ele_keep rfl rfl .slnil (.cons_cons _ .slnil) ⟨AVle.refl _, AVle.refl _, AVle.os_fun (appF_one (fun j hj => by rw [dblP_low hj]) (by rw [dblP_last]; rfl)), le_int (wrap_succ (by dsimp only; omega)), trivial⟩)
      · (repeat ((conv => whnf); first | refine aw_seq ?_ | refine aw_region ?_ | refine aw_block ?_ | refine aw_skip ?_ | refine aw_true rfl ?_ | refine aw_false rfl ?_ | refine aw_exit ?_ | refine aw_label ?_ | refine aw_ret ?_ | refine And.intro rfl ?_ | refine And.intro trivial ?_ | refine And.intro (And.intro rfl (Nat.le_of_ble_eq_true rfl)) ?_ | refine And.intro (And.intro (by kernel_rfl) (by kernel_rfl)) ?_ | refine And.intro (by decide) ?_ | refine lit_true ?_ | refine lit_false ?_))
        refine ⟨Int.natCast_nonneg _, ?_⟩
        (repeat ((conv => whnf); first | refine aw_seq ?_ | refine aw_region ?_ | refine aw_block ?_ | refine aw_skip ?_ | refine aw_true rfl ?_ | refine aw_false rfl ?_ | refine aw_exit ?_ | refine aw_label ?_ | refine aw_ret ?_ | refine And.intro rfl ?_ | refine And.intro trivial ?_ | refine And.intro (And.intro rfl (Nat.le_of_ble_eq_true rfl)) ?_ | refine And.intro (And.intro (by kernel_rfl) (by kernel_rfl)) ?_ | refine And.intro (by decide) ?_ | refine lit_true ?_ | refine lit_false ?_))
        refine ⟨oneRow_one rfl, by show (i + 1 + 1) * 8 ≤ _; omega, by dsimp only; omega, ?_⟩
        (repeat ((conv => whnf); first | refine aw_seq ?_ | refine aw_region ?_ | refine aw_block ?_ | refine aw_skip ?_ | refine aw_true rfl ?_ | refine aw_false rfl ?_ | refine aw_exit ?_ | refine aw_label ?_ | refine aw_ret ?_ | refine And.intro rfl ?_ | refine And.intro trivial ?_ | refine And.intro (And.intro rfl (Nat.le_of_ble_eq_true rfl)) ?_ | refine And.intro (And.intro (by kernel_rfl) (by kernel_rfl)) ?_ | refine And.intro (by decide) ?_ | refine lit_true ?_ | refine lit_false ?_))
        exact back (i + 1, some nx2, nx2 + 1) ⟨by dsimp only; omega, (fun h => by cases h)⟩ (by dsimp only; omega) (ele_keep rfl rfl .slnil (.cons_cons _ .slnil) ⟨AVle.refl _, AVle.refl _, AVle.os_fun (appF_one (fun j hj => by rw [dblP_low hj]) (by rw [dblP_last]; show AV.ag [u16 69, u8 0, u8 0, .v (.int .u32 (IntKind.u32.wrap (1 * 2 ^ min (Int.toNat (i : Int)) IntKind.u32.bits)))] = _; rw [hsh]; rfl)), le_int (wrap_succ (by dsimp only; omega)), trivial⟩)
end Go.Proofs.W
