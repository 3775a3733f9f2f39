/- The plain laws of valid policies. -/
import Derived.Test.YtcjnjlgjnobplaaGreatDoorE
import Derived.Test.YtcjnjlgjnobplaaGreatDoorC
import Derived.Test.YtcjnjlgjnobplaaGreatDoorD
import Derived.LaidSub
import Derived.MakeChecks
import Derived.Test.YtcjnjlgjnobplaaGreatDoorRows
import Derived.OpenShut
import Derived.Deep.DeepHandedRow
import Derived.Lib.LaidTab
import Derived.ProofKit
set_option linter.unusedVariables false
set_option linter.unusedSimpArgs false
namespace Go.Proofs.W
open Go.Vl
set_option maxRecDepth 100000

theorem getD_mem {rs : List Rul} {i : Nat} (h : i < rs.length) : rs.getD i rul0 ∈ rs := by simp [List.getD, h]
/- Conditions turned round, the first one there twice. -/
def turnC (cs : List Cnd) : List Cnd := if cs.reverse.length > 0 ∧ cs.reverse.length < 6 then cs.reverse ++ [cs.reverse.getD 0 cnd0] else cs.reverse
def turnR (r : Rul) : Rul := ⟨r.name, r.act, turnC r.conds⟩
def turnP (p : Pol) : Pol := ⟨p.dflt, p.x32, p.rules.map turnR⟩
theorem turn_mem {cs : List Cnd} {c : Cnd} : c ∈ turnC cs ↔ c ∈ cs := by
  unfold turnC
  split
  · rename_i h
    rw [List.mem_append, List.mem_reverse, List.mem_singleton]
    constructor
    · rintro (q | rfl)
      · exact q
      · rw [← List.mem_reverse]
        rw [show cs.reverse.getD 0 cnd0 = cs.reverse[0]'h.1 from by rw [List.getD_eq_getElem?_getD, List.getElem?_eq_getElem h.1]; rfl]
        exact List.getElem_mem _
    · exact .inl
  · exact List.mem_reverse
theorem turn_len {cs : List Cnd} : (turnC cs).length ≤ 6 ↔ cs.length ≤ 6 := by
  unfold turnC
  rw [List.length_reverse]
  split
  · rw [List.length_append, List.length_reverse, List.length_singleton]; omega
  · rw [List.length_reverse]
theorem turn_right (r : Rul) : rightR (turnR r) = rightR r := by
  unfold rightR turnR
  dsimp only
  rw [decide_eq_decide.2 turn_len]
  congr 3
  rw [Bool.eq_iff_iff, Bool.not_eq_true', Bool.not_eq_true', List.any_eq_false, List.any_eq_false]
  exact ⟨fun h c hc => h c (turn_mem.2 hc), fun h c hc => h c (turn_mem.1 hc)⟩
theorem valid_turned (p : Pol) (l : List TRow) : validE p l = validE (turnP p) l := by
  refine valid_same ?_ (by simp [turnP]) fun j hj => ?_
  · unfold rightP turnP
    dsimp only
    rw [List.length_map]
    congr 3
    rw [List.any_map, Bool.eq_iff_iff, List.any_eq_true, List.any_eq_true]
    exact ⟨fun ⟨r, h1, h2⟩ => ⟨r, h1, by rw [Function.comp_apply, turn_right]; exact h2⟩, fun ⟨r, h1, h2⟩ => ⟨r, h1, by rw [Function.comp_apply, turn_right] at h2; exact h2⟩⟩
  · have : (turnP p).rules.getD j rul0 = turnR (p.rules.getD j rul0) := by simp [turnP, List.getD, hj]
    rw [this]
    exact ⟨rfl, fun c => turn_mem.symm⟩
/- Without one of its rules; with another action. -/
def lessP (p : Pol) (k : Nat) (a : A2) : Pol := ⟨a, !p.x32, p.rules.take k ++ p.rules.drop (k + 1)⟩
def setP (p : Pol) (k : Nat) (a : A2) : Pol := ⟨p.dflt, p.x32, p.rules.set k ⟨(p.rules.getD k rul0).name, a, (p.rules.getD k rul0).conds⟩⟩
theorem dup_all {l : List TRow} {rs : List Rul} : (∀ i, i < rs.length → ruleV l rs i = 0) ↔ (∀ r ∈ rs, foundB l r.name = true ∧ r.conds.any badC = false) ∧ rs.Pairwise fun q r => dupR r q = false := by
  constructor
  · intro h
    refine ⟨fun r hr => ?_, List.pairwise_iff_getElem.2 fun i j hi hj hij => ?_⟩
    · obtain ⟨i, hi, rfl⟩ := List.mem_iff_getElem.1 hr
      have := ruleV_0.1 (h i hi)
      rw [show rs.getD i rul0 = rs[i] by simp [List.getD, hi]] at this
      exact ⟨this.1, this.2.1⟩
    · have := (ruleV_0.1 (h j hj)).2.2
      rw [show rs.getD j rul0 = rs[j] by simp [List.getD, hj]] at this
      have := List.any_eq_false.1 this rs[i] (List.mem_iff_getElem.2 ⟨i, by rw [List.length_take]; omega, by rw [List.getElem_take]⟩)
      simpa using this
  · rintro ⟨h1, h2⟩ i hi
    have hm := h1 _ (getD_mem hi)
    refine ruleV_0.2 ⟨hm.1, hm.2, List.any_eq_false.2 fun x hx => ?_⟩
    obtain ⟨j, hj, rfl⟩ := List.mem_iff_getElem.1 hx
    rw [List.length_take] at hj
    rw [List.getElem_take, show rs.getD i rul0 = rs[i] by simp [List.getD, hi]]
    have := List.pairwise_iff_getElem.1 h2 j i (by omega) hi (by omega)
    rw [this]
    decide
theorem valid_less {p : Pol} {l : List TRow} (h : (validE p l).2 = 0) (k : Nat) {a : A2} (ha : right9 a.1 a.2 = true) : (validE (lessP p k a) l).2 = 0 := by
  obtain ⟨h1, h2, h3⟩ := validE_0.1 h
  obtain ⟨r1, r2, r3⟩ := rightP_iff.1 h1
  obtain ⟨d1, d2⟩ := dup_all.1 h3
  have hs : (p.rules.take k ++ p.rules.drop (k + 1)).Sublist p.rules := by
    have : (p.rules.take k ++ p.rules.drop (k + 1)).Sublist (p.rules.take k ++ p.rules.drop k) := List.Sublist.append (List.Sublist.refl _) (List.drop_sublist_drop_left _ (Nat.le_succ k))
    rwa [List.take_append_drop] at this
  refine validE_0.2 ⟨rightP_iff.2 ⟨ha, ?_, fun r hr => r3 r (hs.subset hr)⟩, h2, dup_all.2 ⟨fun r hr => d1 r (hs.subset hr), d2.sublist hs⟩⟩
  exact Nat.le_trans hs.length_le r2
theorem set_right {r : Rul} {a : A2} (h : rightR r = true) (ha : right9 a.1 a.2 = true) : rightR ⟨r.name, a, r.conds⟩ = true := by
  unfold rightR at h ⊢
  simp only [Bool.and_eq_true] at h ⊢
  exact ⟨h.1, ha, h.2.2⟩
theorem valid_set {p : Pol} {l : List TRow} (h : (validE p l).2 = 0) {k : Nat} (hk : k < p.rules.length) {a : A2} (ha : right9 a.1 a.2 = true) : (validE (setP p k a) l).2 = 0 := by
  obtain ⟨h1, h2, h3⟩ := validE_0.1 h
  obtain ⟨r1, r2, r3⟩ := rightP_iff.1 h1
  rw [← valid_same (p := p) (q := setP p k a) ?_ (by simp [setP]) fun j hj => ?_]
  · exact h
  · rw [h1]
    refine ((rightP_iff (p := setP p k a)).2 ⟨r1, by simpa [setP] using r2, fun r hr => ?_⟩).symm
    rcases List.mem_or_eq_of_mem_set hr with q | rfl
    · exact r3 r q
    · exact set_right (r3 _ (getD_mem hk)) ha
  · have e : (setP p k a).rules.getD j rul0 = if k = j then ⟨(p.rules.getD k rul0).name, a, (p.rules.getD k rul0).conds⟩ else p.rules.getD j rul0 := by
      unfold setP
      dsimp only
      by_cases q : k = j
      · subst q; rw [if_pos rfl]; simp [List.getD, hj]
      · rw [if_neg q]; simp [List.getD, List.getElem?_set, q]
    rw [e]
    split
    · rename_i q; subst q; exact ⟨rfl, fun c => Iff.rfl⟩
    · exact ⟨rfl, fun c => Iff.rfl⟩
/- With a rule more. -/
def moreP (p : Pol) (r : Rul) : Pol := ⟨p.dflt, false, p.rules ++ [r]⟩
theorem more_right {p : Pol} {r : Rul} (h : rightP p = true) (hl : p.rules.length ≤ 39) (hr : rightR r = true) : rightP (moreP p r) = true := by
  obtain ⟨r1, r2, r3⟩ := rightP_iff.1 h
  refine rightP_iff.2 ⟨r1, by unfold moreP; dsimp only; rw [List.length_append, List.length_singleton]; omega, fun q hq => ?_⟩
  rcases List.mem_append.1 hq with k | k
  · exact r3 q k
  · rw [List.mem_singleton.1 k]; exact hr
theorem more_old {p : Pol} {r : Rul} {l : List TRow} {i : Nat} (hi : i < p.rules.length) : ruleV l (moreP p r).rules i = ruleV l p.rules i := by
  unfold ruleV moreP
  dsimp only
  rw [show (p.rules ++ [r]).getD i rul0 = p.rules.getD i rul0 by simp [List.getD, List.getElem?_append_left hi], List.take_append_of_le_length (by omega)]
theorem more_last {p : Pol} {r : Rul} : (moreP p r).rules.getD p.rules.length rul0 = r := by simp [moreP, List.getD]
theorem valid_more {p : Pol} {r : Rul} {l : List TRow} {v : Int} (h : (validE p l).2 = 0) (hl : p.rules.length ≤ 39) (hr : rightR r = true) (hv : ruleV l (moreP p r).rules p.rules.length = v) (h0 : v ≠ 0) : validE (moreP p r) l = ((p.rules.length : Int), v) := by
  obtain ⟨h1, h2, h3⟩ := validE_0.1 h
  exact validE_at (more_right h1 hl hr) h2 (by unfold moreP; simp) (fun j hj => by rw [more_old hj]; exact h3 j hj) hv h0
def zzzzB : ByteArray := ⟨#[122, 122, 122, 122, 95, 110, 111, 110, 101]⟩
theorem zzzz_right {a : A2} (h : right9 a.1 a.2 = true) : rightR ⟨zzzzB, a, []⟩ = true := by
  unfold rightR
  dsimp only
  rw [h, show nameB zzzzB.data.toList = true by decide]
  rfl
theorem found_row {l : List TRow} {s : ByteArray} (h : foundB l s = true) : ∃ r ∈ l, r.name = s := by
  unfold foundB at h
  rw [Bool.and_eq_true, decide_eq_true_iff, decide_eq_true_iff] at h
  exact ⟨l.getD (lowB l s) trow0, by simp [List.getD, h.1], cmpS_eq.1 h.2⟩
theorem more_name {p : Pol} {l : List TRow} {a : A2} (h : ∀ r ∈ l, r.name ≠ zzzzB) : ruleV l (moreP p ⟨zzzzB, a, []⟩).rules p.rules.length = 14 := by
  unfold ruleV
  rw [more_last]
  refine if_pos ?_
  cases hf : foundB l zzzzB with
  | false => rfl
  | true => obtain ⟨r, h1, h2⟩ := found_row hf; exact absurd h2 (h r h1)
theorem dup_self (r : Rul) : dupR r r = true := by
  unfold dupR
  rw [kS_eq.2 rfl, alike_iff.2 fun _ => Iff.rfl, Bool.or_true]
  rfl
theorem more_twice {p : Pol} {l : List TRow} (h : (validE p l).2 = 0) {k : Nat} (hk : k < p.rules.length) : ruleV l (moreP p (p.rules.getD k rul0)).rules p.rules.length = 15 := by
  obtain ⟨h1, h2, h3⟩ := validE_0.1 h
  obtain ⟨q1, q2, q3⟩ := ruleV_0.1 (h3 k hk)
  unfold ruleV
  rw [more_last, if_neg (by rw [q1]; decide), if_neg (by rw [q2]; decide)]
  refine if_pos (List.any_eq_true.2 ⟨_, ?_, dup_self _⟩)
  unfold moreP
  dsimp only
  rw [List.take_append_of_le_length (Nat.le_refl _), List.take_length]
  exact getD_mem hk
end Go.Proofs.W

/- Which policies are valid, by the document. -/
namespace Go.Proofs.W
open Go.Vl
set_option maxRecDepth 100000

theorem getD_memD {l : List Cnd} {i : Nat} (h : i < l.length) : l.getD i cnd0 ∈ l := by simp [List.getD, h]
theorem in15_spec (l : List Cnd) (c : Cnd) (hl : l.length ≤ 1000000) : Tells Tryz.prog 47 [cnds l, cndA c] (boolA (decide (c ∈ l))) := by
  refine tells_of_aw Tryz.func47 rfl rfl fun nx => ?_
  refine stp ?_
  refine aw_loop (fun s : Nat × Nat => mk 18 [(0, cnds l), (3, .bp (0, nx) 0), (5, int s.1)] ⟨[((0, nx), .c [int c.arg, int c.op, u64 c.mask, u64 c.value])], [], s.2, 1⟩) (fun s => s.1 ≤ l.length ∧ ∀ j, j < s.1 → l.getD j cnd0 ≠ c) (fun s => l.length - s.1) ?_ ?_
  · exact ⟨(0, nx + 1), ⟨Nat.zero_le _, fun j h => absurd h (Nat.not_lt_zero _)⟩, ele_tell (pm := []) _ [] rfl rfl (List.Sublist.refl _) (List.Sublist.refl _) ⟨rfl, OwnLe.refl _, trivial⟩ trivial ⟨AVle.refl _, AVle.refl _, AVle.refl _, trivial⟩⟩
  · rintro ⟨i, nx2⟩ ⟨h3, h4⟩
    dsimp only at h3 h4
    refine stp ?_
    intro c h5; cases c
    · have h6 : ¬ ((i : Nat) : Int) < ((l.length : Nat) : Int) := not_of h5
      obtain rfl : i = l.length := by omega
      have hn : ¬ c ∈ l := fun hm => by
        obtain ⟨j, hj, e⟩ := List.getElem_of_mem hm
        exact h4 j hj (by rw [List.getD_eq_getElem?_getD, List.getElem?_eq_getElem hj]; exact e)
      refine stp ?_
      exact ret_tells rfl (le_bool (by rw [decide_eq_false hn]))
    · have h6 : ((i : Nat) : Int) < ((l.length : Nat) : Int) := yes_of h5
      have hi : i < l.length := by omega
      refine stp ?_
      (refine aw_draw 6 ?_ ?_ ?_ ?_; (· kernel_rfl); (· kernel_rfl); (· kernel_rfl))
      refine stp ?_
      refine ⟨⟨by dsimp only; omega, by dsimp only; omega⟩, ?_⟩
      refine stp ?_
      intro d hd
      have hd2 : d = decide (l.getD i cnd0 = c) := hd.trans cnd_eqb
      cases d
      · have he : ¬ l.getD i cnd0 = c := not_of hd2
        refine stp ?_
        refine back (i + 1, nx2) ⟨by dsimp only; omega, fun j hj => ?_⟩ (by dsimp only; omega) (ele_tell (pm := []) _ [] rfl rfl (List.Sublist.refl _) (List.Sublist.refl _) ⟨rfl, OwnLe.refl _, trivial⟩ trivial ⟨AVle.refl _, AVle.refl _, le_int (wrap_succ (by dsimp only; omega)), trivial⟩)
        dsimp only at hj
        rcases Nat.lt_or_ge j i with h | h
        · exact h4 j h
        · obtain rfl : j = i := by omega
          exact he
      · have he : l.getD i cnd0 = c := yes_of hd2
        refine stp ?_
        exact ret_tells rfl (le_bool (by rw [decide_eq_true (he ▸ getD_memD hi)]))
theorem all_at {a b : List Cnd} (h : ∀ j, j < a.length → a.getD j cnd0 ∈ b) : (a.all fun c => decide (c ∈ b)) = true := by
  rw [List.all_eq_true]
  intro c hc
  obtain ⟨j, hj, rfl⟩ := List.getElem_of_mem hc
  have := h j hj
  rw [List.getD_eq_getElem?_getD, List.getElem?_eq_getElem hj] at this
  exact decide_eq_true this
theorem all_not {a b : List Cnd} {j : Nat} (hj : j < a.length) (h : ¬ a.getD j cnd0 ∈ b) : (a.all fun c => decide (c ∈ b)) = false := by
  cases e : a.all fun c => decide (c ∈ b) with
  | false => rfl
  | true => exact absurd (of_decide_eq_true (List.all_eq_true.1 e _ (getD_memD hj))) h
theorem alike_spec (a b : List Cnd) (ha : a.length ≤ 1000000) (hb : b.length ≤ 1000000) : Tells Tryz.prog 26 [cnds a, cnds b] (boolA (alikeB a b)) := by
  refine tells_of_aw Tryz.func26 rfl rfl fun nx => ?_
  refine stp ?_
  refine aw_loop (fun s : Nat × Nat => mk 33 [(0, cnds a), (1, cnds b), (5, int s.1)] ⟨[], [], s.2, 0⟩) (fun s => s.1 ≤ a.length ∧ ∀ j, j < s.1 → a.getD j cnd0 ∈ b) (fun s => a.length - s.1) ?_ ?_
  · exact ⟨(0, nx), ⟨Nat.zero_le _, fun j h => absurd h (Nat.not_lt_zero _)⟩, ele_mk rfl rfl ⟨AVle.refl _, AVle.refl _, AVle.refl _, trivial⟩⟩
  · rintro ⟨i, nx2⟩ ⟨h3, h4⟩
    dsimp only at h3 h4
    refine stp ?_
    intro c h5; cases c
    · have h6 : ¬ ((i : Nat) : Int) < ((a.length : Nat) : Int) := not_of h5
      obtain rfl : i = a.length := by omega
      have e1 := all_at h4
      refine stp ?_
      refine aw_loop (fun s : Nat × Nat => mk 33 [(0, cnds a), (1, cnds b), (6, int s.1)] ⟨[], [], s.2, 0⟩) (fun s => s.1 ≤ b.length ∧ ∀ j, j < s.1 → b.getD j cnd0 ∈ a) (fun s => b.length - s.1) ?_ ?_
      · exact ⟨(0, nx2), ⟨Nat.zero_le _, fun j h => absurd h (Nat.not_lt_zero _)⟩, ele_mk rfl rfl ⟨AVle.refl _, AVle.refl _, AVle.refl _, trivial⟩⟩
      · rintro ⟨i, nx3⟩ ⟨k3, k4⟩
        dsimp only at k3 k4
        refine stp ?_
        intro c h7; cases c
        · have h8 : ¬ ((i : Nat) : Int) < ((b.length : Nat) : Int) := not_of h7
          obtain rfl : i = b.length := by omega
          have e2 := all_at k4
          refine stp ?_
          exact ret_tells rfl (le_bool (by unfold alikeB; rw [e1, e2]; rfl))
        · have h8 : ((i : Nat) : Int) < ((b.length : Nat) : Int) := yes_of h7
          have hi : i < b.length := by omega
          have hs := in15_spec a (b.getD i cnd0) ha
          refine stp ?_
          refine ⟨⟨by dsimp only; omega, by dsimp only; omega⟩, ?_⟩
          refine stp ?_
          refine aop_tells rfl rfl hs ⟨AVle.refl _, AVle.refl _, trivial⟩ fun nx4 => ?_
          by_cases hq : b.getD i cnd0 ∈ a
          · rw [decide_eq_true hq]
            refine stp ?_
            refine back (i + 1, nx4) ⟨by dsimp only; omega, fun j hj => ?_⟩ (by dsimp only; omega) (ele_mk rfl rfl ⟨AVle.refl _, AVle.refl _, le_int (wrap_succ (by dsimp only; omega)), trivial⟩)
            dsimp only at hj
            rcases Nat.lt_or_ge j i with h | h
            · exact k4 j h
            · rw [show j = i by omega]; exact hq
          · rw [decide_eq_false hq]
            refine stp ?_
            exact ret_tells rfl (le_bool (by unfold alikeB; rw [all_not hi hq, Bool.and_false]))
    · have h6 : ((i : Nat) : Int) < ((a.length : Nat) : Int) := yes_of h5
      have hi : i < a.length := by omega
      have hs := in15_spec b (a.getD i cnd0) hb
      refine stp ?_
      refine ⟨⟨by dsimp only; omega, by dsimp only; omega⟩, ?_⟩
      refine stp ?_
      refine aop_tells rfl rfl hs ⟨AVle.refl _, AVle.refl _, trivial⟩ fun nx4 => ?_
      by_cases hq : a.getD i cnd0 ∈ b
      · rw [decide_eq_true hq]
        refine stp ?_
        refine back (i + 1, nx4) ⟨by dsimp only; omega, fun j hj => ?_⟩ (by dsimp only; omega) (ele_mk rfl rfl ⟨AVle.refl _, AVle.refl _, le_int (wrap_succ (by dsimp only; omega)), trivial⟩)
        dsimp only at hj
        rcases Nat.lt_or_ge j i with h | h
        · exact h4 j h
        · rw [show j = i by omega]; exact hq
      · rw [decide_eq_false hq]
        refine stp ?_
        exact ret_tells rfl (le_bool (by unfold alikeB; rw [all_not hi hq, Bool.false_and]))
theorem find11_spec (l : List TRow) (s : ByteArray) (hl : l.length ≤ 1000000) : Tells Tryz.prog 25 [trows l, strA s] (int (optI (l.findIdx? fun r => kS r.name s))) := by
  refine tells_of_aw Tryz.func25 rfl rfl fun nx => ?_
  refine stp ?_
  refine aw_loop (fun y : Nat × Nat => mk 20 [(0, trows l), (1, strA s), (5, int y.1)] ⟨[], [], y.2, 0⟩) (fun y => y.1 ≤ l.length ∧ ∀ j, j < y.1 → kS (l.getD j trow0).name s = false) (fun y => l.length - y.1) ?_ ?_
  · exact ⟨(0, nx), ⟨Nat.zero_le _, fun j h => absurd h (Nat.not_lt_zero _)⟩, ele_mk rfl rfl ⟨AVle.refl _, AVle.refl _, AVle.refl _, trivial⟩⟩
  · rintro ⟨i, nx2⟩ ⟨h3, h4⟩
    dsimp only at h3 h4
    refine stp ?_
    intro c h5; cases c
    · have h6 : ¬ ((i : Nat) : Int) < ((l.length : Nat) : Int) := not_of h5
      refine stp ?_
      refine ret_tells rfl (le_int ?_)
      rw [idx_none trow0 (fun j hj => h4 j (by omega))]; rfl
    · have h6 : ((i : Nat) : Int) < ((l.length : Nat) : Int) := yes_of h5
      have hi : i < l.length := by omega
      refine stp ?_
      refine ⟨⟨by dsimp only; omega, by dsimp only; omega⟩, ?_⟩
      refine stp ?_
      intro d hd
      have hd2 : d = kS (l.getD i trow0).name s := hd
      cases d
      · refine stp ?_
        refine back (i + 1, nx2) ⟨by dsimp only; omega, fun j hj => ?_⟩ (by dsimp only; omega) (ele_mk rfl rfl ⟨AVle.refl _, AVle.refl _, le_int (wrap_succ (by dsimp only; omega)), trivial⟩)
        dsimp only at hj
        rcases Nat.lt_or_ge j i with h | h
        · exact h4 j h
        · rw [show j = i by omega]; exact hd2.symm
      · refine stp ?_
        refine ret_tells rfl (le_int ?_)
        rw [idx_at trow0 hi h4 hd2.symm]; rfl
theorem found_find {l : List TRow} (h : sortedT l) (s : ByteArray) : (optI (l.findIdx? fun r => kS r.name s) < 0) ↔ foundB l s = false := by
  constructor
  · intro ho
    cases hf : foundB l s with
    | false => rfl
    | true =>
      exfalso
      obtain ⟨r, hr, e⟩ := found_row hf
      cases hi : l.findIdx? fun r => kS r.name s with
      | some i => rw [hi] at ho; exact absurd ho (by show ¬ ((i : Nat) : Int) < 0; omega)
      | none =>
        have := List.findIdx?_eq_none_iff.1 hi r hr
        rw [kS_eq.2 e] at this; cases this
  · intro hf
    cases hi : l.findIdx? fun r => kS r.name s with
    | none => decide
    | some j =>
      exfalso
      obtain ⟨hj, hk, _⟩ := List.findIdx?_eq_some_iff_getElem.1 hi
      have e : (l.getD j trow0).name = s := by rw [show l.getD j trow0 = l[j] by simp [List.getD, hj]]; exact kS_eq.1 hk
      have h0 : cmpS (l.getD j trow0).name s = 0 := cmpS_eq.2 e
      have h1 : lowB l s ≤ j := by
        rcases Nat.lt_or_ge j (lowB l s) with q | q
        · have := lowB_lt q; omega
        · exact q
      have h2 : lowB l s = j := by
        rcases Nat.lt_or_ge (lowB l s) j with q | q
        · have := h _ _ q hj
          rw [e] at this
          exact absurd (cmpS_lt.2 this) (lowB_at (by omega))
        · omega
      unfold foundB at hf
      rw [h2, decide_eq_true hj, decide_eq_true h0] at hf
      cases hf
theorem bad_or {c : Cnd} (hok : c.ok) : (decide (c.op = 7) && decide (c.value ||| c.mask ≠ c.mask)) = badC c := by
  unfold badC
  congr 1
  exact decide_eq_decide.2 (not_congr (clr_zero hok.2 hok.1).symm)
end Go.Proofs.W

/- What is wrong with a policy, by the document. -/
namespace Go.Proofs.W
open Go.Vl
set_option maxRecDepth 100000

theorem right11_2 {l : List TRow} : (right11 l).2 = 0 ↔ (tabR l).2 = 0 := (tab_right l).symm
theorem any_badF {cs : List Cnd} (h : ∀ j, j < cs.length → badC (cs.getD j cnd0) = false) : cs.any badC = false := by
  rw [List.any_eq_false]
  intro c hc
  obtain ⟨j, hj, rfl⟩ := List.getElem_of_mem hc
  have := h j hj
  rw [List.getD_eq_getElem?_getD, List.getElem?_eq_getElem hj] at this
  simp only [Option.getD_some] at this
  rw [this]; decide
theorem any_badT {cs : List Cnd} {j : Nat} (hj : j < cs.length) (h : badC (cs.getD j cnd0) = true) : cs.any badC = true := List.any_eq_true.2 ⟨_, getD_memD hj, h⟩
theorem any_dupF {rs : List Rul} {r : Rul} {i : Nat} (hi : i ≤ rs.length) (h : ∀ j, j < i → dupR r (rs.getD j rul0) = false) : (rs.take i).any (dupR r) = false := by
  rw [List.any_eq_false]
  intro q hq
  obtain ⟨j, hj, rfl⟩ := List.getElem_of_mem hq
  rw [List.length_take] at hj
  have := h j (by omega)
  rw [List.getElem_take]
  rw [List.getD_eq_getElem?_getD, List.getElem?_eq_getElem (by omega)] at this
  simp only [Option.getD_some] at this
  rw [this]; decide
theorem any_dupT {rs : List Rul} {r : Rul} {i j : Nat} (hi : i ≤ rs.length) (hj : j < i) (h : dupR r (rs.getD j rul0) = true) : (rs.take i).any (dupR r) = true := by
  refine List.any_eq_true.2 ⟨rs.getD j rul0, ?_, h⟩
  rw [show rs.getD j rul0 = (rs.take i)[j]'(by rw [List.length_take]; omega) by rw [List.getElem_take]; simp [List.getD, show j < rs.length by omega]]
  exact List.getElem_mem _
set_option maxHeartbeats 8000000 in
theorem ref15_spec (p : Pol) (l : List TRow) (hp2 : p.rules.length ≤ 1000000 ∧ ∀ r ∈ p.rules, r.conds.length ≤ 12 ∧ ∀ c ∈ r.conds, c.ok) (hl : l.length ≤ 1000000) : Tells Tryz.prog 11 [polA p, trows l] (.tup [int (validE p l).1, int (validE p l).2]) := by
  have hR := right14_spec p
  have hT := ref11right_spec l hl
  cases hb : rightP p with
  | false =>
    rw [hb] at hR
    obtain ⟨⟨k, n⟩, x, rs⟩ := p
    refine tells_of_aw Tryz.func11 rfl rfl fun nx => ?_
    refine stp ?_
    refine aop_tells rfl rfl hR ⟨AVle.refl _, trivial⟩ fun nx2 => ?_
    refine stp ?_
    exact ret_tells rfl (le_two (by unfold validE; rw [if_pos hb]))
  | true =>
  rw [hb] at hR
  by_cases ht : (tabR l).2 = 0
  rotate_left
  · obtain ⟨⟨k, n⟩, x, rs⟩ := p
    refine tells_of_aw Tryz.func11 rfl rfl fun nx => ?_
    refine stp ?_
    refine aop_tells rfl rfl hR ⟨AVle.refl _, trivial⟩ fun nx2 => ?_
    refine stp ?_
    refine aop_tells rfl rfl hT ⟨AVle.refl _, trivial⟩ fun nx3 => ?_
    refine stp ?_
    intro c hc
    obtain rfl : c = true := hc.trans (bne_iff_ne.2 fun h => ht (right11_2.1 h))
    refine stp ?_
    exact ret_tells rfl (le_two (by unfold validE; rw [if_neg (by rw [hb]; decide), if_pos ht]))
  · have hs := tab_sorted ht
    have hat : ∀ i v, i < p.rules.length → (∀ j, j < i → ruleV l p.rules j = 0) → ruleV l p.rules i = v → v ≠ 0 → ((i : Int), v) = validE p l := fun i v h1 h2 h3 h4 => (validE_at hb ht h1 h2 h3 h4).symm
    have hnone : (∀ j, j < p.rules.length → ruleV l p.rules j = 0) → ((0 : Int), (0 : Int)) = validE p l := fun h => (validE_ok (validE_0.2 ⟨hb, ht, h⟩)).symm
    generalize hV : validE p l = V at hat hnone ⊢
    obtain ⟨V1, V2⟩ := V
    obtain ⟨⟨k, n⟩, x, rs⟩ := p
    dsimp only at hat hnone hp2
    rw [right11_2.2 ht] at hT
    refine tells_of_aw Tryz.func11 rfl rfl fun nx => ?_
    refine stp ?_
    refine aop_tells rfl rfl hR ⟨AVle.refl _, trivial⟩ fun nx2 => ?_
    refine stp ?_
    refine aop_tells rfl rfl hT ⟨AVle.refl _, trivial⟩ fun nx3 => ?_
    (refine stpR ?_; refine aw_region ?_; refine stpR ?_)
    refine aw_freeze (n := 103) (nx := nx3) (nn := 1) (pm := []) (bx := []) (L := [(1, trows l), (2, .rp [int k, int n, boolA x, ruls rs])]) (df := some []) [((0, nx), .c [int k, int n, boolA x, ruls rs])] rfl rfl rfl (List.Perm.refl _) (List.Sublist.refl _) ⟨Frz.refl _, Frz.bp (.head _) rfl, trivial⟩ ?_
    refine stp ?_
    refine aw_loop (fun y : Nat × Nat => mk 103 [(1, trows l), (2, .rp [int k, int n, boolA x, ruls rs]), (8, int y.1)] ⟨[], [], y.2, 0⟩) (fun y => y.1 ≤ rs.length ∧ ∀ j, j < y.1 → ruleV l rs j = 0) (fun y => rs.length - y.1) ?_ ?_
    · exact ⟨(0, nx3), ⟨Nat.zero_le _, fun j h => absurd h (Nat.not_lt_zero _)⟩, ele_tell (pm := []) (bx := []) [] [] rfl rfl .slnil .slnil trivial trivial ⟨AVle.refl _, AVle.refl _, AVle.refl _, trivial⟩⟩
    · rintro ⟨i, nx4⟩ ⟨h1, h2⟩
      dsimp only at h1 h2
      refine stp ?_
      intro c g; cases c
      · have g := not_of g
        try dsimp only at g
        obtain rfl : i = rs.length := by omega
        refine stp ?_
        exact ret_tells rfl (le_two (hnone h2))
      · have g := yes_of g
        try dsimp only at g
        have hi : i < rs.length := by omega
        have hm : rs.getD i rul0 ∈ rs := rule_in hi
        have hri := hp2.2 _ hm
        have hF := find11_spec l (rs.getD i rul0).name hl
        have hff := found_find hs (rs.getD i rul0).name
        refine stp ?_
        refine ⟨⟨by first | omega | (dsimp only; omega), by first | omega | (dsimp only; omega)⟩, ?_⟩
        refine stpR ?_
        refine aw_freeze (n := 103) (nx := nx4 + 1) (nn := 1) (pm := []) (bx := []) (L := [(1, trows l), (2, .rp [int k, int n, boolA x, ruls rs]), (8, int i), (9, .rp (rulC (rs.getD i rul0)))]) (df := some []) [((0, nx4), .c (rulC (rs.getD i rul0)))] rfl rfl rfl (List.Perm.refl _) (List.Sublist.refl _) ⟨Frz.refl _, Frz.refl _, Frz.refl _, Frz.bp (.head _) rfl, trivial⟩ ?_
        refine stp ?_
        refine aop_tells rfl rfl hF ⟨AVle.refl _, AVle.refl _, trivial⟩ fun nx5 => ?_
        refine stp ?_
        intro c g2; cases c
        rotate_left
        · refine stp ?_
          exact ret_tells rfl (le_two (hat i 14 hi h2 (if_pos (hff.1 (yes_of g2))) (by decide)))
        · have q1 : foundB l (rs.getD i rul0).name = true := by
            cases e : foundB l (rs.getD i rul0).name with
            | true => rfl
            | false => exact absurd (hff.2 e) (not_of g2)
          refine stp ?_
          refine aw_loop (fun y : Nat × Nat => mk 103 [(1, trows l), (2, .rp [int k, int n, boolA x, ruls rs]), (8, int i), (9, .rp (rulC (rs.getD i rul0))), (10, int y.1)] ⟨[], [], y.2, 0⟩) (fun y => y.1 ≤ (rs.getD i rul0).conds.length ∧ ∀ j, j < y.1 → badC ((rs.getD i rul0).conds.getD j cnd0) = false) (fun y => (rs.getD i rul0).conds.length - y.1) ?_ ?_
          · exact ⟨(0, nx5), ⟨Nat.zero_le _, fun j h => absurd h (Nat.not_lt_zero _)⟩, ele_tell (pm := []) (bx := []) [] [] rfl rfl .slnil .slnil trivial trivial ⟨AVle.refl _, AVle.refl _, AVle.refl _, AVle.refl _, AVle.refl _, trivial⟩⟩
          · rintro ⟨m, nx6⟩ ⟨k1, k2⟩
            dsimp only at k1 k2
            refine stp ?_
            intro c g3; cases c
            · have g3 := not_of g3
              try dsimp only at g3
              have q2 := any_badF (fun j hj => k2 j (by omega))
              refine stp ?_
              refine aw_loop (fun y : Nat × Nat => mk 103 [(1, trows l), (2, .rp [int k, int n, boolA x, ruls rs]), (8, int i), (9, .rp (rulC (rs.getD i rul0))), (12, int y.1)] ⟨[], [], y.2, 0⟩) (fun y => y.1 ≤ i ∧ ∀ j, j < y.1 → dupR (rs.getD i rul0) (rs.getD j rul0) = false) (fun y => i - y.1) ?_ ?_
              · exact ⟨(0, nx6), ⟨Nat.zero_le _, fun j h => absurd h (Nat.not_lt_zero _)⟩, ele_tell (pm := []) (bx := []) [] [] rfl rfl .slnil .slnil trivial trivial ⟨AVle.refl _, AVle.refl _, AVle.refl _, AVle.refl _, AVle.refl _, trivial⟩⟩
              · rintro ⟨q, nx7⟩ ⟨d1, d2⟩
                dsimp only at d1 d2
                refine stp ?_
                intro c g4; cases c
                · have g4 := not_of g4
                  try dsimp only at g4
                  have q3 := any_dupF (r := rs.getD i rul0) h1 (fun j hj => d2 j (by omega))
                  refine stp ?_
                  exact back (i + 1, nx7) ⟨hi, fun m hm2 => by
                    rcases Nat.lt_or_ge m i with z | z
                    · exact h2 m z
                    · rw [show m = i by omega]; exact ruleV_0.2 ⟨q1, q2, q3⟩⟩ (by dsimp only; omega) (ele_tell (pm := []) (bx := []) [] [] rfl rfl .slnil .slnil trivial trivial ⟨AVle.refl _, AVle.refl _, le_int (wrap_succ (by first | omega | (dsimp only; omega))), trivial⟩)
                · have g4 := yes_of g4
                  try dsimp only at g4
                  have hqi : q < i := by omega
                  have hal := alike_spec (rs.getD q rul0).conds (rs.getD i rul0).conds (by have := (hp2.2 _ (rule_in (show q < rs.length by omega))).1; omega) (by omega)
                  refine stp ?_
                  (refine aw_draw 30 ?_ ?_ ?_ ?_; (· kernel_rfl); (· kernel_rfl); (· kernel_rfl))
                  refine stp ?_
                  refine ⟨⟨by dsimp only; omega, by dsimp only; omega⟩, ?_⟩
                  refine stp ?_
                  intro b hb2
                  have hk : b = kS (rs.getD q rul0).name (rs.getD i rul0).name := hb2
                  clear hb2
                  cases b
                  · refine stp ?_
                    have e6 : dupR (rs.getD i rul0) (rs.getD q rul0) = false := by unfold dupR; rw [← hk]; rfl
                    exact back (q + 1, nx7) ⟨hqi, fun j hj => by
                      rcases Nat.lt_or_ge j q with z | z
                      · exact d2 j z
                      · rw [show j = q by omega]; exact e6⟩ (by dsimp only; omega) (ele_tell (pm := []) (bx := []) [] [] rfl rfl .slnil .slnil trivial trivial ⟨AVle.refl _, AVle.refl _, AVle.refl _, AVle.refl _, le_int (wrap_succ (by first | omega | (dsimp only; omega))), trivial⟩)
                  · refine stp ?_
                    refine ⟨⟨by dsimp only; omega, by dsimp only; omega⟩, ?_⟩
                    refine stp ?_
                    intro b hb2
                    have hc0 : b = decide ((rs.getD q rul0).conds.length = 0) := by
                      have : b = (((rs.getD q rul0).conds.length : Int) == 0) := hb2
                      rw [this]
                      by_cases z : (rs.getD q rul0).conds.length = 0
                      · rw [z]; rfl
                      · rw [decide_eq_false z]; exact beq_eq_false_iff_ne.2 (by omega)
                    clear hb2
                    cases b
                    · refine stp ?_
                      refine ⟨⟨by dsimp only; omega, by dsimp only; omega⟩, ?_⟩
                      refine stp ?_
                      refine ex_yields (yields_tells rfl rfl hal ⟨AVle.refl _, AVle.refl _, trivial⟩ (NoId.v _)) ?_
                      cases ea : alikeB (rs.getD q rul0).conds (rs.getD i rul0).conds
                      · refine stp ?_
                        have e6 : dupR (rs.getD i rul0) (rs.getD q rul0) = false := by unfold dupR; rw [← hk, ← hc0, ea]; rfl
                        exact back (q + 1, nx7) ⟨hqi, fun j hj => by
                          rcases Nat.lt_or_ge j q with z | z
                          · exact d2 j z
                          · rw [show j = q by omega]; exact e6⟩ (by dsimp only; omega) (ele_tell (pm := []) (bx := []) [] [] rfl rfl .slnil .slnil trivial trivial ⟨AVle.refl _, AVle.refl _, AVle.refl _, AVle.refl _, le_int (wrap_succ (by first | omega | (dsimp only; omega))), trivial⟩)
                      · refine stp ?_
                        have e6 : dupR (rs.getD i rul0) (rs.getD q rul0) = true := by unfold dupR; rw [← hk, ← hc0, ea]; rfl
                        exact ret_tells rfl (le_two (hat i 15 hi h2 (by unfold ruleV; rw [if_neg (by rw [q1]; decide), if_neg (by rw [q2]; decide), if_pos (any_dupT h1 hqi e6)]) (by decide)))
                    · refine stp ?_
                      have e6 : dupR (rs.getD i rul0) (rs.getD q rul0) = true := by unfold dupR; rw [← hk, ← hc0]; rfl
                      exact ret_tells rfl (le_two (hat i 15 hi h2 (by unfold ruleV; rw [if_neg (by rw [q1]; decide), if_neg (by rw [q2]; decide), if_pos (any_dupT h1 hqi e6)]) (by decide)))
            · have g3 := yes_of g3
              try dsimp only at g3
              have hmi : m < (rs.getD i rul0).conds.length := by omega
              have hco := hri.2 _ (getD_memD hmi)
              have hbo := bad_or hco
              refine stp ?_
              refine ⟨⟨by first | omega | (dsimp only; omega), by first | omega | (dsimp only; omega)⟩, ?_⟩
              refine stp ?_
              intro c g5; cases c
              · have g5 : false = (((rs.getD i rul0).conds.getD m cnd0).op == 7) := g5
                refine stp ?_
                have e5 : badC ((rs.getD i rul0).conds.getD m cnd0) = false := by
                  unfold badC
                  rw [decide_eq_false (fun e => by rw [e] at g5; cases g5), Bool.false_and]
                exact back (m + 1, nx6 + 1) ⟨hmi, fun j hj => by
                  rcases Nat.lt_or_ge j m with z | z
                  · exact k2 j z
                  · rw [show j = m by omega]; exact e5⟩ (by dsimp only; omega) (ele_tell (pm := []) (bx := []) [] [] rfl rfl (List.nil_sublist _) .slnil trivial trivial ⟨AVle.refl _, AVle.refl _, AVle.refl _, AVle.refl _, le_int (wrap_succ (by first | omega | (dsimp only; omega))), trivial⟩)
              · have g5 : true = (((rs.getD i rul0).conds.getD m cnd0).op == 7) := g5
                have g5 : ((rs.getD i rul0).conds.getD m cnd0).op = 7 := by simpa using g5.symm
                refine stp ?_
                intro b hb2
                have hb2 : b = (bitsI BinOp.or IntKind.u64 (((rs.getD i rul0).conds.getD m cnd0).value : Int) (((rs.getD i rul0).conds.getD m cnd0).mask : Int) != (((rs.getD i rul0).conds.getD m cnd0).mask : Int)) := hb2
                have e5 : badC ((rs.getD i rul0).conds.getD m cnd0) = b := by
                  rw [← hbo, decide_eq_true g5, Bool.true_and, hb2]
                  rw [u64_or hco.2 hco.1]
                  by_cases h0 : ((rs.getD i rul0).conds.getD m cnd0).value ||| ((rs.getD i rul0).conds.getD m cnd0).mask = ((rs.getD i rul0).conds.getD m cnd0).mask
                  · rw [h0, bne_self_eq_false]
                    exact decide_eq_false fun e => e rfl
                  · rw [decide_eq_true h0]
                    exact (bne_iff_ne.2 fun e => h0 (Int.ofNat.inj e)).symm
                clear hb2
                cases b
                · refine stp ?_
                  exact back (m + 1, nx6 + 1) ⟨hmi, fun j hj => by
                    rcases Nat.lt_or_ge j m with z | z
                    · exact k2 j z
                    · rw [show j = m by omega]; exact e5⟩ (by dsimp only; omega) (ele_tell (pm := []) (bx := []) [] [] rfl rfl (List.nil_sublist _) .slnil trivial trivial ⟨AVle.refl _, AVle.refl _, AVle.refl _, AVle.refl _, le_int (wrap_succ (by first | omega | (dsimp only; omega))), trivial⟩)
                · refine stp ?_
                  exact ret_tells rfl (le_two (hat i 16 hi h2 (by unfold ruleV; rw [if_neg (by rw [q1]; decide), if_pos (any_badT hmi e5)]) (by decide)))
end Go.Proofs.W

/- The document's policies as the program's, by the laws of layer 15. -/
namespace Go.Proofs.W
open Go.Vl
set_option maxRecDepth 100000

def nm1 : Option Nat → Option Vl.Id
  | none => none
  | some k => some (1, k)
def cndF (cs : List Cnd) (k : Nat) : AV := cndA (cs.getD k cnd0)
def rulF15 (rs : List Rul) (k : Nat) : AV := rulA (rs.getD k rul0)
def b15 (nx : Nat) (d : A2) (x : Bool) (rs : List Rul) (i : Nat) (oi : Option Nat) : List (Vl.Id × Own) := [((2, nx + 2), .c [int d.1, int d.2, boolA x, .os 4 i (rulF15 rs) (nmd oi)]), ((1, nx + 1), .c [int 0, int 0, boolA false, .os 4 0 (fun _ => .any) none])]
def c15 (s : Nat) (r : Rul) (m : Nat) (om : Option Nat) : Vl.Id × Own := ((3, s), .c [strA r.name, int r.act.1, int r.act.2, .os 4 m (cndF r.conds) (nm1 om)])
theorem PmEq_refl2 : ∀ l : List (Vl.Id × Nat), PmEq l l
  | [] => trivial
  | _ :: l => ⟨rfl, rfl, PmEq_refl2 l⟩
theorem BxLe_refl2 : ∀ l : List (Vl.Id × Own), BxLe l l := BxLe.refl
theorem bytes_cnd15 : Tryz.prog.bytesOf 51 = 32 := by kernel_rfl
theorem bytes_rul15 : Tryz.prog.bytesOf 47 = 56 := by kernel_rfl
theorem le_c15 {cs : List Cnd} {m : Nat} {f' : Nat → AV} {i j : Vl.Id} (hf : f' 0 = cndA (cs.getD m cnd0) := by rfl) (h : i.2 = j.2 := by rfl) : AVle (.os 4 (m + 1) (appF m (cndF cs) f') (some i)) (.os 4 (m + 1) (cndF cs) (some j)) :=
  (AVle.os_fun (appF_one (fun k hk => rfl) hf)).trans (AVle.os_nm h)
theorem le_r15 {rs : List Rul} {m : Nat} {f' : Nat → AV} {i j : Vl.Id} (hf : f' 0 = rulA (rs.getD m rul0) := by rfl) (h : i.2 = j.2 := by rfl) : AVle (.os 4 (m + 1) (appF m (rulF15 rs) f') (some i)) (.os 4 (m + 1) (rulF15 rs) (some j)) :=
  (AVle.os_fun (appF_one (fun k hk => rfl) hf)).trans (AVle.os_nm h)
set_option maxHeartbeats 8000000 in
theorem of15_spec (p : Pol) (hp : p.rules.length ≤ 1000 ∧ ∀ r ∈ p.rules, r.conds.length ≤ 1000) : Tells Tryz.prog 9 [polA p] (polA p) := by
  obtain ⟨⟨k, n⟩, x, rs⟩ := p
  dsimp only at hp
  refine tells_of_aw Tryz.func9 rfl rfl fun nx => ?_
  refine stp ?_
  intro c hc
  subst hc
  refine stpR ?_
  refine aw_freeze (n := 74) (nx := nx + 3) (nn := 3) (pm := []) (bx := [((2, nx + 2), .c [int k, int n, boolA c, .os 0 0 (fun _ => .any) none]), ((1, nx + 1), .c [int 0, int 0, boolA false, .os 0 0 (fun _ => .any) none])]) (L := [(1, .rp [int k, int n, boolA c, ruls rs]), (2, .bp (1, nx + 1) 0), (3, .bp (2, nx + 2) 0)]) (df := some []) [((0, nx), .c [int k, int n, boolA c, ruls rs])] rfl rfl rfl (List.perm_append_comm (l₁ := [((2, nx + 2), Own.c [int k, int n, boolA c, .os 0 0 (fun _ => .any) none]), ((1, nx + 1), .c [int 0, int 0, boolA false, .os 0 0 (fun _ => .any) none])]) (l₂ := [((0, nx), .c [int k, int n, boolA c, ruls rs])])) (List.Sublist.refl _) ⟨Frz.bp (.head _) rfl, Frz.refl _, Frz.refl _, trivial⟩ ?_
  refine stp ?_
  refine aw_loop (fun y : Nat × Option Nat × Nat => mk 74 [(1, .rp [int k, int n, boolA c, ruls rs]), (2, .bp (1, nx + 1) 0), (3, .bp (2, nx + 2) 0), (4, int y.1)] ⟨b15 nx (k, n) c rs y.1 y.2.1, pmOf (nmd y.2.1) (y.1 * 4), y.2.2, 3⟩) (fun y => y.1 ≤ rs.length ∧ (y.2.1 = none → y.1 = 0)) (fun y => rs.length - y.1) ?_ ?_
  · exact ⟨(0, none, nx + 3), ⟨Nat.zero_le _, fun _ => rfl⟩, ele_tell (pm := []) (bx := b15 nx (k, n) c rs 0 none) _ [] rfl rfl (List.Sublist.refl _) (List.Sublist.refl _) ⟨rfl, ⟨AVle.refl _, AVle.refl _, AVle.refl _, AVle.os_nil, trivial⟩, rfl, ⟨AVle.refl _, AVle.refl _, AVle.refl _, AVle.os_nil, trivial⟩, trivial⟩ trivial ⟨AVle.refl _, AVle.refl _, AVle.refl _, AVle.refl _, trivial⟩⟩
  · rintro ⟨i, oi, nx2⟩ ⟨h1, h2⟩
    dsimp only at h1 h2
    refine stp ?_
    intro c g; cases c
    · have g := not_of g
      try dsimp only at g
      obtain rfl : i = rs.length := by omega
      refine stp ?_
      exact ret_tells_all rfl ⟨rfl, trivial⟩ (AVle.ags ⟨AVle.refl _, AVle.refl _, AVle.refl _, AVle.os_sl, trivial⟩)
    · have g := yes_of g
      try dsimp only at g
      have hi : i < rs.length := by omega
      have hm := hp.2 _ (rule_in hi)
      refine stp ?_
      refine ⟨⟨by first | omega | (dsimp only; omega), by first | omega | (dsimp only; omega)⟩, ?_⟩
      refine stpR ?_
      refine aw_freeze (n := 74) (nx := nx2 + 1) (nn := 3) (pm := pmOf (nmd oi) (i * 4)) (bx := b15 nx (k, n) c rs i oi) (L := [(1, .rp [int k, int n, boolA c, ruls rs]), (2, .bp (1, nx + 1) 0), (3, .bp (2, nx + 2) 0), (4, int i), (5, .rp (rulC (rs.getD i rul0)))]) (df := some []) [((3, nx2), .c (rulC (rs.getD i rul0)))] rfl rfl rfl (List.Perm.refl _) (List.Sublist.refl _) ⟨Frz.refl _, Frz.refl _, Frz.refl _, Frz.refl _, Frz.bp (.head _) rfl, trivial⟩ ?_
      refine stp ?_
      refine aw_loop (fun y : Nat × Option Nat × Nat => mk 74 [(1, .rp [int k, int n, boolA c, ruls rs]), (2, .bp (1, nx + 1) 0), (3, .bp (2, nx + 2) 0), (4, int i), (5, .rp (rulC (rs.getD i rul0))), (6, .bp (3, nx2 + 1) 0), (7, int y.1)] ⟨c15 (nx2 + 1) (rs.getD i rul0) y.1 y.2.1 :: b15 nx (k, n) c rs i oi, pmOf (nm1 y.2.1) (y.1 * 4) ++ pmOf (nmd oi) (i * 4), y.2.2, 4⟩) (fun y => y.1 ≤ (rs.getD i rul0).conds.length ∧ (y.2.1 = none → y.1 = 0)) (fun y => (rs.getD i rul0).conds.length - y.1) ?_ ?_
      · exact ⟨(0, none, nx2 + 2), ⟨Nat.zero_le _, fun _ => rfl⟩, ele_tell (pm := pmOf (nmd oi) (i * 4)) (bx := c15 (nx2 + 1) (rs.getD i rul0) 0 none :: b15 nx (k, n) c rs i oi) (((3, nx2 + 1), .c [strA (rs.getD i rul0).name, int (rs.getD i rul0).act.1, int (rs.getD i rul0).act.2, .os 0 0 (fun _ => .any) none]) :: b15 nx (k, n) c rs i oi) _ rfl rfl (List.Sublist.refl _) (List.Sublist.refl _) ⟨rfl, ⟨AVle.refl _, AVle.refl _, AVle.refl _, AVle.os_nil, trivial⟩, BxLe.refl _⟩ (PmEq_refl2 _) ⟨AVle.refl _, AVle.refl _, AVle.refl _, AVle.refl _, AVle.refl _, AVle.refl _, AVle.refl _, trivial⟩⟩
      · rintro ⟨m, om, nx3⟩ ⟨k1, k2⟩
        dsimp only at k1 k2
        refine stp ?_
        intro c g2; cases c
        · have g2 := not_of g2
          try dsimp only at g2
          obtain rfl : m = (rs.getD i rul0).conds.length := by omega
          refine AW.le (E' := mk 74 [(1, .rp [int k, int n, boolA c, ruls rs]), (2, .bp (1, nx + 1) 0), (3, .bp (2, nx + 2) 0), (4, int i), (6, .bp (3, nx2 + 1) 0), (45, boolA false)] ⟨((3, nx2 + 1), .c [strA (rs.getD i rul0).name, int (rs.getD i rul0).act.1, int (rs.getD i rul0).act.2, cnds (rs.getD i rul0).conds]) :: b15 nx (k, n) c rs i oi, pmOf (nmd oi) (i * 4), nx3, 4⟩) (ele_tell _ _ rfl rfl (List.Sublist.refl _) (List.sublist_append_right _ _) ⟨rfl, ⟨AVle.refl _, AVle.refl _, AVle.refl _, AVle.os_sl, trivial⟩, BxLe.refl _⟩ (PmEq_refl2 _) ⟨AVle.refl _, AVle.refl _, AVle.refl _, AVle.refl _, AVle.refl _, AVle.refl _, trivial⟩) ?_
          rcases oi with _ | o1
          · obtain rfl := h2 rfl
            refine stp ?_
            refine ⟨oneRow_one rfl, by rw [bytes_rul15]; omega, by omega, ?_⟩
            refine stp ?_
            exact back (0 + 1, some nx3, nx3 + 1) ⟨hi, fun h => by cases h⟩ (by dsimp only; omega) (ele_tell (pm := pmOf (nmd (some nx3)) ((0 + 1) * 4)) (bx := b15 nx (k, n) c rs (0 + 1) (some nx3)) (((2, nx + 2), .c [int k, int n, boolA c, _]) :: _) _ rfl rfl (.cons _ (List.Sublist.refl _)) (List.Sublist.refl _) ⟨rfl, ⟨AVle.refl _, AVle.refl _, AVle.refl _, le_r15, trivial⟩, BxLe.refl _⟩ ⟨rfl, rfl, trivial⟩ ⟨AVle.refl _, AVle.refl _, AVle.refl _, le_int (wrap_succ (by first | omega | (dsimp only; omega))), trivial⟩)
          · refine stp ?_
            refine ⟨oneRow_one rfl, by rw [bytes_rul15]; omega, by omega, ?_⟩
            refine stp ?_
            exact back (i + 1, some nx3, nx3 + 1) ⟨hi, fun h => by cases h⟩ (by dsimp only; omega) (ele_tell (pm := pmOf (nmd (some nx3)) ((i + 1) * 4)) (bx := b15 nx (k, n) c rs (i + 1) (some nx3)) (((2, nx + 2), .c [int k, int n, boolA c, _]) :: _) _ rfl rfl (.cons _ (List.Sublist.refl _)) (List.Sublist.refl _) ⟨rfl, ⟨AVle.refl _, AVle.refl _, AVle.refl _, le_r15, trivial⟩, BxLe.refl _⟩ ⟨rfl, rfl, trivial⟩ ⟨AVle.refl _, AVle.refl _, AVle.refl _, le_int (wrap_succ (by first | omega | (dsimp only; omega))), trivial⟩)
        · have g2 := yes_of g2
          try dsimp only at g2
          have hmi : m < (rs.getD i rul0).conds.length := by omega
          rcases om with _ | o1
          · obtain rfl := k2 rfl
            refine stp ?_
            refine ⟨⟨by first | omega | (dsimp only; omega), by first | omega | (dsimp only; omega)⟩, ?_⟩
            refine stp ?_
            refine ⟨oneRow_one rfl, by rw [bytes_cnd15]; omega, by omega, ?_⟩
            refine stp ?_
            exact back (0 + 1, some (nx3 + 1), nx3 + 2) ⟨hmi, fun h => by cases h⟩ (by dsimp only; omega) (ele_tell (pm := pmOf (nm1 (some (nx3 + 1))) ((0 + 1) * 4) ++ pmOf (nmd oi) (i * 4)) (bx := c15 (nx2 + 1) (rs.getD i rul0) (0 + 1) (some (nx3 + 1)) :: b15 nx (k, n) c rs i oi) _ _ rfl rfl (.cons _ (List.Sublist.refl _)) (List.Sublist.refl _) ⟨rfl, ⟨AVle.refl _, AVle.refl _, AVle.refl _, le_c15, trivial⟩, BxLe.refl _⟩ ⟨rfl, rfl, PmEq_refl2 _⟩ ⟨AVle.refl _, AVle.refl _, AVle.refl _, AVle.refl _, AVle.refl _, AVle.refl _, le_int (wrap_succ (by first | omega | (dsimp only; omega))), trivial⟩)
          · refine stp ?_
            refine ⟨⟨by first | omega | (dsimp only; omega), by first | omega | (dsimp only; omega)⟩, ?_⟩
            refine stp ?_
            refine ⟨oneRow_one rfl, by rw [bytes_cnd15]; omega, by omega, ?_⟩
            refine stp ?_
            exact back (m + 1, some (nx3 + 1), nx3 + 2) ⟨hmi, fun h => by cases h⟩ (by dsimp only; omega) (ele_tell (pm := pmOf (nm1 (some (nx3 + 1))) ((m + 1) * 4) ++ pmOf (nmd oi) (i * 4)) (bx := c15 (nx2 + 1) (rs.getD i rul0) (m + 1) (some (nx3 + 1)) :: b15 nx (k, n) c rs i oi) _ _ rfl rfl (.cons _ (List.Sublist.refl _)) (List.Sublist.refl _) ⟨rfl, ⟨AVle.refl _, AVle.refl _, AVle.refl _, le_c15, trivial⟩, BxLe.refl _⟩ ⟨rfl, rfl, PmEq_refl2 _⟩ ⟨AVle.refl _, AVle.refl _, AVle.refl _, AVle.refl _, AVle.refl _, AVle.refl _, le_int (wrap_succ (by first | omega | (dsimp only; omega))), trivial⟩)
end Go.Proofs.W

/- Rows of a table as the program's; whether rules and rows are few: by the laws of layer 15. -/
namespace Go.Proofs.W
open Go.Vl
set_option maxRecDepth 100000

theorem bytes_rows15 : Tryz.prog.bytesOf 62 = 72 := by kernel_rfl
set_option maxHeartbeats 2000000 in
theorem l15rows_spec (l : List TRow) (hl : l.length ≤ 1000000) : Tells Tryz.prog 10 [trows l] (trows l) := by
  refine tells_of_aw Tryz.func10 rfl rfl fun nx => ?_
  refine stp ?_
  refine aw_loop (fun s : Nat × Option Nat × Nat => mk 36 [(0, trows l), (3, .os 8 s.1 (fun j => trowA (l.getD j trow0)) (nmd s.2.1)), (4, int s.1)] ⟨[], pmOf (nmd s.2.1) (s.1 * 8), s.2.2, 1⟩) (fun s => s.1 ≤ l.length ∧ (s.2.1 = none → s.1 = 0)) (fun s => l.length - s.1) ?_ ?_
  · exact ⟨(0, none, nx), ⟨Nat.zero_le _, fun _ => rfl⟩, ele_tell (pm := []) _ [] rfl rfl (List.Sublist.refl _) (List.Sublist.refl _) trivial trivial ⟨AVle.refl _, AVle.os_nil, AVle.refl _, trivial⟩⟩
  · rintro ⟨i, oi, nx2⟩ ⟨h3, h4⟩
    dsimp only at h3 h4
    refine stp ?_
    intro c h5; cases c
    · have h6 := not_of h5
      dsimp only at h6
      obtain rfl : i = l.length := by omega
      rcases oi with _ | id
      all_goals
        refine stp ?_
        exact ret_tells rfl AVle.os_sl
    · have h6 := yes_of h5
      dsimp only at h6
      have hi : i < l.length := by omega
      refine stp ?_
      refine aw_mixN 25 _ (fun i => match i with | 23 => true | _ => false) (fun i => match i with | 10 => true | _ => false) [0, 1, 2, 3, 4, 5, 6, 7, 8, 9, 10, 11, 12, 13, 14, 15, 16, 17, 18, 19, 20, 21, 22, 23, 24] (by kernel_rfl) (by kernel_rfl) (HB.refl _) ?_
      refine stp ?_
      refine ⟨⟨by dsimp only; omega, by dsimp only; omega⟩, ?_⟩
      refine stp ?_
      refine ⟨⟨by dsimp only; omega, by dsimp only; omega⟩, ?_⟩
      refine stp ?_
      refine ⟨arr5 (l.getD i trow0), pure_apure rfl rfl (by first | trivial | exact ⟨rfl, Nat.le_of_ble_eq_true rfl⟩), ?_⟩
      refine stp ?_
      refine ⟨⟨by dsimp only; omega, by dsimp only; omega⟩, ?_⟩
      refine stp ?_
      refine ⟨⟨by dsimp only; omega, by dsimp only; omega⟩, ?_⟩
      refine stp ?_
      rcases oi with _ | id
      · obtain rfl := h4 rfl
        refine ⟨_, eff_append1 (e := 62) (c := 8) (pm := []) (n := 0) (oi := none) (sz := 8) (f := fun j => trowA (l.getD j trow0)) (HB.refl _) rfl rfl rfl (.inr ⟨_, rfl⟩) (by kernel_rfl) (by kernel_rfl) (by kernel_rfl) (.inr rfl) (by kernel_rfl) (List.append_nil _).symm (oneRow_one rfl) (by rw [bytes_rows15]; omega) (by omega), fun r h' hr => ?_⟩
        obtain ⟨rfl, rfl⟩ := hr
        refine stp ?_
        refine back (0 + 1, some nx2, nx2 + 1) ⟨by dsimp only; omega, (fun h => by cases h)⟩ (by dsimp only; omega) (ele_tell (pm := [((0, nx2), (0 + 1) * 8)]) _ _ rfl rfl (List.Sublist.refl _) (List.Sublist.refl _) trivial ⟨rfl, rfl, trivial⟩ ⟨AVle.refl _, (AVle.os_fun (appF_one (fun k hk => absurd hk (Nat.not_lt_zero k)) ?_)).trans (AVle.os_nm rfl), le_int (wrap_succ (by dsimp only; omega)), trivial⟩)
        rfl
      · refine ⟨_, eff_append1 (e := 62) (c := 8) (pm := []) (n := i) (oi := some (0, id)) (sz := 8) (f := fun j => trowA (l.getD j trow0)) (HB.refl _) rfl rfl rfl (.inr ⟨_, rfl⟩) (by kernel_rfl) (by kernel_rfl) (by kernel_rfl) (.inr rfl) (by kernel_rfl) (List.append_nil _).symm (oneRow_one rfl) (by rw [bytes_rows15]; omega) (by omega), fun r h' hr => ?_⟩
        obtain ⟨rfl, rfl⟩ := hr
        refine stp ?_
        refine back (i + 1, some nx2, nx2 + 1) ⟨by dsimp only; omega, (fun h => by cases h)⟩ (by dsimp only; omega) (ele_tell (pm := [((0, nx2), (i + 1) * 8)]) _ _ rfl rfl (List.Sublist.refl _) (List.Sublist.refl _) trivial ⟨rfl, rfl, trivial⟩ ⟨AVle.refl _, (AVle.os_fun (appF_one (fun k hk => rfl) ?_)).trans (AVle.os_nm rfl), le_int (wrap_succ (by dsimp only; omega)), trivial⟩)
        rfl
def fewT (l : List TRow) : Bool := decide (l.length ≤ 40) && l.all fun r => decide (r.name.size ≤ 60)
def light15 (p : Pol) (l : List TRow) : Bool := lightP p && fewT l
theorem light15_spec (p : Pol) (l : List TRow) (hl : p.rules.length ≤ maxLen) (hl2 : l.length ≤ maxLen) : Tells Tryz.prog 7 [polA p, trows l] (boolA (light15 p l)) := by
  obtain ⟨⟨k, n⟩, x, rs⟩ := p
  dsimp only at hl
  refine tells_of_aw Tryz.func7 rfl rfl fun nx => ?_
  refine stp ?_
  intro c g1; cases c
  rotate_left
  · refine stp ?_
    have g1 : ((rs.length : Nat) : Int) > 40 := yes_of g1
    exact ret_tells rfl (le_bool (by show false = ((decide (rs.length ≤ 40) && _) && _); rw [decide_eq_false (by omega)]; rfl))
  have g1 : ¬ ((rs.length : Nat) : Int) > 40 := not_of g1
  have h40 : rs.length ≤ 40 := by omega
  refine stp ?_
  intro c g2; cases c
  rotate_left
  · refine stp ?_
    have g2 : ((l.length : Nat) : Int) > 40 := yes_of g2
    exact ret_tells rfl (le_bool (by unfold light15 fewT; rw [decide_eq_false (p := l.length ≤ 40) (by omega), Bool.false_and, Bool.and_false]))
  have g2 : ¬ ((l.length : Nat) : Int) > 40 := not_of g2
  have l40 : l.length ≤ 40 := by omega
  refine stp ?_
  refine aw_loop (fun s : Nat × Nat => mk 54 [(1, trows l), (2, .bp (0, nx) 0), (5, int s.1)] ⟨[((0, nx), .c [int k, int n, boolA x, ruls rs])], [], s.2, 1⟩) (fun s => s.1 ≤ rs.length ∧ ∀ j, j < s.1 → lightR (rs.getD j rul0) = true) (fun s => rs.length - s.1) ?_ ?_
  · exact ⟨(0, nx + 1), ⟨Nat.zero_le _, fun j h => absurd h (Nat.not_lt_zero _)⟩, ele_tell (pm := []) _ [] rfl rfl (List.Sublist.refl _) (List.Sublist.refl _) ⟨rfl, OwnLe.refl _, trivial⟩ trivial ⟨AVle.refl _, AVle.refl _, AVle.refl _, trivial⟩⟩
  · rintro ⟨i, nx2⟩ ⟨h3, h4⟩
    dsimp only at h3 h4
    refine stp ?_
    intro c h5; cases c
    · have h6 := not_of h5
      dsimp only at h6
      obtain rfl : i = rs.length := by omega
      have e1 : lightP ⟨(k, n), x, rs⟩ = true := by
        show (decide (rs.length ≤ 40) && rs.all lightR) = true
        rw [decide_eq_true h40, Bool.true_and, List.all_eq_true]
        intro r hr
        obtain ⟨j, hj, rfl⟩ := List.getElem_of_mem hr
        have := h4 j hj
        simpa [List.getD, hj] using this
      refine stp ?_
      refine aw_loop (fun s : Nat × Nat => mk 54 [(1, trows l), (6, int s.1)] ⟨[], [], s.2, 1⟩) (fun s => s.1 ≤ l.length ∧ ∀ j, j < s.1 → (l.getD j trow0).name.size ≤ 60) (fun s => l.length - s.1) ?_ ?_
      · exact ⟨(0, nx2), ⟨Nat.zero_le _, fun j h => absurd h (Nat.not_lt_zero _)⟩, ele_tell (pm := []) [] [] rfl rfl (List.nil_sublist _) (List.Sublist.refl _) trivial trivial ⟨AVle.refl _, AVle.refl _, trivial⟩⟩
      · rintro ⟨m, nx3⟩ ⟨k3, k4⟩
        dsimp only at k3 k4
        refine stp ?_
        intro c h7; cases c
        · have h8 := not_of h7
          dsimp only at h8
          obtain rfl : m = l.length := by omega
          refine stp ?_
          refine ret_tells rfl (le_bool ?_)
          unfold light15 fewT
          rw [e1, decide_eq_true l40, Bool.true_and, Bool.true_and, eq_comm, List.all_eq_true]
          intro r hr
          obtain ⟨j, hj, rfl⟩ := List.getElem_of_mem hr
          have := k4 j hj
          rw [List.getD_eq_getElem?_getD, List.getElem?_eq_getElem hj] at this
          exact decide_eq_true this
        · have h8 := yes_of h7
          dsimp only at h8
          have hm : m < l.length := by omega
          refine stp ?_
          refine ⟨⟨by dsimp only; omega, by dsimp only; omega⟩, ?_⟩
          refine stp ?_
          intro c t1; cases c
          · have t1 : ¬ (((l.getD m trow0).name.size : Nat) : Int) > 60 := not_of t1
            refine stp ?_
            refine back (m + 1, nx3) ⟨by dsimp only; omega, fun j hj => ?_⟩ (by dsimp only; omega) (ele_tell (pm := []) [] [] rfl rfl (List.nil_sublist _) (List.Sublist.refl _) trivial trivial ⟨AVle.refl _, le_int (wrap_succ (by dsimp only; omega)), trivial⟩)
            dsimp only at hj
            rcases Nat.lt_or_ge j m with h | h
            · exact k4 j h
            · rw [show j = m by omega]; omega
          · have t1 : (((l.getD m trow0).name.size : Nat) : Int) > 60 := yes_of t1
            refine stp ?_
            refine ret_tells rfl (le_bool ?_)
            unfold light15 fewT
            have e2 : (l.all fun r => decide (r.name.size ≤ 60)) = false := List.all_eq_false.2 ⟨l.getD m trow0, by simp [List.getD, hm], by rw [decide_eq_false (show ¬ (l.getD m trow0).name.size ≤ 60 by omega)]; decide⟩
            rw [e2, Bool.and_false, Bool.and_false]
    · have h6 := yes_of h5
      dsimp only at h6
      have hi : i < rs.length := by omega
      have hbad : lightR (rs.getD i rul0) = false → false = light15 ⟨(k, n), x, rs⟩ l := fun hb => by
        show false = ((decide (rs.length ≤ 40) && rs.all lightR) && _)
        have e2 : rs.all lightR = false := List.all_eq_false.2 ⟨rs.getD i rul0, by simp [List.getD, hi], by rw [hb]; decide⟩
        rw [e2, Bool.and_false, Bool.false_and]
      refine stp ?_
      refine ⟨⟨by dsimp only; omega, by dsimp only; omega⟩, ?_⟩
      refine stp ?_
      intro c t1; cases c
      · have t1 : ¬ (((rs.getD i rul0).name.size : Nat) : Int) > 60 := not_of t1
        refine stp ?_
        refine ⟨⟨by dsimp only; omega, by dsimp only; omega⟩, ?_⟩
        refine stp ?_
        intro c t2; cases c
        · have t2 : ¬ (((rs.getD i rul0).conds.length : Nat) : Int) > 12 := not_of t2
          refine stp ?_
          refine back (i + 1, nx2) ⟨by dsimp only; omega, fun j hj => ?_⟩ (by dsimp only; omega) (ele_tell (pm := []) _ [] rfl rfl (List.Sublist.refl _) (List.Sublist.refl _) ⟨rfl, OwnLe.refl _, trivial⟩ trivial ⟨AVle.refl _, AVle.refl _, le_int (wrap_succ (by dsimp only; omega)), trivial⟩)
          dsimp only at hj
          rcases Nat.lt_or_ge j i with h | h
          · exact h4 j h
          · obtain rfl : j = i := by omega
            unfold lightR
            rw [decide_eq_true (by omega), decide_eq_true (by omega)]; rfl
        · have t2 : (((rs.getD i rul0).conds.length : Nat) : Int) > 12 := yes_of t2
          refine stp ?_
          exact ret_tells rfl (le_bool (hbad (by unfold lightR; rw [decide_eq_false (p := (rs.getD i rul0).conds.length ≤ 12) (by omega), Bool.and_false])))
      · have t1 : (((rs.getD i rul0).name.size : Nat) : Int) > 60 := yes_of t1
        refine stp ?_
        exact ret_tells rfl (le_bool (hbad (by unfold lightR; rw [decide_eq_false (p := (rs.getD i rul0).name.size ≤ 60) (by omega), Bool.false_and])))
end Go.Proofs.W

namespace Go.Proofs.W
open Go.Vl
set_option maxRecDepth 100000

theorem ownEq_trow {a b : Own} (h : a = b) : OwnLe a b := h ▸ OwnLe.refl a
theorem gr_trow : growOk Tryz.prog 62 = true := by kernel_rfl
theorem gc_trow : Tryz.prog.cellsOf 62 = 8 := by kernel_rfl
theorem gb_trow : Tryz.prog.bytesOf 62 = 72 := by kernel_rfl
theorem gl_trow (x : TRow) : (trowA x).cells.length = 8 := rfl
theorem g1_trow (x : TRow) : (trowA x).cells.all isOne = true := rfl
/-- slices.Grow of nil: a box with room. -/
theorem grow_trow (n : Nat) (h0 : 0 < n) (hn : n ≤ 100000) (nx : Nat) :
    ECall Tryz.prog 71 [.os 0 0 (fun _ => .any) none, int n] ⟨[], [], nx, 0⟩ (fun r h' => ∃ s cap nx' nn', n ≤ cap ∧ r = .hs (0, s) 0 0 cap ∧ h' = ⟨[((0, s), .c (List.replicate (cap * 8) .any))], [], nx', nn'⟩) := by
  refine ECall.wk (ecall_of_aw Tryz.func71 rfl rfl ?_)
  refine stp ?_
  refine aop_cap0 rfl rfl Tryz.underlying37 ?_
  refine stp ?_
  intro c hc
  replace hc : c = decide (IntKind.i64.wrap ((n : Int) - 0) > 0) := hc
  rw [wrap_id (by omega) (by omega), decide_eq_true (by omega)] at hc
  subst hc
  refine stpR ?_
  refine aw_regionY (fun i => match i with | 7 => true | 6 => true | 4 => true | 1 => true | _ => false) 10 ?_
  refine stp ?_
  refine aop_cap0 rfl rfl Tryz.underlying37 ?_
  refine stp ?_
  refine aop_cut0 rfl rfl rfl Tryz.underlying37 Tryz.underlying62 ?_
  refine stp ?_
  have hw : IntKind.i64.wrap ((n : Int) - 0) = n := by rw [wrap_id (by omega) (by omega)]; omega
  refine aop_appendZB0 (m := n) (kq := .i64) (kn := .i64) (e := 62) rfl rfl (congrArg (fun z => AV.v (.int .i64 z)) hw) (by omega) Tryz.underlying3 Tryz.underlying37 gr_trow (by rw [gb_trow]; omega) (by omega) fun cap hcap => ?_
  refine stp ?_
  refine aop_cutB (l := 0) (k' := .i64) rfl rfl rfl Tryz.underlying37 Tryz.underlying62 (Nat.zero_le _) (by omega) ?_
  refine stp ?_
  exact ret_is rfl ⟨_, _, AVle.refl _, HLe.refl _, nx, cap, _, _, hcap, rfl, by rw [gc_trow]; rfl⟩
theorem grow0_trow : Tells Tryz.prog 71 [.os 0 0 (fun _ => .any) none, int (0 : Nat)] (.os 0 0 (fun _ => .any) none) := by
  refine tells_of_aw Tryz.func71 rfl rfl fun nx => ?_
  refine stp ?_
  refine aop_cap0 rfl rfl Tryz.underlying37 ?_
  refine stp ?_
  exact ret_tells rfl (AVle.refl _)
/-- Rows, one behind the other. -/
def rows2_trow (L : List (List TRow)) (oi : Option Vl.Id) : AV := .os 1 L.length (fun k => slOf 8 trowA trow0 (L.getD k [])) oi
theorem flat_trow (l : List TRow) : rowCells l.length (fun k => trowA (l.getD k trow0)) = l.flatMap fun x => (trowA x).cells := by
  have key : ∀ m, m ≤ l.length → rowCells m (fun k => trowA (l.getD k trow0)) = (l.take m).flatMap fun x => (trowA x).cells := by
    intro m
    induction m with
    | zero => intro _; rfl
    | succ m ih =>
      intro hm
      have hm' : m < l.length := by omega
      have e : rowCells (m + 1) (fun k => trowA (l.getD k trow0)) = rowCells m (fun k => trowA (l.getD k trow0)) ++ (trowA (l.getD m trow0)).cells := by unfold rowCells; rw [List.range_succ, List.flatMap_append]; simp
      rw [e, ih (by omega), List.take_add_one, List.flatMap_append]
      simp [List.getD, hm']
  rw [key _ (Nat.le_refl _), List.take_of_length_le (Nat.le_refl _)]
theorem flen_trow (l : List TRow) : (l.flatMap fun x => (trowA x).cells).length = l.length * 8 := by
  induction l with
  | nil => rfl
  | cons x l ih => rw [List.flatMap_cons, List.length_append, ih, gl_trow, List.length_cons]; omega
theorem fget_trow (l : List TRow) (k j : Nat) (hk : k < l.length) (hj : j < 8) : (l.flatMap fun x => (trowA x).cells)[k * 8 + j]? = (trowA (l.getD k trow0)).cells[j]? := by
  rw [← flat_trow]
  exact (rowCells_get (sz := 8) (fun i hi => gl_trow _)).2 k j hk hj
set_option maxHeartbeats 1000000 in
theorem concat_trow (L : List (List TRow)) (hL : L.length ≤ 1000) (hn : L.flatten.length ≤ 100000) (oi : Option Vl.Id) : Tells Tryz.prog 48 [rows2_trow L none] (slOf 8 trowA trow0 L.flatten) := by
  have hpre : ∀ i, i < L.length → (L.take (i + 1)).flatten.length = (L.take i).flatten.length + (L.getD i []).length := fun i hi => by
    rw [take_getD [] hi, List.flatten_append, List.length_append]; simp
  have hle : ∀ i, (L.take i).flatten.length ≤ L.flatten.length := fun i => by
    conv => rhs; rw [← List.take_append_drop i L, List.flatten_append, List.length_append]
    omega
  refine tells_of_aw Tryz.func48 rfl rfl fun nx => ?_
  refine stp ?_
  refine aw_midB (fun y : Nat => mk 36 [(0, rows2_trow L none), (3, int (L.flatten.length : Nat))] ⟨[], [], y, 0⟩) (fun _ => True) ?_ ?_
  · refine aw_loop (fun y : Nat × Nat => mk 36 [(0, rows2_trow L none), (3, int ((L.take y.1).flatten.length : Nat)), (9, rows2_trow L none), (10, int L.length), (11, int y.1)] ⟨[], [], y.2, 0⟩) (fun y => y.1 ≤ L.length) (fun y => L.length - y.1) ?_ ?_
    · exact ⟨(0, nx), Nat.zero_le _, ele_keep rfl rfl (List.Sublist.refl _) (List.Sublist.refl _) ⟨AVle.refl _, AVle.refl _, AVle.refl _, AVle.refl _, AVle.refl _, trivial⟩⟩
    · rintro ⟨i, nx1⟩ h1
      dsimp only at h1
      refine stp ?_
      intro c g; cases c
      · have g := not_of g
        try dsimp only at g
        obtain rfl : i = L.length := by omega
        refine stp ?_
        refine ⟨nx1, trivial, ele_keep rfl rfl (List.Sublist.refl _) (List.Sublist.refl _) ⟨AVle.refl _, ?_, trivial⟩⟩
        exact AVle.of_eq (congrArg (fun z : List (List TRow) => int (z.flatten.length : Nat)) List.take_length)
      · have g := yes_of g
        try dsimp only at g
        have hi : i < L.length := by omega
        have e1 := hpre i hi
        have e2 := hle (i + 1)
        refine stp ?_
        refine ⟨⟨by first | omega | (dsimp only; omega), by first | omega | (dsimp only; omega)⟩, ?_⟩
        have hw : IntKind.i64.wrap ((((L.take i).flatten.length : Nat) : Int) + ((L.getD i []).length : Int)) = (((L.take (i + 1)).flatten.length : Nat) : Int) := by rw [wrap_id (by omega) (by omega)]; omega
        refine stp ?_
        intro c hc
        replace hc : c = decide (IntKind.i64.wrap ((((L.take i).flatten.length : Nat) : Int) + ((L.getD i []).length : Int)) < 0) := hc
        rw [hw, decide_eq_false (by omega)] at hc
        subst hc
        refine stp ?_
        exact back (i + 1, nx1) hi (by dsimp only; omega) (ele_keep rfl rfl (List.Sublist.refl _) (List.Sublist.refl _) ⟨AVle.refl _, le_int hw, AVle.refl _, AVle.refl _, le_int (wrap_succ (by first | omega | (dsimp only; omega))), trivial⟩)
  · intro nx1 _
    rcases Nat.eq_zero_or_pos L.flatten.length with h0 | h0
    · have hemp : ∀ i, i < L.length → (L.getD i []).length = 0 := fun i hi => by
        have := hpre i hi; have := hle (i + 1); omega
      have hnil : L.flatten = [] := List.eq_nil_of_length_eq_zero h0
      rw [hnil]
      refine stp ?_
      refine aop_tells rfl rfl grow0_trow ⟨AVle.refl _, AVle.refl _, trivial⟩ fun nx2 => ?_
      refine stp ?_
      refine aw_loop (fun y : Nat × Nat => mk 36 [(6, .os 0 0 (fun _ => .any) none), (25, rows2_trow L none), (26, int L.length), (27, int y.1)] ⟨[], [], y.2, 0⟩) (fun y => y.1 ≤ L.length) (fun y => L.length - y.1) ?_ ?_
      · exact ⟨(0, nx2), Nat.zero_le _, ele_keep rfl rfl (List.Sublist.refl _) (List.Sublist.refl _) ⟨AVle.refl _, AVle.refl _, AVle.refl _, AVle.refl _, trivial⟩⟩
      · rintro ⟨i, nx3⟩ h1
        dsimp only at h1
        refine stp ?_
        intro c g; cases c
        · refine stp ?_
          exact ret_tells rfl AVle.os_sl0
        · have g := yes_of g
          try dsimp only at g
          have hi : i < L.length := by omega
          have e1 := hemp i hi
          have e2 : L.getD i [] = [] := List.eq_nil_of_length_eq_zero e1
          refine stp ?_
          refine ⟨⟨by first | omega | (dsimp only; omega), by first | omega | (dsimp only; omega)⟩, ?_⟩
          refine stp ?_
          refine appK_intro (fun _ => ?_) (fun h => absurd e1 h)
          refine stp ?_
          exact back (i + 1, nx3) hi (by dsimp only; omega) (ele_keep rfl rfl (List.Sublist.refl _) (List.Sublist.refl _) ⟨AVle.refl _, AVle.refl _, AVle.refl _, le_int (wrap_succ (by first | omega | (dsimp only; omega))), trivial⟩)
    · refine stp ?_
      refine aop_callF (xs := [.os 0 0 (fun _ => .any) none, int (L.flatten.length : Nat)]) [] [] 1 rfl rfl rfl rfl ⟨AVle.refl _, AVle.refl _, trivial⟩ (grow_trow L.flatten.length h0 hn nx1) (BxLe.refl _) (PmEq.refl _) rfl fun r h' hq => ?_
      obtain ⟨s, cap, nx2, nn2, hcap, rfl, rfl⟩ := hq
      refine stp ?_
      refine aw_loop (fun y : Nat × List AV × Nat => mk 36 [(6, .hs (0, s) 0 ((L.take y.1).flatten.length) cap), (25, rows2_trow L none), (26, int L.length), (27, int y.1)] ⟨[((0, s), .c y.2.1)], [], y.2.2, 1⟩) (fun y => y.1 ≤ L.length ∧ y.2.1.length = cap * 8 ∧ y.2.1.take ((L.take y.1).flatten.length * 8) = (L.take y.1).flatten.flatMap fun x => (trowA x).cells) (fun y => L.length - y.1) ?_ ?_
      · exact ⟨(0, List.replicate (cap * 8) .any, nx2), ⟨Nat.zero_le _, by simp, by simp⟩, ele_tell _ _ rfl rfl (List.Sublist.refl _) .slnil (BxLe.refl _) trivial ⟨AVle.refl _, AVle.refl _, AVle.refl _, AVle.refl _, trivial⟩⟩
      · rintro ⟨i, cs, nx3⟩ ⟨h1, h2, h3⟩
        dsimp only at h1 h2 h3
        refine stp ?_
        intro c g; cases c
        · have g := not_of g
          try dsimp only at g
          obtain rfl : i = L.length := by omega
          rw [List.take_length] at h3
          have hcl : L.flatten.length * 8 ≤ cap * 8 := Nat.mul_le_mul_right _ hcap
          refine stpR ?_
          refine AW.le (ele_freeze (L := [(6, slOf 8 trowA trow0 L.flatten)]) (bx := []) (pm := []) (nn := 1) [((0, s), .c cs)] rfl rfl (List.Sublist.refl _) .slnil ⟨?_, trivial⟩) ?_
          · refine (Frz.of_le (AVle.of_eq (b := .hs (0, s) 0 L.flatten.length cap) ?_)).trans (Frz.hs (cs := cs) (.head _) hcap (.inr (by omega)) (fun k hk => gl_trow _) (fun k hk j c hj => ?_) (by omega))
            · show AV.hs (0, s) 0 ((L.take L.length).flatten.length) cap = _
              rw [List.take_length]
            · have hjl : j < 8 := by have := (List.getElem?_eq_some_iff.1 hj).1; rw [gl_trow] at this; exact this
              refine ⟨c, ?_, AVle.refl _⟩
              have hkk : k * 8 + j < L.flatten.length * 8 := by
                have : (k + 1) * 8 ≤ L.flatten.length * 8 := Nat.mul_le_mul_right _ hk
                omega
              have h4 := fget_trow L.flatten k j hk hjl
              rw [← h3, List.getElem?_take, if_pos hkk, hj] at h4
              rw [Nat.zero_add]; exact h4
          · refine stp ?_
            exact ret_tells rfl (AVle.refl _)
        · have g := yes_of g
          try dsimp only at g
          have hi : i < L.length := by omega
          have e1 := hpre i hi
          have e2 := hle (i + 1)
          have hfl : (L.take (i + 1)).flatten = (L.take i).flatten ++ L.getD i [] := by rw [take_getD [] hi, List.flatten_append]; simp
          have hcl : ((L.take i).flatten.length + (L.getD i []).length) * 8 ≤ cap * 8 := Nat.mul_le_mul_right _ (by omega)
          refine stp ?_
          refine ⟨⟨by first | omega | (dsimp only; omega), by first | omega | (dsimp only; omega)⟩, ?_⟩
          refine stpR ?_
          refine aw_regionY (fun i => match i with | 1 => true | _ => false) 4 ?_
          refine stp ?_
          refine aop_appendB (m := (L.getD i []).length) (f' := fun k => trowA ((L.getD i []).getD k trow0)) (szx := 8) (n := (L.take i).flatten.length) (cap := cap) (cs := cs) (i := (0, s)) rfl rfl (.inl rfl) Tryz.underlying37 gr_trow (.inr gc_trow.symm) (by rfl) (by omega) (by rw [gc_trow]; omega) (fun k hk => g1_trow _) (fun _ => by rw [gb_trow]; omega) (fun _ => by omega) (fun hm => ?_) (fun hm hfit => ?_) (fun hm hnf => absurd (by omega) hnf)
          · have e3 : L.getD i [] = [] := List.eq_nil_of_length_eq_zero hm
            rw [e3, List.append_nil] at hfl
            refine stp ?_
            exact back (i + 1, cs, nx3) ⟨hi, h2, by dsimp only; rw [hfl]; exact h3⟩ (by dsimp only; omega) (ele_tell _ _ rfl rfl (List.Sublist.refl _) .slnil (BxLe.refl _) trivial ⟨AVle.of_eq (congrArg (fun z => AV.hs (0, s) 0 z cap) (by rw [hfl] : (L.take i).flatten.length = (L.take (i + 1)).flatten.length)), AVle.refl _, AVle.refl _, le_int (wrap_succ (by first | omega | (dsimp only; omega))), trivial⟩)
          · refine stp ?_
            refine back (i + 1, splice cs ((L.take i).flatten.length * 8) ((L.getD i []).flatMap fun x => (trowA x).cells), nx3) ⟨hi, ?_, ?_⟩ (by dsimp only; omega) (ele_tell _ _ rfl rfl (List.Sublist.refl _) .slnil ⟨rfl, ownEq_trow (congrArg Own.c ?_), trivial⟩ trivial ⟨AVle.of_eq (congrArg (fun z => AV.hs (0, s) 0 z cap) e1.symm), AVle.refl _, AVle.refl _, le_int (wrap_succ (by first | omega | (dsimp only; omega))), trivial⟩)
            · have hf := flen_trow (L.getD i [])
              simp only [splice_def, List.length_append, List.length_take, List.length_drop, hf]
              omega
            · have hf := flen_trow (L.getD i [])
              dsimp only
              rw [hfl, List.flatMap_append, splice_def, List.length_append, ← List.append_assoc, h3]
              have hpl : (List.flatMap (fun x => (trowA x).cells) (L.take i).flatten ++ List.flatMap (fun x => (trowA x).cells) (L.getD i [])).length = ((L.take i).flatten.length + (L.getD i []).length) * 8 := by
                rw [List.length_append, hf, flen_trow]; omega
              rw [← hpl, List.take_left]
            · rw [gc_trow, flat_trow]
end Go.Proofs.W


namespace Go.Proofs.W
open Go.Vl
set_option maxRecDepth 100000
def earlyL : List TRow := [
  ⟨⟨#[97, 99, 99, 101, 112, 116]⟩, 43, 43, -1, 202, 202, 1, 5⟩,
  ⟨⟨#[97, 99, 99, 101, 112, 116, 52]⟩, 288, 288, 364, 242, 242, 1, 18⟩,
  ⟨⟨#[98, 105, 110, 100]⟩, 49, 49, 361, 200, 200, 1, 2⟩,
  ⟨⟨#[98, 114, 107]⟩, 12, 12, 45, 214, 214, 0, 0⟩,
  ⟨⟨#[99, 108, 111, 110, 101]⟩, 56, 56, 120, 220, 220, 0, 0⟩,
  ⟨⟨#[99, 108, 111, 115, 101]⟩, 3, 3, 6, 57, 57, 0, 0⟩,
  ⟨⟨#[99, 111, 110, 110, 101, 99, 116]⟩, 42, 42, 362, 203, 203, 1, 3⟩,
  ⟨⟨#[100, 117, 112]⟩, 32, 32, 41, 23, 23, 0, 0⟩,
  ⟨⟨#[100, 117, 112, 50]⟩, 33, 33, 63, -1, -1, 0, 0⟩,
  ⟨⟨#[101, 112, 111, 108, 108, 95, 99, 114, 101, 97, 116, 101, 49]⟩, 291, 291, 329, 20, 20, 0, 0⟩,
  ⟨⟨#[101, 112, 111, 108, 108, 95, 99, 116, 108]⟩, 233, 233, 255, 21, 21, 0, 0⟩,
  ⟨⟨#[101, 112, 111, 108, 108, 95, 119, 97, 105, 116]⟩, 232, 232, 256, -1, -1, 0, 0⟩,
  ⟨⟨#[101, 120, 101, 99, 118, 101]⟩, 59, 520, 11, 221, 221, 0, 0⟩,
  ⟨⟨#[101, 120, 105, 116]⟩, 60, 60, 1, 93, 93, 0, 0⟩,
  ⟨⟨#[101, 120, 105, 116, 95, 103, 114, 111, 117, 112]⟩, 231, 231, 252, 94, 94, 0, 0⟩,
  ⟨⟨#[102, 99, 104, 100, 105, 114]⟩, 81, 81, 133, 50, 50, 0, 0⟩,
  ⟨⟨#[102, 99, 110, 116, 108]⟩, 72, 72, 55, 25, 25, 0, 0⟩,
  ⟨⟨#[102, 111, 114, 107]⟩, 57, 57, 2, -1, -1, 0, 0⟩,
  ⟨⟨#[102, 115, 116, 97, 116]⟩, 5, 5, 108, 80, 80, 0, 0⟩,
  ⟨⟨#[102, 117, 116, 101, 120]⟩, 202, 202, 240, 98, 98, 0, 0⟩,
  ⟨⟨#[103, 101, 116, 99, 119, 100]⟩, 79, 79, 183, 17, 17, 0, 0⟩,
  ⟨⟨#[103, 101, 116, 112, 101, 101, 114, 110, 97, 109, 101]⟩, 52, 52, 368, 205, 205, 1, 7⟩,
  ⟨⟨#[103, 101, 116, 112, 105, 100]⟩, 39, 39, 20, 172, 172, 0, 0⟩,
  ⟨⟨#[103, 101, 116, 114, 97, 110, 100, 111, 109]⟩, 318, 318, 355, 278, 278, 0, 0⟩,
  ⟨⟨#[103, 101, 116, 115, 111, 99, 107, 110, 97, 109, 101]⟩, 51, 51, 367, 204, 204, 1, 6⟩,
  ⟨⟨#[103, 101, 116, 115, 111, 99, 107, 111, 112, 116]⟩, 55, 542, 365, 209, 209, 1, 15⟩,
  ⟨⟨#[103, 101, 116, 117, 105, 100]⟩, 102, 102, 24, 174, 174, 0, 0⟩,
  ⟨⟨#[105, 111, 99, 116, 108]⟩, 16, 514, 54, 29, 29, 0, 0⟩,
  ⟨⟨#[107, 105, 108, 108]⟩, 62, 62, 37, 129, 129, 0, 0⟩,
  ⟨⟨#[108, 105, 115, 116, 101, 110]⟩, 50, 50, 363, 201, 201, 1, 4⟩]
theorem build_early : abuildCells Tryz.prog 37 30 [(0, trowA ⟨⟨#[97, 99, 99, 101, 112, 116]⟩, 43, 43, -1, 202, 202, 1, 5⟩), (1, trowA ⟨⟨#[97, 99, 99, 101, 112, 116, 52]⟩, 288, 288, 364, 242, 242, 1, 18⟩), (2, trowA ⟨⟨#[98, 105, 110, 100]⟩, 49, 49, 361, 200, 200, 1, 2⟩), (3, trowA ⟨⟨#[98, 114, 107]⟩, 12, 12, 45, 214, 214, 0, 0⟩), (4, trowA ⟨⟨#[99, 108, 111, 110, 101]⟩, 56, 56, 120, 220, 220, 0, 0⟩), (5, trowA ⟨⟨#[99, 108, 111, 115, 101]⟩, 3, 3, 6, 57, 57, 0, 0⟩), (6, trowA ⟨⟨#[99, 111, 110, 110, 101, 99, 116]⟩, 42, 42, 362, 203, 203, 1, 3⟩), (7, trowA ⟨⟨#[100, 117, 112]⟩, 32, 32, 41, 23, 23, 0, 0⟩), (8, trowA ⟨⟨#[100, 117, 112, 50]⟩, 33, 33, 63, -1, -1, 0, 0⟩), (9, trowA ⟨⟨#[101, 112, 111, 108, 108, 95, 99, 114, 101, 97, 116, 101, 49]⟩, 291, 291, 329, 20, 20, 0, 0⟩), (10, trowA ⟨⟨#[101, 112, 111, 108, 108, 95, 99, 116, 108]⟩, 233, 233, 255, 21, 21, 0, 0⟩), (11, trowA ⟨⟨#[101, 112, 111, 108, 108, 95, 119, 97, 105, 116]⟩, 232, 232, 256, -1, -1, 0, 0⟩), (12, trowA ⟨⟨#[101, 120, 101, 99, 118, 101]⟩, 59, 520, 11, 221, 221, 0, 0⟩), (13, trowA ⟨⟨#[101, 120, 105, 116]⟩, 60, 60, 1, 93, 93, 0, 0⟩), (14, trowA ⟨⟨#[101, 120, 105, 116, 95, 103, 114, 111, 117, 112]⟩, 231, 231, 252, 94, 94, 0, 0⟩), (15, trowA ⟨⟨#[102, 99, 104, 100, 105, 114]⟩, 81, 81, 133, 50, 50, 0, 0⟩), (16, trowA ⟨⟨#[102, 99, 110, 116, 108]⟩, 72, 72, 55, 25, 25, 0, 0⟩), (17, trowA ⟨⟨#[102, 111, 114, 107]⟩, 57, 57, 2, -1, -1, 0, 0⟩), (18, trowA ⟨⟨#[102, 115, 116, 97, 116]⟩, 5, 5, 108, 80, 80, 0, 0⟩), (19, trowA ⟨⟨#[102, 117, 116, 101, 120]⟩, 202, 202, 240, 98, 98, 0, 0⟩), (20, trowA ⟨⟨#[103, 101, 116, 99, 119, 100]⟩, 79, 79, 183, 17, 17, 0, 0⟩), (21, trowA ⟨⟨#[103, 101, 116, 112, 101, 101, 114, 110, 97, 109, 101]⟩, 52, 52, 368, 205, 205, 1, 7⟩), (22, trowA ⟨⟨#[103, 101, 116, 112, 105, 100]⟩, 39, 39, 20, 172, 172, 0, 0⟩), (23, trowA ⟨⟨#[103, 101, 116, 114, 97, 110, 100, 111, 109]⟩, 318, 318, 355, 278, 278, 0, 0⟩), (24, trowA ⟨⟨#[103, 101, 116, 115, 111, 99, 107, 110, 97, 109, 101]⟩, 51, 51, 367, 204, 204, 1, 6⟩), (25, trowA ⟨⟨#[103, 101, 116, 115, 111, 99, 107, 111, 112, 116]⟩, 55, 542, 365, 209, 209, 1, 15⟩), (26, trowA ⟨⟨#[103, 101, 116, 117, 105, 100]⟩, 102, 102, 24, 174, 174, 0, 0⟩), (27, trowA ⟨⟨#[105, 111, 99, 116, 108]⟩, 16, 514, 54, 29, 29, 0, 0⟩), (28, trowA ⟨⟨#[107, 105, 108, 108]⟩, 62, 62, 37, 129, 129, 0, 0⟩), (29, trowA ⟨⟨#[108, 105, 115, 116, 101, 110]⟩, 50, 50, 363, 201, 201, 1, 4⟩)] = some (62, [strA ⟨#[97, 99, 99, 101, 112, 116]⟩, int (43), int (43), int (-1), int (202), int (202), int 1, int 5, strA ⟨#[97, 99, 99, 101, 112, 116, 52]⟩, int (288), int (288), int (364), int (242), int (242), int 1, int 18, strA ⟨#[98, 105, 110, 100]⟩, int (49), int (49), int (361), int (200), int (200), int 1, int 2, strA ⟨#[98, 114, 107]⟩, int (12), int (12), int (45), int (214), int (214), int 0, int 0, strA ⟨#[99, 108, 111, 110, 101]⟩, int (56), int (56), int (120), int (220), int (220), int 0, int 0, strA ⟨#[99, 108, 111, 115, 101]⟩, int (3), int (3), int (6), int (57), int (57), int 0, int 0, strA ⟨#[99, 111, 110, 110, 101, 99, 116]⟩, int (42), int (42), int (362), int (203), int (203), int 1, int 3, strA ⟨#[100, 117, 112]⟩, int (32), int (32), int (41), int (23), int (23), int 0, int 0, strA ⟨#[100, 117, 112, 50]⟩, int (33), int (33), int (63), int (-1), int (-1), int 0, int 0, strA ⟨#[101, 112, 111, 108, 108, 95, 99, 114, 101, 97, 116, 101, 49]⟩, int (291), int (291), int (329), int (20), int (20), int 0, int 0, strA ⟨#[101, 112, 111, 108, 108, 95, 99, 116, 108]⟩, int (233), int (233), int (255), int (21), int (21), int 0, int 0, strA ⟨#[101, 112, 111, 108, 108, 95, 119, 97, 105, 116]⟩, int (232), int (232), int (256), int (-1), int (-1), int 0, int 0, strA ⟨#[101, 120, 101, 99, 118, 101]⟩, int (59), int (520), int (11), int (221), int (221), int 0, int 0, strA ⟨#[101, 120, 105, 116]⟩, int (60), int (60), int (1), int (93), int (93), int 0, int 0, strA ⟨#[101, 120, 105, 116, 95, 103, 114, 111, 117, 112]⟩, int (231), int (231), int (252), int (94), int (94), int 0, int 0, strA ⟨#[102, 99, 104, 100, 105, 114]⟩, int (81), int (81), int (133), int (50), int (50), int 0, int 0, strA ⟨#[102, 99, 110, 116, 108]⟩, int (72), int (72), int (55), int (25), int (25), int 0, int 0, strA ⟨#[102, 111, 114, 107]⟩, int (57), int (57), int (2), int (-1), int (-1), int 0, int 0, strA ⟨#[102, 115, 116, 97, 116]⟩, int (5), int (5), int (108), int (80), int (80), int 0, int 0, strA ⟨#[102, 117, 116, 101, 120]⟩, int (202), int (202), int (240), int (98), int (98), int 0, int 0, strA ⟨#[103, 101, 116, 99, 119, 100]⟩, int (79), int (79), int (183), int (17), int (17), int 0, int 0, strA ⟨#[103, 101, 116, 112, 101, 101, 114, 110, 97, 109, 101]⟩, int (52), int (52), int (368), int (205), int (205), int 1, int 7, strA ⟨#[103, 101, 116, 112, 105, 100]⟩, int (39), int (39), int (20), int (172), int (172), int 0, int 0, strA ⟨#[103, 101, 116, 114, 97, 110, 100, 111, 109]⟩, int (318), int (318), int (355), int (278), int (278), int 0, int 0, strA ⟨#[103, 101, 116, 115, 111, 99, 107, 110, 97, 109, 101]⟩, int (51), int (51), int (367), int (204), int (204), int 1, int 6, strA ⟨#[103, 101, 116, 115, 111, 99, 107, 111, 112, 116]⟩, int (55), int (542), int (365), int (209), int (209), int 1, int 15, strA ⟨#[103, 101, 116, 117, 105, 100]⟩, int (102), int (102), int (24), int (174), int (174), int 0, int 0, strA ⟨#[105, 111, 99, 116, 108]⟩, int (16), int (514), int (54), int (29), int (29), int 0, int 0, strA ⟨#[107, 105, 108, 108]⟩, int (62), int (62), int (37), int (129), int (129), int 0, int 0, strA ⟨#[108, 105, 115, 116, 101, 110]⟩, int (50), int (50), int (363), int (201), int (201), int 1, int 4]) := by kernel_rfl
set_option maxHeartbeats 4000000 in
theorem early_spec : Tells Tryz.prog 49 [] (trows earlyL) := by
  refine tells_of_aw Tryz.func49 rfl rfl fun nx => ?_
  (refine stpR ?_; refine aw_region ?_; refine stpR ?_)
  refine aw_regionY (fun n => match n with | 0 => true | _ => false) 61 ?_
  refine stp ?_
  refine aop_build rfl build_early ?_
  refine stp ?_
  refine ret_tells rfl (AVle.os_sl.trans (AVle.sl_fun fun k hk => ?_))
  match k, hk with
  | 0, _ => rfl
  | 1, _ => rfl
  | 2, _ => rfl
  | 3, _ => rfl
  | 4, _ => rfl
  | 5, _ => rfl
  | 6, _ => rfl
  | 7, _ => rfl
  | 8, _ => rfl
  | 9, _ => rfl
  | 10, _ => rfl
  | 11, _ => rfl
  | 12, _ => rfl
  | 13, _ => rfl
  | 14, _ => rfl
  | 15, _ => rfl
  | 16, _ => rfl
  | 17, _ => rfl
  | 18, _ => rfl
  | 19, _ => rfl
  | 20, _ => rfl
  | 21, _ => rfl
  | 22, _ => rfl
  | 23, _ => rfl
  | 24, _ => rfl
  | 25, _ => rfl
  | 26, _ => rfl
  | 27, _ => rfl
  | 28, _ => rfl
  | 29, _ => rfl
  | k + 30, hk => exact absurd hk (by omega)
def lateL : List TRow := [
  ⟨⟨#[108, 115, 101, 101, 107]⟩, 8, 8, 19, 62, 62, 0, 0⟩,
  ⟨⟨#[109, 107, 100, 105, 114]⟩, 83, 83, 39, -1, -1, 0, 0⟩,
  ⟨⟨#[109, 109, 97, 112]⟩, 9, 9, -1, 222, 222, 0, 0⟩,
  ⟨⟨#[109, 109, 97, 112, 50]⟩, -1, -1, 192, -1, -1, 0, 0⟩,
  ⟨⟨#[109, 112, 114, 111, 116, 101, 99, 116]⟩, 10, 10, 125, 226, 226, 0, 0⟩,
  ⟨⟨#[109, 115, 103, 99, 116, 108]⟩, 71, 71, 402, 187, 187, 2, 14⟩,
  ⟨⟨#[109, 115, 103, 103, 101, 116]⟩, 68, 68, 399, 186, 186, 2, 13⟩,
  ⟨⟨#[109, 115, 103, 114, 99, 118]⟩, 70, 70, 401, 188, 188, 2, 12⟩,
  ⟨⟨#[109, 115, 103, 115, 110, 100]⟩, 69, 69, 400, 189, 189, 2, 11⟩,
  ⟨⟨#[109, 117, 110, 109, 97, 112]⟩, 11, 11, 91, 215, 215, 0, 0⟩,
  ⟨⟨#[110, 97, 110, 111, 115, 108, 101, 101, 112]⟩, 35, 35, 162, 101, 101, 0, 0⟩,
  ⟨⟨#[111, 112, 101, 110]⟩, 2, 2, 5, -1, -1, 0, 0⟩,
  ⟨⟨#[111, 112, 101, 110, 97, 116]⟩, 257, 257, 295, 56, 56, 0, 0⟩,
  ⟨⟨#[112, 105, 112, 101]⟩, 22, 22, 42, -1, -1, 0, 0⟩,
  ⟨⟨#[112, 105, 112, 101, 50]⟩, 293, 293, 331, 59, 59, 0, 0⟩,
  ⟨⟨#[112, 111, 108, 108]⟩, 7, 7, 168, -1, -1, 0, 0⟩,
  ⟨⟨#[112, 114, 101, 97, 100, 54, 52]⟩, 17, 17, 180, 67, 67, 0, 0⟩,
  ⟨⟨#[112, 114, 108, 105, 109, 105, 116, 54, 52]⟩, 302, 302, 340, 261, 261, 0, 0⟩,
  ⟨⟨#[112, 116, 114, 97, 99, 101]⟩, 101, 521, 26, 117, 117, 0, 0⟩,
  ⟨⟨#[112, 119, 114, 105, 116, 101, 54, 52]⟩, 18, 18, 181, 68, 68, 0, 0⟩,
  ⟨⟨#[114, 101, 97, 100]⟩, 0, 0, 3, 63, 63, 0, 0⟩,
  ⟨⟨#[114, 101, 97, 100, 118]⟩, 19, 515, 145, 65, 65, 0, 0⟩,
  ⟨⟨#[114, 101, 99, 118]⟩, -1, -1, -1, -1, -1, 1, 10⟩,
  ⟨⟨#[114, 101, 99, 118, 102, 114, 111, 109]⟩, 45, 517, 371, 207, 207, 1, 12⟩,
  ⟨⟨#[114, 101, 99, 118, 109, 115, 103]⟩, 47, 519, 372, 212, 212, 1, 17⟩,
  ⟨⟨#[114, 101, 110, 97, 109, 101]⟩, 82, 82, 38, -1, -1, 0, 0⟩,
  ⟨⟨#[114, 105, 115, 99, 118, 95, 102, 108, 117, 115, 104, 95, 105, 99, 97, 99, 104, 101]⟩, -1, -1, -1, -1, 259, 0, 0⟩,
  ⟨⟨#[114, 116, 95, 115, 105, 103, 97, 99, 116, 105, 111, 110]⟩, 13, 512, 174, 134, 134, 0, 0⟩,
  ⟨⟨#[114, 116, 95, 115, 105, 103, 114, 101, 116, 117, 114, 110]⟩, 15, 513, 173, 139, 139, 0, 0⟩,
  ⟨⟨#[115, 101, 99, 99, 111, 109, 112]⟩, 317, 317, 354, 277, 277, 0, 0⟩,
  ⟨⟨#[115, 101, 108, 101, 99, 116]⟩, 23, 23, 82, -1, -1, 0, 0⟩,
  ⟨⟨#[115, 101, 109, 99, 116, 108]⟩, 66, 66, 394, 191, 191, 2, 3⟩,
  ⟨⟨#[115, 101, 109, 103, 101, 116]⟩, 64, 64, 393, 190, 190, 2, 2⟩,
  ⟨⟨#[115, 101, 109, 111, 112]⟩, 65, 65, -1, 193, 193, 2, 1⟩,
  ⟨⟨#[115, 101, 110, 100]⟩, -1, -1, -1, -1, -1, 1, 9⟩,
  ⟨⟨#[115, 101, 110, 100, 109, 115, 103]⟩, 46, 518, 370, 211, 211, 1, 16⟩,
  ⟨⟨#[115, 101, 110, 100, 116, 111]⟩, 44, 44, 369, 206, 206, 1, 11⟩,
  ⟨⟨#[115, 101, 116, 115, 111, 99, 107, 111, 112, 116]⟩, 54, 541, 366, 208, 208, 1, 14⟩,
  ⟨⟨#[115, 104, 109, 97, 116]⟩, 30, 30, 397, 196, 196, 2, 21⟩,
  ⟨⟨#[115, 104, 109, 99, 116, 108]⟩, 31, 31, 396, 195, 195, 2, 24⟩,
  ⟨⟨#[115, 104, 109, 100, 116]⟩, 67, 67, 398, 197, 197, 2, 22⟩,
  ⟨⟨#[115, 104, 109, 103, 101, 116]⟩, 29, 29, 395, 194, 194, 2, 23⟩,
  ⟨⟨#[115, 104, 117, 116, 100, 111, 119, 110]⟩, 48, 48, 373, 210, 210, 1, 13⟩,
  ⟨⟨#[115, 111, 99, 107, 101, 116]⟩, 41, 41, 359, 198, 198, 1, 1⟩,
  ⟨⟨#[115, 111, 99, 107, 101, 116, 112, 97, 105, 114]⟩, 53, 53, 360, 199, 199, 1, 8⟩,
  ⟨⟨#[115, 116, 97, 116]⟩, 4, 4, 106, -1, -1, 0, 0⟩,
  ⟨⟨#[116, 105, 109, 101]⟩, 201, 201, 13, -1, -1, 0, 0⟩,
  ⟨⟨#[117, 110, 97, 109, 101]⟩, 63, 63, 122, 160, 160, 0, 0⟩,
  ⟨⟨#[117, 110, 108, 105, 110, 107]⟩, 87, 87, 10, -1, -1, 0, 0⟩,
  ⟨⟨#[118, 102, 111, 114, 107]⟩, 58, 58, 190, -1, -1, 0, 0⟩,
  ⟨⟨#[119, 97, 105, 116, 112, 105, 100]⟩, -1, -1, 7, -1, -1, 0, 0⟩,
  ⟨⟨#[119, 114, 105, 116, 101]⟩, 1, 1, 4, 64, 64, 0, 0⟩,
  ⟨⟨#[119, 114, 105, 116, 101, 118]⟩, 20, 516, 146, 66, 66, 0, 0⟩]
theorem build_late : abuildCells Tryz.prog 37 53 [(0, trowA ⟨⟨#[108, 115, 101, 101, 107]⟩, 8, 8, 19, 62, 62, 0, 0⟩), (1, trowA ⟨⟨#[109, 107, 100, 105, 114]⟩, 83, 83, 39, -1, -1, 0, 0⟩), (2, trowA ⟨⟨#[109, 109, 97, 112]⟩, 9, 9, -1, 222, 222, 0, 0⟩), (3, trowA ⟨⟨#[109, 109, 97, 112, 50]⟩, -1, -1, 192, -1, -1, 0, 0⟩), (4, trowA ⟨⟨#[109, 112, 114, 111, 116, 101, 99, 116]⟩, 10, 10, 125, 226, 226, 0, 0⟩), (5, trowA ⟨⟨#[109, 115, 103, 99, 116, 108]⟩, 71, 71, 402, 187, 187, 2, 14⟩), (6, trowA ⟨⟨#[109, 115, 103, 103, 101, 116]⟩, 68, 68, 399, 186, 186, 2, 13⟩), (7, trowA ⟨⟨#[109, 115, 103, 114, 99, 118]⟩, 70, 70, 401, 188, 188, 2, 12⟩), (8, trowA ⟨⟨#[109, 115, 103, 115, 110, 100]⟩, 69, 69, 400, 189, 189, 2, 11⟩), (9, trowA ⟨⟨#[109, 117, 110, 109, 97, 112]⟩, 11, 11, 91, 215, 215, 0, 0⟩), (10, trowA ⟨⟨#[110, 97, 110, 111, 115, 108, 101, 101, 112]⟩, 35, 35, 162, 101, 101, 0, 0⟩), (11, trowA ⟨⟨#[111, 112, 101, 110]⟩, 2, 2, 5, -1, -1, 0, 0⟩), (12, trowA ⟨⟨#[111, 112, 101, 110, 97, 116]⟩, 257, 257, 295, 56, 56, 0, 0⟩), (13, trowA ⟨⟨#[112, 105, 112, 101]⟩, 22, 22, 42, -1, -1, 0, 0⟩), (14, trowA ⟨⟨#[112, 105, 112, 101, 50]⟩, 293, 293, 331, 59, 59, 0, 0⟩), (15, trowA ⟨⟨#[112, 111, 108, 108]⟩, 7, 7, 168, -1, -1, 0, 0⟩), (16, trowA ⟨⟨#[112, 114, 101, 97, 100, 54, 52]⟩, 17, 17, 180, 67, 67, 0, 0⟩), (17, trowA ⟨⟨#[112, 114, 108, 105, 109, 105, 116, 54, 52]⟩, 302, 302, 340, 261, 261, 0, 0⟩), (18, trowA ⟨⟨#[112, 116, 114, 97, 99, 101]⟩, 101, 521, 26, 117, 117, 0, 0⟩), (19, trowA ⟨⟨#[112, 119, 114, 105, 116, 101, 54, 52]⟩, 18, 18, 181, 68, 68, 0, 0⟩), (20, trowA ⟨⟨#[114, 101, 97, 100]⟩, 0, 0, 3, 63, 63, 0, 0⟩), (21, trowA ⟨⟨#[114, 101, 97, 100, 118]⟩, 19, 515, 145, 65, 65, 0, 0⟩), (22, trowA ⟨⟨#[114, 101, 99, 118]⟩, -1, -1, -1, -1, -1, 1, 10⟩), (23, trowA ⟨⟨#[114, 101, 99, 118, 102, 114, 111, 109]⟩, 45, 517, 371, 207, 207, 1, 12⟩), (24, trowA ⟨⟨#[114, 101, 99, 118, 109, 115, 103]⟩, 47, 519, 372, 212, 212, 1, 17⟩), (25, trowA ⟨⟨#[114, 101, 110, 97, 109, 101]⟩, 82, 82, 38, -1, -1, 0, 0⟩), (26, trowA ⟨⟨#[114, 105, 115, 99, 118, 95, 102, 108, 117, 115, 104, 95, 105, 99, 97, 99, 104, 101]⟩, -1, -1, -1, -1, 259, 0, 0⟩), (27, trowA ⟨⟨#[114, 116, 95, 115, 105, 103, 97, 99, 116, 105, 111, 110]⟩, 13, 512, 174, 134, 134, 0, 0⟩), (28, trowA ⟨⟨#[114, 116, 95, 115, 105, 103, 114, 101, 116, 117, 114, 110]⟩, 15, 513, 173, 139, 139, 0, 0⟩), (29, trowA ⟨⟨#[115, 101, 99, 99, 111, 109, 112]⟩, 317, 317, 354, 277, 277, 0, 0⟩), (30, trowA ⟨⟨#[115, 101, 108, 101, 99, 116]⟩, 23, 23, 82, -1, -1, 0, 0⟩), (31, trowA ⟨⟨#[115, 101, 109, 99, 116, 108]⟩, 66, 66, 394, 191, 191, 2, 3⟩), (32, trowA ⟨⟨#[115, 101, 109, 103, 101, 116]⟩, 64, 64, 393, 190, 190, 2, 2⟩), (33, trowA ⟨⟨#[115, 101, 109, 111, 112]⟩, 65, 65, -1, 193, 193, 2, 1⟩), (34, trowA ⟨⟨#[115, 101, 110, 100]⟩, -1, -1, -1, -1, -1, 1, 9⟩), (35, trowA ⟨⟨#[115, 101, 110, 100, 109, 115, 103]⟩, 46, 518, 370, 211, 211, 1, 16⟩), (36, trowA ⟨⟨#[115, 101, 110, 100, 116, 111]⟩, 44, 44, 369, 206, 206, 1, 11⟩), (37, trowA ⟨⟨#[115, 101, 116, 115, 111, 99, 107, 111, 112, 116]⟩, 54, 541, 366, 208, 208, 1, 14⟩), (38, trowA ⟨⟨#[115, 104, 109, 97, 116]⟩, 30, 30, 397, 196, 196, 2, 21⟩), (39, trowA ⟨⟨#[115, 104, 109, 99, 116, 108]⟩, 31, 31, 396, 195, 195, 2, 24⟩), (40, trowA ⟨⟨#[115, 104, 109, 100, 116]⟩, 67, 67, 398, 197, 197, 2, 22⟩), (41, trowA ⟨⟨#[115, 104, 109, 103, 101, 116]⟩, 29, 29, 395, 194, 194, 2, 23⟩), (42, trowA ⟨⟨#[115, 104, 117, 116, 100, 111, 119, 110]⟩, 48, 48, 373, 210, 210, 1, 13⟩), (43, trowA ⟨⟨#[115, 111, 99, 107, 101, 116]⟩, 41, 41, 359, 198, 198, 1, 1⟩), (44, trowA ⟨⟨#[115, 111, 99, 107, 101, 116, 112, 97, 105, 114]⟩, 53, 53, 360, 199, 199, 1, 8⟩), (45, trowA ⟨⟨#[115, 116, 97, 116]⟩, 4, 4, 106, -1, -1, 0, 0⟩), (46, trowA ⟨⟨#[116, 105, 109, 101]⟩, 201, 201, 13, -1, -1, 0, 0⟩), (47, trowA ⟨⟨#[117, 110, 97, 109, 101]⟩, 63, 63, 122, 160, 160, 0, 0⟩), (48, trowA ⟨⟨#[117, 110, 108, 105, 110, 107]⟩, 87, 87, 10, -1, -1, 0, 0⟩), (49, trowA ⟨⟨#[118, 102, 111, 114, 107]⟩, 58, 58, 190, -1, -1, 0, 0⟩), (50, trowA ⟨⟨#[119, 97, 105, 116, 112, 105, 100]⟩, -1, -1, 7, -1, -1, 0, 0⟩), (51, trowA ⟨⟨#[119, 114, 105, 116, 101]⟩, 1, 1, 4, 64, 64, 0, 0⟩), (52, trowA ⟨⟨#[119, 114, 105, 116, 101, 118]⟩, 20, 516, 146, 66, 66, 0, 0⟩)] = some (62, [strA ⟨#[108, 115, 101, 101, 107]⟩, int (8), int (8), int (19), int (62), int (62), int 0, int 0, strA ⟨#[109, 107, 100, 105, 114]⟩, int (83), int (83), int (39), int (-1), int (-1), int 0, int 0, strA ⟨#[109, 109, 97, 112]⟩, int (9), int (9), int (-1), int (222), int (222), int 0, int 0, strA ⟨#[109, 109, 97, 112, 50]⟩, int (-1), int (-1), int (192), int (-1), int (-1), int 0, int 0, strA ⟨#[109, 112, 114, 111, 116, 101, 99, 116]⟩, int (10), int (10), int (125), int (226), int (226), int 0, int 0, strA ⟨#[109, 115, 103, 99, 116, 108]⟩, int (71), int (71), int (402), int (187), int (187), int 2, int 14, strA ⟨#[109, 115, 103, 103, 101, 116]⟩, int (68), int (68), int (399), int (186), int (186), int 2, int 13, strA ⟨#[109, 115, 103, 114, 99, 118]⟩, int (70), int (70), int (401), int (188), int (188), int 2, int 12, strA ⟨#[109, 115, 103, 115, 110, 100]⟩, int (69), int (69), int (400), int (189), int (189), int 2, int 11, strA ⟨#[109, 117, 110, 109, 97, 112]⟩, int (11), int (11), int (91), int (215), int (215), int 0, int 0, strA ⟨#[110, 97, 110, 111, 115, 108, 101, 101, 112]⟩, int (35), int (35), int (162), int (101), int (101), int 0, int 0, strA ⟨#[111, 112, 101, 110]⟩, int (2), int (2), int (5), int (-1), int (-1), int 0, int 0, strA ⟨#[111, 112, 101, 110, 97, 116]⟩, int (257), int (257), int (295), int (56), int (56), int 0, int 0, strA ⟨#[112, 105, 112, 101]⟩, int (22), int (22), int (42), int (-1), int (-1), int 0, int 0, strA ⟨#[112, 105, 112, 101, 50]⟩, int (293), int (293), int (331), int (59), int (59), int 0, int 0, strA ⟨#[112, 111, 108, 108]⟩, int (7), int (7), int (168), int (-1), int (-1), int 0, int 0, strA ⟨#[112, 114, 101, 97, 100, 54, 52]⟩, int (17), int (17), int (180), int (67), int (67), int 0, int 0, strA ⟨#[112, 114, 108, 105, 109, 105, 116, 54, 52]⟩, int (302), int (302), int (340), int (261), int (261), int 0, int 0, strA ⟨#[112, 116, 114, 97, 99, 101]⟩, int (101), int (521), int (26), int (117), int (117), int 0, int 0, strA ⟨#[112, 119, 114, 105, 116, 101, 54, 52]⟩, int (18), int (18), int (181), int (68), int (68), int 0, int 0, strA ⟨#[114, 101, 97, 100]⟩, int (0), int (0), int (3), int (63), int (63), int 0, int 0, strA ⟨#[114, 101, 97, 100, 118]⟩, int (19), int (515), int (145), int (65), int (65), int 0, int 0, strA ⟨#[114, 101, 99, 118]⟩, int (-1), int (-1), int (-1), int (-1), int (-1), int 1, int 10, strA ⟨#[114, 101, 99, 118, 102, 114, 111, 109]⟩, int (45), int (517), int (371), int (207), int (207), int 1, int 12, strA ⟨#[114, 101, 99, 118, 109, 115, 103]⟩, int (47), int (519), int (372), int (212), int (212), int 1, int 17, strA ⟨#[114, 101, 110, 97, 109, 101]⟩, int (82), int (82), int (38), int (-1), int (-1), int 0, int 0, strA ⟨#[114, 105, 115, 99, 118, 95, 102, 108, 117, 115, 104, 95, 105, 99, 97, 99, 104, 101]⟩, int (-1), int (-1), int (-1), int (-1), int (259), int 0, int 0, strA ⟨#[114, 116, 95, 115, 105, 103, 97, 99, 116, 105, 111, 110]⟩, int (13), int (512), int (174), int (134), int (134), int 0, int 0, strA ⟨#[114, 116, 95, 115, 105, 103, 114, 101, 116, 117, 114, 110]⟩, int (15), int (513), int (173), int (139), int (139), int 0, int 0, strA ⟨#[115, 101, 99, 99, 111, 109, 112]⟩, int (317), int (317), int (354), int (277), int (277), int 0, int 0, strA ⟨#[115, 101, 108, 101, 99, 116]⟩, int (23), int (23), int (82), int (-1), int (-1), int 0, int 0, strA ⟨#[115, 101, 109, 99, 116, 108]⟩, int (66), int (66), int (394), int (191), int (191), int 2, int 3, strA ⟨#[115, 101, 109, 103, 101, 116]⟩, int (64), int (64), int (393), int (190), int (190), int 2, int 2, strA ⟨#[115, 101, 109, 111, 112]⟩, int (65), int (65), int (-1), int (193), int (193), int 2, int 1, strA ⟨#[115, 101, 110, 100]⟩, int (-1), int (-1), int (-1), int (-1), int (-1), int 1, int 9, strA ⟨#[115, 101, 110, 100, 109, 115, 103]⟩, int (46), int (518), int (370), int (211), int (211), int 1, int 16, strA ⟨#[115, 101, 110, 100, 116, 111]⟩, int (44), int (44), int (369), int (206), int (206), int 1, int 11, strA ⟨#[115, 101, 116, 115, 111, 99, 107, 111, 112, 116]⟩, int (54), int (541), int (366), int (208), int (208), int 1, int 14, strA ⟨#[115, 104, 109, 97, 116]⟩, int (30), int (30), int (397), int (196), int (196), int 2, int 21, strA ⟨#[115, 104, 109, 99, 116, 108]⟩, int (31), int (31), int (396), int (195), int (195), int 2, int 24, strA ⟨#[115, 104, 109, 100, 116]⟩, int (67), int (67), int (398), int (197), int (197), int 2, int 22, strA ⟨#[115, 104, 109, 103, 101, 116]⟩, int (29), int (29), int (395), int (194), int (194), int 2, int 23, strA ⟨#[115, 104, 117, 116, 100, 111, 119, 110]⟩, int (48), int (48), int (373), int (210), int (210), int 1, int 13, strA ⟨#[115, 111, 99, 107, 101, 116]⟩, int (41), int (41), int (359), int (198), int (198), int 1, int 1, strA ⟨#[115, 111, 99, 107, 101, 116, 112, 97, 105, 114]⟩, int (53), int (53), int (360), int (199), int (199), int 1, int 8, strA ⟨#[115, 116, 97, 116]⟩, int (4), int (4), int (106), int (-1), int (-1), int 0, int 0, strA ⟨#[116, 105, 109, 101]⟩, int (201), int (201), int (13), int (-1), int (-1), int 0, int 0, strA ⟨#[117, 110, 97, 109, 101]⟩, int (63), int (63), int (122), int (160), int (160), int 0, int 0, strA ⟨#[117, 110, 108, 105, 110, 107]⟩, int (87), int (87), int (10), int (-1), int (-1), int 0, int 0, strA ⟨#[118, 102, 111, 114, 107]⟩, int (58), int (58), int (190), int (-1), int (-1), int 0, int 0, strA ⟨#[119, 97, 105, 116, 112, 105, 100]⟩, int (-1), int (-1), int (7), int (-1), int (-1), int 0, int 0, strA ⟨#[119, 114, 105, 116, 101]⟩, int (1), int (1), int (4), int (64), int (64), int 0, int 0, strA ⟨#[119, 114, 105, 116, 101, 118]⟩, int (20), int (516), int (146), int (66), int (66), int 0, int 0]) := by kernel_rfl
set_option maxHeartbeats 4000000 in
theorem late_spec : Tells Tryz.prog 50 [] (trows lateL) := by
  refine tells_of_aw Tryz.func50 rfl rfl fun nx => ?_
  (refine stpR ?_; refine aw_region ?_; refine stpR ?_)
  refine aw_regionY (fun n => match n with | 0 => true | _ => false) 107 ?_
  refine stp ?_
  refine aop_build rfl build_late ?_
  refine stp ?_
  refine ret_tells rfl (AVle.os_sl.trans (AVle.sl_fun fun k hk => ?_))
  match k, hk with
  | 0, _ => rfl
  | 1, _ => rfl
  | 2, _ => rfl
  | 3, _ => rfl
  | 4, _ => rfl
  | 5, _ => rfl
  | 6, _ => rfl
  | 7, _ => rfl
  | 8, _ => rfl
  | 9, _ => rfl
  | 10, _ => rfl
  | 11, _ => rfl
  | 12, _ => rfl
  | 13, _ => rfl
  | 14, _ => rfl
  | 15, _ => rfl
  | 16, _ => rfl
  | 17, _ => rfl
  | 18, _ => rfl
  | 19, _ => rfl
  | 20, _ => rfl
  | 21, _ => rfl
  | 22, _ => rfl
  | 23, _ => rfl
  | 24, _ => rfl
  | 25, _ => rfl
  | 26, _ => rfl
  | 27, _ => rfl
  | 28, _ => rfl
  | 29, _ => rfl
  | 30, _ => rfl
  | 31, _ => rfl
  | 32, _ => rfl
  | 33, _ => rfl
  | 34, _ => rfl
  | 35, _ => rfl
  | 36, _ => rfl
  | 37, _ => rfl
  | 38, _ => rfl
  | 39, _ => rfl
  | 40, _ => rfl
  | 41, _ => rfl
  | 42, _ => rfl
  | 43, _ => rfl
  | 44, _ => rfl
  | 45, _ => rfl
  | 46, _ => rfl
  | 47, _ => rfl
  | 48, _ => rfl
  | 49, _ => rfl
  | 50, _ => rfl
  | 51, _ => rfl
  | 52, _ => rfl
  | k + 53, hk => exact absurd hk (by omega)
end Go.Proofs.W

namespace Go.Proofs.W
open Go.Vl
set_option maxRecDepth 100000

def builtL : List TRow := earlyL ++ lateL
theorem noid_trows (l : List TRow) : NoId (trows l) := NoId.sl fun i _ c hc => by
  have hc : c ∈ trowC (l.getD i trow0) := hc
  unfold trowC at hc
  simp only [List.mem_cons, List.not_mem_nil, or_false] at hc
  rcases hc with rfl | rfl | rfl | rfl | rfl | rfl | rfl | rfl <;> exact NoId.v _
theorem builtin_spec : Tells Tryz.prog 27 [] (trows builtL) := by
  have hc := concat_trow [earlyL, lateL] (by decide) (by decide) none
  have e : [earlyL, lateL].flatten = builtL := by unfold builtL; simp
  rw [e] at hc
  have he := early_spec
  have hl := late_spec
  generalize earlyL = A at he hc
  generalize lateL = B at hl hc
  generalize builtL = C at hc
  refine tells_of_aw Tryz.func27 rfl rfl fun nx => ?_
  refine stp ?_
  refine aop_tells rfl rfl he trivial fun nx2 => ?_
  refine stp ?_
  refine aop_tells rfl rfl hl trivial fun nx3 => ?_
  refine stp ?_
  refine aop_tells rfl rfl hc ⟨AVle.os_fun fun k hk => ?_, trivial⟩ fun nx4 => ?_
  · match k, hk with
    | 0, _ => rfl
    | 1, _ => rfl
  refine stp ?_
  exact ret_tells rfl (AVle.refl _)
end Go.Proofs.W

/- The chapter's example of valid policies. -/
namespace Go.Proofs.W
open Go.Vl
set_option maxRecDepth 100000

def readV : ByteArray := ⟨#[114, 101, 97, 100]⟩
def pV2 : Pol := ⟨(1, 0), false, [⟨readV, (8, 0), []⟩, ⟨readV, (8, 0), []⟩]⟩
def pV1 : Pol := ⟨(1, 0), false, [⟨readV, (8, 0), []⟩]⟩
theorem awV2 : validE pV2 builtL = (1, 15) := by kernel_rfl
theorem awV1 : validE pV1 builtL = (0, 0) := by kernel_rfl
theorem built_len15 : builtL.length ≤ 1000000 := Nat.le_of_ble_eq_true (by kernel_rfl)
theorem built_names15 : ∀ r ∈ builtL, r.name.size ≤ maxLen := fun r hr => by
  have : (builtL.all fun r => decide (r.name.size ≤ 1000)) = true := by kernel_rfl
  have := of_decide_eq_true (List.all_eq_true.1 this r hr)
  exact Nat.le_trans this (by decide)
theorem noid_two (a b : Int) : NoId (.tup [int a, int b]) := fun w X g g' u hr => by
  cases hr with
  | tup _ vs hn hr =>
    refine .tup _ vs hn fun k c u hc hu => ?_
    rcases k with _ | _ | k
    · cases hc
      have := hr 0 _ u rfl hu
      cases this; exact .v _
    · cases hc
      have := hr 1 _ u rfl hu
      cases this; exact .v _
    · cases hc
theorem ok_V2 : pV2.ok := ⟨by decide, fun r hr => by
  have : r = ⟨readV, (8, 0), []⟩ := by
    simp only [pV2, List.mem_cons, List.not_mem_nil, or_false, or_self] at hr
    exact hr
  subst this
  exact ⟨by decide, by decide, fun c hc => by cases hc⟩⟩
theorem ok_V1 : pV1.ok := ⟨by decide, fun r hr => by
  have : r = ⟨readV, (8, 0), []⟩ := by
    simp only [pV1, List.mem_cons, List.not_mem_nil, or_false, or_self] at hr
    exact hr
  subst this
  exact ⟨by decide, by decide, fun c hc => by cases hc⟩⟩
theorem ok2_V {p : Pol} (h : ∀ r ∈ p.rules, r = ⟨readV, (8, 0), []⟩) : ∀ r ∈ p.rules, r.conds.length ≤ 12 ∧ r.name.size ≤ 1000000 := fun r hr => by
  rw [h r hr]; exact ⟨by decide, by decide⟩
theorem sl_cells {sz n : Nat} {f f' : Nat → AV} (h : ∀ k, k < n → LeL (f k).cells (f' k).cells) : AVle (.sl sz n f) (.sl sz n f') := fun w X g u hr => by
  cases hr with
  | sl0 => exact .sl0 _ _ _ _
  | sl _ _ _ b off cap vs hlen hcap hcell hcs hr =>
    refine .sl _ _ _ b off cap vs hlen hcap hcell (fun i hi => by rw [← (h i hi).get.1]; exact hcs i hi) (fun i j c u hi hj hu => ?_)
    have hjl : j < (f i).cells.length := by rw [(h i hi).get.1]; exact (List.getElem?_eq_some_iff.1 hj).1
    exact (h i hi).get.2 j _ c (List.getElem?_eq_getElem hjl) hj _ _ _ _ (hr i j _ u hi (List.getElem?_eq_getElem hjl) hu)
set_option maxHeartbeats 4000000 in
theorem awake15_spec : Tells Tryz.prog 12 [] (boolA true) := by
  have hb := builtin_spec
  have h2 := check15_spec pV2 builtL ok_V2 (ok2_V fun r hr => by simpa [pV2] using hr) built_len15 built_names15
  have h1 := check15_spec pV1 builtL ok_V1 (ok2_V fun r hr => by simpa [pV1] using hr) built_len15 built_names15
  rw [awV2] at h2
  rw [awV1] at h1
  generalize builtL = B at hb h1 h2
  refine tells_of_aw Tryz.func12 rfl rfl fun nx => ?_
  refine stp ?_
  refine aw_mixN 7 _ (fun _ => false) (fun i => match i with | 1 => true | 2 => true | _ => false) [0, 1, 2, 3, 4, 5, 6] (by kernel_rfl) (by kernel_rfl) (HB.refl _) ?_
  refine stp ?_
  refine ⟨_, pure_tells rfl rfl rfl hb trivial (noid_trows _), ?_⟩
  refine stp ?_
  refine ⟨_, pure_tells rfl rfl rfl h2 ⟨?_, AVle.refl _, trivial⟩ (noid_two _ _), ?_⟩
  · refine AVle.ags ⟨AVle.refl _, AVle.refl _, AVle.refl _, AVle.os_sl.trans (sl_cells fun k hk => ?_), trivial⟩
    match k, hk with
    | 0, _ | 1, _ => exact ⟨AVle.refl _, AVle.refl _, AVle.refl _, AVle.os_sl0, trivial⟩
  refine stp ?_
  refine aw_mixN 12 _ (fun _ => false) (fun i => match i with | 6 => true | 7 => true | _ => false) [0, 1, 2, 3, 4, 5, 6, 7, 8, 9, 10, 11] (by kernel_rfl) (by kernel_rfl) (HB.refl _) ?_
  refine stp ?_
  refine ⟨_, pure_tells rfl rfl rfl hb trivial (noid_trows _), ?_⟩
  refine stp ?_
  refine ⟨_, pure_tells rfl rfl rfl h1 ⟨?_, AVle.refl _, trivial⟩ (noid_two _ _), ?_⟩
  · refine AVle.ags ⟨AVle.refl _, AVle.refl _, AVle.refl _, (sl_cells fun k hk => ?_), trivial⟩
    match k, hk with
    | 0, _ => exact ⟨AVle.refl _, AVle.refl _, AVle.refl _, AVle.os_sl0, trivial⟩
  refine stp ?_
  exact ret_tells rfl (AVle.refl _)
end Go.Proofs.W

/- Whether any policy is valid: the law. -/
namespace Go.Proofs.W
open Go.Vl
set_option maxRecDepth 100000

theorem light_use {p : Pol} {l : List TRow} (h : light15 p l = true) : p.rules.length ≤ 40 ∧ (∀ r ∈ p.rules, r.conds.length ≤ 12 ∧ r.name.size ≤ 60) ∧ l.length ≤ 40 ∧ ∀ r ∈ l, r.name.size ≤ 60 := by
  unfold light15 lightP lightR fewT at h
  simp only [Bool.and_eq_true, List.all_eq_true, decide_eq_true_eq] at h
  exact ⟨h.1.1, fun r hr => ⟨(h.1.2 r hr).2, (h.1.2 r hr).1⟩, h.2.1, h.2.2⟩
theorem small15 {n : Nat} (h : n ≤ 60) : n ≤ maxLen := Nat.le_trans h (by decide)
set_option maxHeartbeats 4000000 in
theorem validtells_law (p : Pol) (l : List TRow) (hp : p.ok) (hl : l.length ≤ maxLen) (hn : ∀ r ∈ l, r.name.size ≤ maxLen) : Tells Tryz.prog 3 [polA p, trows l] (boolA true) := by
  have hlt := light15_spec p l hp.1 hl
  have hawk := awake15_spec
  cases hf : light15 p l with
  | false =>
    rw [hf] at hlt
    obtain ⟨⟨k, n⟩, x, rs⟩ := p
    refine tells_of_aw Tryz.func3 rfl rfl fun nx => ?_
    refine stp ?_
    refine aop_tells rfl rfl hlt ⟨AVle.refl _, AVle.refl _, trivial⟩ fun nx2 => ?_
    refine stp ?_
    exact ret_tells rfl (AVle.refl _)
  | true =>
    rw [hf] at hlt
    obtain ⟨u1, u2, u3, u4⟩ := light_use hf
    have hof := of15_spec p ⟨by omega, fun r hr => by have := (u2 r hr).1; omega⟩
    have hrw := l15rows_spec l (by omega)
    have hc := check15_spec p l hp (fun r hr => ⟨(u2 r hr).1, by have := (u2 r hr).2; omega⟩) (by omega) hn
    have hr := ref15_spec p l ⟨by omega, fun r hr => ⟨(u2 r hr).1, (hp.2 r hr).2.2⟩⟩ (by omega)
    generalize validE p l = V at hc hr
    obtain ⟨a, b⟩ := V
    dsimp only at hc hr
    obtain ⟨⟨k, n⟩, x, rs⟩ := p
    refine tells_of_aw Tryz.func3 rfl rfl fun nx => ?_
    refine stp ?_
    refine aop_tells rfl rfl hlt ⟨AVle.refl _, AVle.refl _, trivial⟩ fun nx2 => ?_
    refine stp ?_
    refine aop_tells rfl rfl hof ⟨AVle.refl _, trivial⟩ fun nx3 => ?_
    refine stp ?_
    refine aop_tells rfl rfl hrw ⟨AVle.refl _, trivial⟩ fun nx4 => ?_
    refine stp ?_
    refine aop_tells rfl rfl hc ⟨AVle.refl _, AVle.refl _, trivial⟩ fun nx5 => ?_
    refine stp ?_
    refine aop_tells rfl rfl hr ⟨AVle.refl _, AVle.refl _, trivial⟩ fun nx6 => ?_
    refine stp ?_
    intro c hc2
    have hc3 : c = true := hc2.trans (beq_self_eq_true a)
    clear hc2; subst hc3
    refine stp ?_
    intro c hc2
    have hc3 : c = true := hc2.trans (beq_self_eq_true b)
    clear hc2; subst hc3
    refine stp ?_
    refine aop_tells rfl rfl hawk trivial fun nx7 => ?_
    refine stp ?_
    exact ret_tells rfl (AVle.refl _)
end Go.Proofs.W

/- A rule more is told: the law. -/
namespace Go.Proofs.W
open Go.Vl
set_option maxRecDepth 100000

theorem le_more {rs : List Rul} {r : Rul} {g : Nat → AV} {m : Nat} {oi : Option Vl.Id} (hl : LeL (g rs.length).cells (rulC r)) (hg : ∀ k, k < rs.length → g k = rulA (rs.getD k rul0)) (hm : m = rs.length + 1) : AVle (.os 4 m g oi) (ruls (rs ++ [r])) := by
  subst hm
  unfold ruls slOf
  rw [List.length_append, List.length_singleton]
  refine AVle.os_sl.trans (sl_cells fun k hk => ?_)
  rcases Nat.lt_or_ge k rs.length with h | h
  · rw [hg k h, show (rs ++ [r]).getD k rul0 = rs.getD k rul0 by simp [List.getD, List.getElem?_append_left h]]
    exact LeL.refl _
  · rw [show k = rs.length by omega, show (rs ++ [r]).getD rs.length rul0 = r by simp [List.getD]]
    exact hl
theorem appF_lo {n k : Nat} {f f' : Nat → AV} (h : k < n) : appF n f f' k = f k := by
  unfold appF
  rw [blt_iff.2 h]; rfl
theorem appF_hi {n : Nat} {f f' : Nat → AV} : appF n f f' n = f' 0 := by
  unfold appF
  rw [show Nat.blt n n = false by cases h : Nat.blt n n with | false => rfl | true => exact absurd (blt_true h) (Nat.lt_irrefl n)]
  simp
def gv : ByteArray := zzzzB
theorem more_ok {p : Pol} {r : Rul} (hp : p.ok) (hl : p.rules.length ≤ 39) (hr : r.ok) : (moreP p r).ok := ⟨by
  show (p.rules ++ [r]).length ≤ maxLen
  rw [List.length_append, List.length_singleton]
  exact Nat.le_trans (by omega : p.rules.length + 1 ≤ 40) (by decide), fun q hq => by
  rcases List.mem_append.1 hq with h | h
  · exact hp.2 q h
  · rw [List.mem_singleton.1 h]; exact hr⟩
theorem more_ok2 {p : Pol} {r : Rul} (hp : ∀ q ∈ p.rules, q.conds.length ≤ 12 ∧ q.name.size ≤ 1000000) (hr : r.conds.length ≤ 12 ∧ r.name.size ≤ 1000000) : ∀ q ∈ (moreP p r).rules, q.conds.length ≤ 12 ∧ q.name.size ≤ 1000000 := fun q hq => by
  rcases List.mem_append.1 hq with h | h
  · exact hp q h
  · rw [List.mem_singleton.1 h]; exact hr
theorem gr_rul15 : growOk Tryz.prog 47 = true := by kernel_rfl
theorem c_rul15 : Tryz.prog.cellsOf 47 = 4 := by kernel_rfl
set_option maxHeartbeats 16000000 in
theorem more_deep (k n : Int) (x : Bool) (rs : List Rul) (l : List TRow) (v : Nat) (hv : v < 256) (h39 : rs.length ≤ 39) (hl40 : l.length ≤ 40)
    (hlt : Tells Tryz.prog 7 [polA ⟨(k, n), x, rs⟩, trows l] (boolA true)) (hof : Tells Tryz.prog 9 [polA ⟨(k, n), x, rs⟩] (polA ⟨(k, n), x, rs⟩)) (hrw : Tells Tryz.prog 10 [trows l] (trows l))
    (hc : Tells Tryz.prog 8 [polA ⟨(k, n), x, rs⟩, trows l] (.tup [int 0, int 0])) (a b : Int) (hc1 : Tells Tryz.prog 8 [polA (moreP ⟨(k, n), x, rs⟩ ⟨zzzzB, (k, n), []⟩), trows l] (.tup [int a, int b]))
    (hab : (∀ r ∈ l, r.name ≠ zzzzB) → a = rs.length ∧ b = 14) (hc2 : rs.length ≠ 0 → Tells Tryz.prog 8 [polA (moreP ⟨(k, n), x, rs⟩ (rs.getD (v % rs.length) rul0)), trows l] (.tup [int (rs.length : Nat), int 15])) :
    Tells Tryz.prog 6 [polA ⟨(k, n), x, rs⟩, trows l, .v (.int .u8 v)] (boolA true) := by
  have hawk := awake15_spec
  refine tells_of_aw Tryz.func6 rfl rfl fun nx => ?_
  refine stp ?_
  refine aop_tells rfl rfl hlt ⟨AVle.refl _, AVle.refl _, trivial⟩ fun nx2 => ?_
  refine stp ?_
  intro c g1; cases c
  rotate_left
  · exact absurd (yes_of g1) (by show ¬ ((rs.length : Nat) : Int) > 39; omega)
  refine stp ?_
  refine aop_tells rfl rfl hof ⟨AVle.refl _, trivial⟩ fun nx3 => ?_
  refine stp ?_
  refine aop_tells rfl rfl hrw ⟨AVle.refl _, trivial⟩ fun nx4 => ?_
  refine stp ?_
  refine aop_tells rfl rfl hc ⟨AVle.refl _, AVle.refl _, trivial⟩ fun nx5 => ?_
  refine stpR ?_
  refine aw_freeze (n := 119) (nx := nx5) (nn := 2) (pm := []) (bx := []) (L := [(1, trows l), (2, .v (.int .u8 v)), (7, .rp [int k, int n, boolA x, ruls rs]), (8, trows l), (10, int 0)]) (df := some []) [((1, nx4), .c [int k, int n, boolA x, ruls rs]), ((0, nx), .c [int k, int n, boolA x, ruls rs])] rfl rfl rfl (List.Perm.refl _) (List.Sublist.refl _) ⟨Frz.refl _, Frz.refl _, Frz.bp (.head _) rfl, Frz.refl _, Frz.refl _, trivial⟩ ?_
  refine stp ?_
  refine aw_mixN 9 [] (fun i => match i with | 3 => true | 8 => true | _ => false) (fun _ => false) [0, 1, 2, 4, 5, 6, 7, 3, 8] (by kernel_rfl) (by kernel_rfl) (fun _ _ _ h => by cases h) ?_
  refine stp ?_
  refine ⟨_, eff_append (e := 47) (sz := 4) (szx := 4) (n := 0) (oi := none) (m := rs.length) (f' := rulF15 rs) (fun _ _ _ h => by cases h) rfl rfl rfl (.inl rfl) Tryz.underlying33 gr_rul15 (.inl ⟨rfl, rfl⟩) (.inr c_rul15.symm) (fun _ h => by cases h) (fun _ _ => rfl) (fun _ => by rw [bytes_rul15]; omega) (fun _ => by omega), fun r' h' hr => ?_⟩
  rcases hr with ⟨h0, rfl, rfl⟩ | ⟨h0, rfl, rfl⟩
  · obtain rfl := List.length_eq_zero_iff.1 h0
    refine stp ?_
    refine ⟨_, eff_append1 (e := 47) (c := 4) (pm := []) (sz := 4) (szx := 4) (n := 0) (oi := none) (fun _ _ _ h => by cases h) rfl rfl rfl (.inr ⟨_, rfl⟩) Tryz.underlying33 gr_rul15 c_rul15 (.inl ⟨rfl, rfl⟩) c_rul15 rfl (oneRow_one rfl) (by rw [bytes_rul15]; omega) (by omega), fun r' h' hr => ?_⟩
    obtain ⟨rfl, rfl⟩ := hr
    refine stp ?_
    refine aop_tells rfl rfl hc1 ⟨AVle.ags ⟨AVle.refl _, AVle.refl _, AVle.refl _, le_more (rs := []) ⟨AVle.refl _, AVle.refl _, AVle.refl _, AVle.os_sl0, trivial⟩ (fun k hk => absurd hk (Nat.not_lt_zero k)) rfl, trivial⟩, AVle.refl _, trivial⟩ fun nx6 => ?_
    refine stpR ?_
    refine AW.le (E' := mk 119 [(1, trows l), (2, .v (.int .u8 v)), (7, .rp [int k, int n, boolA x, ruls []]), (8, trows l), (11, int 0), (13, int a), (14, int b)] ⟨[], [], nx6, 2⟩) (ele_tell (pm := []) [] [] rfl rfl .slnil (List.nil_sublist _) trivial trivial ⟨AVle.refl _, AVle.refl _, AVle.refl _, AVle.refl _, AVle.refl _, AVle.refl _, AVle.refl _, trivial⟩) ?_
    refine stp ?_
    refine aw_loop (fun y : Nat × Nat => mk 119 [(1, trows l), (2, .v (.int .u8 v)), (7, .rp [int k, int n, boolA x, ruls []]), (8, trows l), (11, int 0), (13, int a), (14, int b), (15, int y.1)] ⟨[], [], y.2, 0⟩) (fun y => y.1 ≤ l.length ∧ ∀ j, j < y.1 → kS (l.getD j trow0).name zzzzB = false) (fun y => l.length - y.1) ?_ ?_
    · exact ⟨(0, nx6), ⟨Nat.zero_le _, fun j h => absurd h (Nat.not_lt_zero _)⟩, ele_tell (pm := []) (bx := []) [] [] rfl rfl .slnil .slnil trivial trivial ⟨AVle.refl _, AVle.refl _, AVle.refl _, AVle.refl _, AVle.refl _, AVle.refl _, AVle.refl _, AVle.refl _, trivial⟩⟩
    · rintro ⟨i, nx7⟩ ⟨h1, h2⟩
      dsimp only at h1 h2
      refine stp ?_
      intro c g; cases c
      · have g := not_of g
        try dsimp only at g
        obtain ⟨ha, hb⟩ := hab fun r hr e => by
          obtain ⟨j, hj, rfl⟩ := List.getElem_of_mem hr
          have := h2 j (by omega)
          rw [show l.getD j trow0 = l[j] by simp [List.getD, hj], kS_eq.2 e] at this
          cases this
        refine stp ?_
        intro c hc
        have hc3 : c = false := hc.trans (bne_eq_false_iff_eq.2 ha)
        clear hc; subst hc3
        refine stp ?_
        intro c hc
        have hc3 : c = false := hc.trans (bne_eq_false_iff_eq.2 hb)
        clear hc; subst hc3
        refine stp ?_
        refine aop_tells rfl rfl hawk trivial fun nx8 => ?_
        refine stp ?_
        exact ret_tells rfl (AVle.refl _)
      · have g := yes_of g
        try dsimp only at g
        have hi : i < l.length := by omega
        refine stp ?_
        refine ⟨⟨by first | omega | (dsimp only; omega), by first | omega | (dsimp only; omega)⟩, ?_⟩
        refine stp ?_
        intro d hd
        have hd2 : d = kS (l.getD i trow0).name zzzzB := hd
        clear hd
        cases d
        · refine stp ?_
          exact back (i + 1, nx7) ⟨hi, fun j hj => by
            rcases Nat.lt_or_ge j i with z | z
            · exact h2 j z
            · rw [show j = i by omega]; exact hd2.symm⟩ (by dsimp only; omega) (ele_tell (pm := []) (bx := []) [] [] rfl rfl .slnil .slnil trivial trivial ⟨AVle.refl _, AVle.refl _, AVle.refl _, AVle.refl _, AVle.refl _, AVle.refl _, AVle.refl _, le_int (wrap_succ (by first | omega | (dsimp only; omega))), trivial⟩)
        · refine stp ?_
          refine aop_tells rfl rfl hawk trivial fun nx8 => ?_
          refine stp ?_
          exact ret_tells rfl (AVle.refl _)
  · refine stp ?_
    refine ⟨_, eff_append1 (e := 47) (c := 4) (pm := []) (sz := 4) (szx := 4) (n := 0 + rs.length) (oi := some (2, nx5)) (fun _ _ _ h => by cases h) rfl rfl rfl (.inr ⟨_, rfl⟩) Tryz.underlying33 gr_rul15 c_rul15 (.inr c_rul15) c_rul15 rfl (oneRow_one rfl) (by rw [bytes_rul15]; omega) (by omega), fun r' h' hr => ?_⟩
    obtain ⟨rfl, rfl⟩ := hr
    refine stp ?_
    refine aop_tells rfl rfl hc1 ⟨AVle.ags ⟨AVle.refl _, AVle.refl _, AVle.refl _, le_more (rs := rs) ?_ (fun z hz => ?_) (by omega), trivial⟩, AVle.refl _, trivial⟩ fun nx6 => ?_
    · rw [Nat.zero_add, appF_hi]
      exact ⟨AVle.refl _, AVle.refl _, AVle.refl _, AVle.os_sl0, trivial⟩
    · rw [appF_lo (by omega)]
      rfl
    refine stpR ?_
    refine AW.le (E' := mk 119 [(1, trows l), (2, .v (.int .u8 v)), (7, .rp [int k, int n, boolA x, ruls rs]), (8, trows l), (11, int rs.length), (13, int a), (14, int b)] ⟨[], [], nx6, 2⟩) (ele_tell (pm := []) [] [] rfl rfl .slnil (List.nil_sublist _) trivial trivial ⟨AVle.refl _, AVle.refl _, AVle.refl _, AVle.refl _, AVle.refl _, AVle.refl _, AVle.refl _, trivial⟩) ?_
    refine stp ?_
    refine aw_loop (fun y : Nat × Nat => mk 119 [(1, trows l), (2, .v (.int .u8 v)), (7, .rp [int k, int n, boolA x, ruls rs]), (8, trows l), (11, int rs.length), (13, int a), (14, int b), (15, int y.1)] ⟨[], [], y.2, 0⟩) (fun y => y.1 ≤ l.length ∧ ∀ j, j < y.1 → kS (l.getD j trow0).name zzzzB = false) (fun y => l.length - y.1) ?_ ?_
    · exact ⟨(0, nx6), ⟨Nat.zero_le _, fun j h => absurd h (Nat.not_lt_zero _)⟩, ele_tell (pm := []) (bx := []) [] [] rfl rfl .slnil .slnil trivial trivial ⟨AVle.refl _, AVle.refl _, AVle.refl _, AVle.refl _, AVle.refl _, AVle.refl _, AVle.refl _, AVle.refl _, trivial⟩⟩
    · rintro ⟨i, nx7⟩ ⟨h1, h2⟩
      dsimp only at h1 h2
      refine stp ?_
      intro c g; cases c
      · have g := not_of g
        try dsimp only at g
        obtain ⟨ha, hb⟩ := hab fun r hr e => by
          obtain ⟨j, hj, rfl⟩ := List.getElem_of_mem hr
          have := h2 j (by omega)
          rw [show l.getD j trow0 = l[j] by simp [List.getD, hj], kS_eq.2 e] at this
          cases this
        refine stp ?_
        intro c hc
        have hc3 : c = false := hc.trans (bne_eq_false_iff_eq.2 ha)
        clear hc; subst hc3
        refine stp ?_
        intro c hc
        have hc3 : c = false := hc.trans (bne_eq_false_iff_eq.2 hb)
        clear hc; subst hc3
        refine stp ?_
        intro c hc
        have hc3 : c = false := hc.trans (beq_eq_false_iff_ne.2 (by omega))
        clear hc; subst hc3
        refine stp ?_
        refine aw_mixN 14 [] (fun i => match i with | 3 => true | 13 => true | _ => false) (fun _ => false) [0, 1, 2, 4, 5, 6, 7, 8, 9, 10, 11, 12, 3, 13] (by kernel_rfl) (by kernel_rfl) (fun _ _ _ h => by cases h) ?_
        refine stp ?_
        have hq : v % rs.length < rs.length := Nat.mod_lt _ (Nat.pos_of_ne_zero h0)
        refine ⟨by omega, splitV_as (b := int (v % rs.length : Nat)) (by rw [wrap_id (by omega) (by omega)]; rfl) ?_⟩
        refine stp ?_
        refine ⟨⟨by show (0 : Int) ≤ _; omega, by show ((v % rs.length : Nat) : Int) < _; omega⟩, ?_⟩
        refine stp ?_
        refine ⟨_, eff_append (e := 47) (sz := 4) (szx := 4) (n := 0) (oi := none) (m := rs.length) (f' := rulF15 rs) (fun _ _ _ h => by cases h) rfl rfl rfl (.inl rfl) Tryz.underlying33 gr_rul15 (.inl ⟨rfl, rfl⟩) (.inr c_rul15.symm) (fun _ h => by cases h) (fun _ _ => rfl) (fun _ => by rw [bytes_rul15]; omega) (fun _ => by omega), fun r' h' hr => ?_⟩
        rcases hr with ⟨h0', rfl, rfl⟩ | ⟨_, rfl, rfl⟩
        · exact absurd h0' h0
        refine stp ?_
        refine ⟨_, eff_append1 (e := 47) (c := 4) (pm := []) (sz := 4) (szx := 4) (n := 0 + rs.length) (oi := some (0, nx7)) (fun _ _ _ h => by cases h) rfl rfl rfl (.inr ⟨_, rfl⟩) Tryz.underlying33 gr_rul15 c_rul15 (.inr c_rul15) c_rul15 rfl (oneRow_one rfl) (by rw [bytes_rul15]; omega) (by omega), fun r' h' hr => ?_⟩
        obtain ⟨rfl, rfl⟩ := hr
        refine stp ?_
        refine aop_tells rfl rfl (hc2 h0) ⟨AVle.ags ⟨AVle.refl _, AVle.refl _, AVle.refl _, le_more (rs := rs) ?_ (fun z hz => ?_) (by omega), trivial⟩, AVle.refl _, trivial⟩ fun nx9 => ?_
        · rw [Nat.zero_add, appF_hi]
          exact LeL.refl _
        · rw [appF_lo (by omega)]
          rfl
        refine stp ?_
        intro c hc
        have hc3 : c = true := hc.trans (beq_self_eq_true _)
        clear hc; subst hc3
        refine stp ?_
        refine aop_tells rfl rfl hawk trivial fun nx8 => ?_
        refine stp ?_
        exact ret_tells rfl (AVle.refl _)
      · have g := yes_of g
        try dsimp only at g
        have hi : i < l.length := by omega
        refine stp ?_
        refine ⟨⟨by first | omega | (dsimp only; omega), by first | omega | (dsimp only; omega)⟩, ?_⟩
        refine stp ?_
        intro d hd
        have hd2 : d = kS (l.getD i trow0).name zzzzB := hd
        clear hd
        cases d
        · refine stp ?_
          exact back (i + 1, nx7) ⟨hi, fun j hj => by
            rcases Nat.lt_or_ge j i with z | z
            · exact h2 j z
            · rw [show j = i by omega]; exact hd2.symm⟩ (by dsimp only; omega) (ele_tell (pm := []) (bx := []) [] [] rfl rfl .slnil .slnil trivial trivial ⟨AVle.refl _, AVle.refl _, AVle.refl _, AVle.refl _, AVle.refl _, AVle.refl _, AVle.refl _, le_int (wrap_succ (by first | omega | (dsimp only; omega))), trivial⟩)
        · refine stp ?_
          refine aop_tells rfl rfl hawk trivial fun nx8 => ?_
          refine stp ?_
          exact ret_tells rfl (AVle.refl _)
set_option maxHeartbeats 4000000 in
theorem validmore_law (p : Pol) (l : List TRow) (v : Nat) (hp : p.ok) (hl : l.length ≤ maxLen) (hn : ∀ r ∈ l, r.name.size ≤ maxLen) (hv : v < 256) : Tells Tryz.prog 6 [polA p, trows l, .v (.int .u8 v)] (boolA true) := by
  have hlt := light15_spec p l hp.1 hl
  have hawk := awake15_spec
  cases hf : light15 p l with
  | false =>
    rw [hf] at hlt
    obtain ⟨⟨k, n⟩, x, rs⟩ := p
    refine tells_of_aw Tryz.func6 rfl rfl fun nx => ?_
    refine stp ?_
    refine aop_tells rfl rfl hlt ⟨AVle.refl _, AVle.refl _, trivial⟩ fun nx2 => ?_
    refine stp ?_
    exact ret_tells rfl (AVle.refl _)
  | true =>
    rw [hf] at hlt
    obtain ⟨u1, u2, u3, u4⟩ := light_use hf
    by_cases h39 : p.rules.length ≤ 39
    rotate_left
    · obtain ⟨⟨k, n⟩, x, rs⟩ := p
      dsimp only at h39
      refine tells_of_aw Tryz.func6 rfl rfl fun nx => ?_
      refine stp ?_
      refine aop_tells rfl rfl hlt ⟨AVle.refl _, AVle.refl _, trivial⟩ fun nx2 => ?_
      refine stp ?_
      intro c g1; cases c
      · exact absurd (not_of g1) (by show ¬ ¬ ((rs.length : Nat) : Int) > 39; omega)
      refine stp ?_
      exact ret_tells rfl (AVle.refl _)
    have hof := of15_spec p ⟨by omega, fun r hr => by have := (u2 r hr).1; omega⟩
    have hrw := l15rows_spec l (by omega)
    have hp2 : ∀ r ∈ p.rules, r.conds.length ≤ 12 ∧ r.name.size ≤ 1000000 := fun r hr => ⟨(u2 r hr).1, by have := (u2 r hr).2; omega⟩
    have hc := check15_spec p l hp hp2 (by omega) hn
    by_cases hb : (validE p l).2 = 0
    · rw [validE_ok hb] at hc
      have hz : (⟨zzzzB, p.dflt, []⟩ : Rul).ok := ⟨by show zzzzB.size ≤ maxLen; decide, by show 0 ≤ maxLen; decide, fun c hc => by cases hc⟩
      have h1 := check15_spec (moreP p ⟨zzzzB, p.dflt, []⟩) l (more_ok hp h39 hz) (more_ok2 hp2 ⟨by show 0 ≤ 12; decide, by show zzzzB.size ≤ 1000000; decide⟩) (by omega) hn
      have hrr := rightP_iff.1 (validE_0.1 hb).1
      have hab : (∀ r ∈ l, r.name ≠ zzzzB) → validE (moreP p ⟨zzzzB, p.dflt, []⟩) l = ((p.rules.length : Int), 14) := fun hz => valid_more hb h39 (zzzz_right hrr.1) (more_name hz) (by decide)
      generalize validE (moreP p ⟨zzzzB, p.dflt, []⟩) l = V at h1 hab
      obtain ⟨a, b⟩ := V
      have h2 : p.rules.length ≠ 0 → Tells Tryz.prog 8 [polA (moreP p (p.rules.getD (v % p.rules.length) rul0)), trows l] (.tup [int (p.rules.length : Nat), int 15]) := fun h0 => by
        have hq : v % p.rules.length < p.rules.length := Nat.mod_lt _ (Nat.pos_of_ne_zero h0)
        have hm := rule_in hq
        have := check15_spec (moreP p (p.rules.getD (v % p.rules.length) rul0)) l (more_ok hp h39 (hp.2 _ hm)) (more_ok2 hp2 (hp2 _ hm)) (by omega) hn
        rw [valid_more hb h39 (hrr.2.2 _ hm) (more_twice hb hq) (by decide)] at this
        exact this
      obtain ⟨⟨k, n⟩, x, rs⟩ := p
      exact more_deep k n x rs l v hv h39 u3 hlt hof hrw hc a b h1 (fun hz => by have := hab hz; cases this; exact ⟨rfl, rfl⟩) h2
    · generalize validE p l = V at hc hb
      obtain ⟨a, b⟩ := V
      dsimp only at hc hb
      obtain ⟨⟨k, n⟩, x, rs⟩ := p
      refine tells_of_aw Tryz.func6 rfl rfl fun nx => ?_
      refine stp ?_
      refine aop_tells rfl rfl hlt ⟨AVle.refl _, AVle.refl _, trivial⟩ fun nx2 => ?_
      refine stp ?_
      intro c g1; cases c
      rotate_left
      · exact absurd (yes_of g1) (by show ¬ ((rs.length : Nat) : Int) > 39; dsimp only at h39; omega)
      refine stp ?_
      refine aop_tells rfl rfl hof ⟨AVle.refl _, trivial⟩ fun nx3 => ?_
      refine stp ?_
      refine aop_tells rfl rfl hrw ⟨AVle.refl _, trivial⟩ fun nx4 => ?_
      refine stp ?_
      refine aop_tells rfl rfl hc ⟨AVle.refl _, AVle.refl _, trivial⟩ fun nx5 => ?_
      refine stp ?_
      intro c hc
      have hc3 : c = true := hc.trans (bne_iff_ne.2 hb)
      clear hc; subst hc3
      refine stp ?_
      refine aop_tells rfl rfl hawk trivial fun nx7 => ?_
      refine stp ?_
      exact ret_tells rfl (AVle.refl _)
end Go.Proofs.W

/- The document's policies as the program's, by layer 15's laws: the rules as a row of one's own. -/
namespace Go.Proofs.W
open Go.Vl
set_option maxRecDepth 100000

def nil4 : AV := .os 4 0 (fun _ => .any) none
def zP15 (nx : Nat) : Vl.Id × Own := ((1, nx + 1), .c [int 0, int 0, boolA false, nil4])
def oP15 (nx : Nat) (d : A2) (x : Bool) (v : AV) : Vl.Id × Own := ((2, nx + 2), .c [int d.1, int d.2, boolA x, v])
def bH15 (nx : Nat) (d : A2) (x : Bool) (L : List Rul) : Option (Nat × Nat × List AV) → List (Vl.Id × Own)
  | none => [oP15 nx d x nil4, zP15 nx]
  | some (s1, cap, tl) => [oP15 nx d x (.hs (0, s1) 0 L.length cap), zP15 nx, ((0, s1), .c (rowK rulC L.toArray tl))]
def bI15 (L : List Rul) : Option (Nat × Nat × List AV) → Prop
  | none => L = []
  | some (_, cap, tl) => 1 ≤ L.length ∧ L.length ≤ cap ∧ cap * 4 ≤ L.length * 4 + tl.length
theorem rulC_len : ∀ r : Rul, (rulC r).length = 4 := fun _ => rfl
theorem spl15 {l : List Rul} {x : Rul} {tl : List AV} (h : 4 ≤ tl.length) : splice (rowK rulC l.toArray tl) (l.length * Tryz.prog.cellsOf 47) (rulC x) = rowK rulC (l ++ [x]).toArray (tl.drop 4) := by
  rw [c_rul15]; exact rowK_push rulC_len h
theorem one15 {x : Rul} {m : Nat} : rulC x ++ List.replicate (m * Tryz.prog.cellsOf 47) AV.any = rowK rulC #[x] (List.replicate (m * 4) .any) := by
  rw [c_rul15]; simp [rowK]
theorem grow15 {l : List Rul} {x : Rul} {tl : List AV} {m : Nat} : (rowK rulC l.toArray tl).take (l.length * Tryz.prog.cellsOf 47) ++ rulC x ++ List.replicate (m * Tryz.prog.cellsOf 47) .any = rowK rulC (l ++ [x]).toArray (List.replicate (m * 4) .any) := by
  rw [c_rul15, rowK_take rulC_len]; exact rowK_one
theorem hs15 {i j : Vl.Id} {L : List Rul} {x : Rul} {cap : Nat} (h : i.2 = j.2) : AVle (.hs i 0 (L.length + 1) cap) (.hs j 0 (L ++ [x]).length cap) := by
  rw [List.length_append]; exact AVle.hs_nm h
def ofQ (p : Pol) (r : AV) (h' : Heap) : Prop := ∃ s cap tl nx', p.rules.length ≤ cap ∧ cap * 4 ≤ p.rules.length * 4 + tl.length ∧ r = .ag [int p.dflt.1, int p.dflt.2, boolA p.x32, .hs (0, s) 0 p.rules.length cap] ∧ h' = ⟨[((0, s), .c (rowK rulC p.rules.toArray tl))], [], nx', 1⟩
set_option maxHeartbeats 8000000 in
theorem of15H_spec (p : Pol) (hp : p.rules.length ≤ 1000 ∧ ∀ r ∈ p.rules, r.conds.length ≤ 1000) (hne : p.rules ≠ []) (nx : Nat) : ECall Tryz.prog 9 [polA p] ⟨[], [], nx, 0⟩ (ofQ p) := by
  obtain ⟨⟨k, n⟩, x, rs⟩ := p
  dsimp only at hp hne
  refine ECall.wk (ecall_of_aw Tryz.func9 rfl rfl ?_)
  refine stp ?_
  intro c hc
  subst hc
  refine stpR ?_
  refine aw_freeze (n := 74) (nx := nx + 3) (nn := 3) (pm := []) (bx := [((2, nx + 2), .c [int k, int n, boolA c, .os 0 0 (fun _ => .any) none]), ((1, nx + 1), .c [int 0, int 0, boolA false, .os 0 0 (fun _ => .any) none])]) (L := [(1, .rp [int k, int n, boolA c, ruls rs]), (2, .bp (1, nx + 1) 0), (3, .bp (2, nx + 2) 0)]) (df := some []) [((0, nx), .c [int k, int n, boolA c, ruls rs])] rfl rfl rfl (List.perm_append_comm (l₁ := [((2, nx + 2), Own.c [int k, int n, boolA c, .os 0 0 (fun _ => .any) none]), ((1, nx + 1), .c [int 0, int 0, boolA false, .os 0 0 (fun _ => .any) none])]) (l₂ := [((0, nx), .c [int k, int n, boolA c, ruls rs])])) (List.Sublist.refl _) ⟨Frz.bp (.head _) rfl, Frz.refl _, Frz.refl _, trivial⟩ ?_
  refine stp ?_
  refine aw_loop (fun y : Nat × List Rul × Option (Nat × Nat × List AV) × Nat => mk 74 [(1, .rp [int k, int n, boolA c, ruls rs]), (2, .bp (1, nx + 1) 0), (3, .bp (2, nx + 2) 0), (4, int y.1)] ⟨bH15 nx (k, n) c y.2.1 y.2.2.1, [], y.2.2.2, 3⟩) (fun y => y.1 ≤ rs.length ∧ y.2.1 = rs.take y.1 ∧ bI15 y.2.1 y.2.2.1) (fun y => rs.length - y.1) ?_ ?_
  · exact ⟨(0, [], none, nx + 3), ⟨Nat.zero_le _, rfl, rfl⟩, ele_tell (pm := []) (bx := bH15 nx (k, n) c [] none) _ [] rfl rfl (List.Sublist.refl _) (List.Sublist.refl _) ⟨rfl, ⟨AVle.refl _, AVle.refl _, AVle.refl _, AVle.os_nil, trivial⟩, rfl, ⟨AVle.refl _, AVle.refl _, AVle.refl _, AVle.os_nil, trivial⟩, trivial⟩ trivial ⟨AVle.refl _, AVle.refl _, AVle.refl _, AVle.refl _, trivial⟩⟩
  · rintro ⟨i, L, md, nx2⟩ ⟨h1, hL, h2⟩
    dsimp only at h1 hL h2
    have hLl : L.length = i := by rw [hL, List.length_take]; omega
    refine stp ?_
    intro c g; cases c
    · have g := not_of g
      try dsimp only at g
      obtain rfl : i = rs.length := by omega
      rw [List.take_length] at hL
      subst hL
      rcases md with _ | ⟨s1, cap, tl⟩
      · exact absurd h2 hne
      · obtain ⟨q1, q2, q3⟩ := h2
        refine stp ?_
        exact ret_all rfl ⟨rfl, trivial⟩ ⟨_, _, AVle.refl _, hle_tell (bx := [((0, s1), .c (rowK rulC L.toArray tl))]) (pm := []) (nn := 1) [((0, s1), .c (rowK rulC L.toArray tl))] [] rfl (.cons _ (.cons _ (.cons_cons _ .slnil))) .slnil (BxLe.refl _) trivial, s1, cap, tl, _, q2, q3, rfl, rfl⟩
    · have g := yes_of g
      try dsimp only at g
      have hi : i < rs.length := by omega
      have hm := hp.2 _ (rule_in hi)
      have hn : L ++ [rs.getD i rul0] = rs.take (i + 1) := by rw [take_getD rul0 hi, ← hL]
      refine stp ?_
      refine ⟨⟨by first | omega | (dsimp only; omega), by first | omega | (dsimp only; omega)⟩, ?_⟩
      refine stpR ?_
      refine aw_freeze (n := 74) (nx := nx2 + 1) (nn := 3) (pm := []) (bx := bH15 nx (k, n) c L md) (L := [(1, .rp [int k, int n, boolA c, ruls rs]), (2, .bp (1, nx + 1) 0), (3, .bp (2, nx + 2) 0), (4, int i), (5, .rp (rulC (rs.getD i rul0)))]) (df := some []) [((3, nx2), .c (rulC (rs.getD i rul0)))] rfl rfl rfl (List.Perm.refl _) (List.Sublist.refl _) ⟨Frz.refl _, Frz.refl _, Frz.refl _, Frz.refl _, Frz.bp (.head _) rfl, trivial⟩ ?_
      refine stp ?_
      refine aw_loop (fun y : Nat × Option Nat × Nat => mk 74 [(1, .rp [int k, int n, boolA c, ruls rs]), (2, .bp (1, nx + 1) 0), (3, .bp (2, nx + 2) 0), (4, int i), (5, .rp (rulC (rs.getD i rul0))), (6, .bp (3, nx2 + 1) 0), (7, int y.1)] ⟨c15 (nx2 + 1) (rs.getD i rul0) y.1 y.2.1 :: bH15 nx (k, n) c L md, pmOf (nm1 y.2.1) (y.1 * 4), y.2.2, 4⟩) (fun y => y.1 ≤ (rs.getD i rul0).conds.length ∧ (y.2.1 = none → y.1 = 0)) (fun y => (rs.getD i rul0).conds.length - y.1) ?_ ?_
      · exact ⟨(0, none, nx2 + 2), ⟨Nat.zero_le _, fun _ => rfl⟩, ele_tell (pm := []) (bx := c15 (nx2 + 1) (rs.getD i rul0) 0 none :: bH15 nx (k, n) c L md) (((3, nx2 + 1), .c [strA (rs.getD i rul0).name, int (rs.getD i rul0).act.1, int (rs.getD i rul0).act.2, .os 0 0 (fun _ => .any) none]) :: bH15 nx (k, n) c L md) _ rfl rfl (List.Sublist.refl _) (List.Sublist.refl _) ⟨rfl, ⟨AVle.refl _, AVle.refl _, AVle.refl _, AVle.os_nil, trivial⟩, BxLe.refl _⟩ trivial ⟨AVle.refl _, AVle.refl _, AVle.refl _, AVle.refl _, AVle.refl _, AVle.refl _, AVle.refl _, trivial⟩⟩
      · rintro ⟨m, om, nx3⟩ ⟨k1, k2⟩
        dsimp only at k1 k2
        refine stp ?_
        intro c g2; cases c
        · have g2 := not_of g2
          try dsimp only at g2
          obtain rfl : m = (rs.getD i rul0).conds.length := by omega
          refine AW.le (E' := mk 74 [(1, .rp [int k, int n, boolA c, ruls rs]), (2, .bp (1, nx + 1) 0), (3, .bp (2, nx + 2) 0), (4, int i), (6, .bp (3, nx2 + 1) 0), (45, boolA false)] ⟨((3, nx2 + 1), .c (rulC (rs.getD i rul0))) :: bH15 nx (k, n) c L md, [], nx3, 4⟩) (ele_tell _ _ rfl rfl (List.Sublist.refl _) (List.nil_sublist _) ⟨rfl, ⟨AVle.refl _, AVle.refl _, AVle.refl _, AVle.os_sl, trivial⟩, BxLe.refl _⟩ trivial ⟨AVle.refl _, AVle.refl _, AVle.refl _, AVle.refl _, AVle.refl _, AVle.refl _, trivial⟩) ?_
          rcases md with _ | ⟨s1, cap, tl⟩
          · obtain rfl : L = [] := h2
            refine stpR ?_
            refine aw_regionY (fun i => match i with | 0 => true | _ => false) 5 ?_
            refine stp ?_
            refine aop_appendB0 (m := 1) rfl rfl (.inr ⟨_, rfl⟩) Tryz.underlying33 gr_rul15 c_rul15.symm (by decide) (oneRow_one rfl) (by rw [bytes_rul15]; omega) (by omega) fun ncap hcap => ?_
            refine stp ?_
            exact back (i + 1, [rs.getD i rul0], some (nx3, ncap, List.replicate ((ncap - 1) * 4) .any), nx3 + 1) ⟨hi, hn, ⟨Nat.le_refl _, hcap, by simp; omega⟩⟩ (by dsimp only; omega) (ele_tellP (pm := []) (bx := [oP15 nx (k, n) c (.hs (0, nx3) 0 1 ncap), zP15 nx, ((0, nx3), .c (rowK rulC #[rs.getD i rul0] (List.replicate ((ncap - 1) * 4) .any)))]) _ [oP15 nx (k, n) c (.hs (4, nx3) 0 1 ncap), zP15 nx, ((4, nx3), .c (rulC (rs.getD i rul0) ++ List.replicate ((ncap - 1) * Tryz.prog.cellsOf 47) .any))] [] rfl rfl (List.perm_append_singleton _ _) (.cons _ (.cons_cons _ (.cons_cons _ (.cons_cons _ .slnil)))) .slnil ⟨rfl, ⟨AVle.refl _, AVle.refl _, AVle.refl _, AVle.hs_nm rfl, trivial⟩, rfl, OwnLe.refl _, rfl, ownEq (congrArg Own.c one15), trivial⟩ trivial ⟨AVle.refl _, AVle.refl _, AVle.refl _, le_int (wrap_succ (by first | omega | (dsimp only; omega))), trivial⟩)
          · obtain ⟨q1, q2, q3⟩ := h2
            refine stpR ?_
            refine aw_regionY (fun i => match i with | 0 => true | _ => false) 5 ?_
            refine stp ?_
            refine aop_appendB (m := 1) (szx := 4) (n := L.length) (cap := cap) (cs := rowK rulC L.toArray tl) (i := (0, s1)) rfl rfl (.inr ⟨_, rfl⟩) Tryz.underlying33 gr_rul15 (.inr c_rul15.symm) (by rfl) q2 (by rw [c_rul15, rowK_len rulC_len]; simpa using q3) (oneRow_one rfl) (fun _ => by rw [bytes_rul15]; omega) (fun _ => by omega) (fun hm => absurd hm (by decide)) (fun hm hfit => ?_) (fun hm hfit ncap hcap => ?_)
            · refine stp ?_
              (conv => whnf)
              refine back (i + 1, L ++ [rs.getD i rul0], some (s1, cap, tl.drop 4), nx3) ?_ (by dsimp only; omega) ?_
              · exact ⟨hi, hn, ⟨by simp, by simpa using hfit, by simp; omega⟩⟩
              · exact (ele_tell (pm := []) (bx := [oP15 nx (k, n) c (.hs (0, s1) 0 (L ++ [rs.getD i rul0]).length cap), zP15 nx, ((0, s1), .c (rowK rulC (L ++ [rs.getD i rul0]).toArray (tl.drop 4)))]) [oP15 nx (k, n) c (.hs (0, s1) 0 (L.length + 1) cap), zP15 nx, ((0, s1), .c (splice (rowK rulC L.toArray tl) (L.length * Tryz.prog.cellsOf 47) (rulC (rs.getD i rul0))))] [] rfl rfl (.cons _ (.cons_cons _ (.cons_cons _ (.cons_cons _ .slnil)))) .slnil ⟨rfl, ⟨AVle.refl _, AVle.refl _, AVle.refl _, hs15 rfl, trivial⟩, rfl, OwnLe.refl _, rfl, ownEq (congrArg Own.c (spl15 (by have := hfit; omega))), trivial⟩ trivial ⟨AVle.refl _, AVle.refl _, AVle.refl _, le_int (wrap_succ (by first | omega | (dsimp only; omega))), trivial⟩)
            · refine stp ?_
              (conv => whnf)
              refine back (i + 1, L ++ [rs.getD i rul0], some (nx3, ncap, List.replicate ((ncap - (L.length + 1)) * 4) .any), nx3 + 1) ?_ (by dsimp only; omega) ?_
              · exact ⟨hi, hn, ⟨by simp, by simpa using hcap, by simp; omega⟩⟩
              · exact (ele_tellP (pm := []) (bx := [oP15 nx (k, n) c (.hs (0, nx3) 0 (L ++ [rs.getD i rul0]).length ncap), zP15 nx, ((0, nx3), .c (rowK rulC (L ++ [rs.getD i rul0]).toArray (List.replicate ((ncap - (L.length + 1)) * 4) .any)))]) _ [oP15 nx (k, n) c (.hs (4, nx3) 0 (L.length + 1) ncap), zP15 nx, ((4, nx3), .c ((rowK rulC L.toArray tl).take (L.length * Tryz.prog.cellsOf 47) ++ rulC (rs.getD i rul0) ++ List.replicate ((ncap - (L.length + 1)) * Tryz.prog.cellsOf 47) .any))] [] rfl rfl (List.perm_append_singleton _ _) (.cons _ (.cons_cons _ (.cons_cons _ (.cons _ (.cons_cons _ .slnil))))) .slnil ⟨rfl, ⟨AVle.refl _, AVle.refl _, AVle.refl _, hs15 rfl, trivial⟩, rfl, OwnLe.refl _, rfl, ownEq (congrArg Own.c grow15), trivial⟩ trivial ⟨AVle.refl _, AVle.refl _, AVle.refl _, le_int (wrap_succ (by first | omega | (dsimp only; omega))), trivial⟩)
        · have g2 := yes_of g2
          try dsimp only at g2
          have hmi : m < (rs.getD i rul0).conds.length := by omega
          rcases om with _ | o1
          · obtain rfl := k2 rfl
            refine stp ?_
            refine ⟨⟨by first | omega | (dsimp only; omega), by first | omega | (dsimp only; omega)⟩, ?_⟩
            refine stp ?_
            refine ⟨oneRow_one rfl, by rw [bytes_cnd15]; omega, by omega, ?_⟩
            refine stp ?_
            exact back (0 + 1, some (nx3 + 1), nx3 + 2) ⟨hmi, fun h => by cases h⟩ (by dsimp only; omega) (ele_tell (pm := pmOf (nm1 (some (nx3 + 1))) ((0 + 1) * 4)) (bx := c15 (nx2 + 1) (rs.getD i rul0) (0 + 1) (some (nx3 + 1)) :: bH15 nx (k, n) c L md) _ _ rfl rfl (.cons _ (List.Sublist.refl _)) (List.Sublist.refl _) ⟨rfl, ⟨AVle.refl _, AVle.refl _, AVle.refl _, le_c15, trivial⟩, BxLe.refl _⟩ ⟨rfl, rfl, trivial⟩ ⟨AVle.refl _, AVle.refl _, AVle.refl _, AVle.refl _, AVle.refl _, AVle.refl _, le_int (wrap_succ (by first | omega | (dsimp only; omega))), trivial⟩)
          · refine stp ?_
            refine ⟨⟨by first | omega | (dsimp only; omega), by first | omega | (dsimp only; omega)⟩, ?_⟩
            refine stp ?_
            refine ⟨oneRow_one rfl, by rw [bytes_cnd15]; omega, by omega, ?_⟩
            refine stp ?_
            exact back (m + 1, some (nx3 + 1), nx3 + 2) ⟨hmi, fun h => by cases h⟩ (by dsimp only; omega) (ele_tell (pm := pmOf (nm1 (some (nx3 + 1))) ((m + 1) * 4)) (bx := c15 (nx2 + 1) (rs.getD i rul0) (m + 1) (some (nx3 + 1)) :: bH15 nx (k, n) c L md) _ _ rfl rfl (.cons _ (List.Sublist.refl _)) (List.Sublist.refl _) ⟨rfl, ⟨AVle.refl _, AVle.refl _, AVle.refl _, le_c15, trivial⟩, BxLe.refl _⟩ ⟨rfl, rfl, trivial⟩ ⟨AVle.refl _, AVle.refl _, AVle.refl _, AVle.refl _, AVle.refl _, AVle.refl _, le_int (wrap_succ (by first | omega | (dsimp only; omega))), trivial⟩)
end Go.Proofs.W

/- A valid policy without one of its rules is valid: the law. -/
namespace Go.Proofs.W
open Go.Vl
set_option maxRecDepth 100000

structure Lss where
  p : Pol
  l : List TRow
  at_ : Nat
  a : A2
def lessA (z : Lss) : AV := .ag [int z.p.dflt.1, int z.p.dflt.2, boolA z.p.x32, ruls z.p.rules, trows z.l, .v (.int .u8 z.at_), int z.a.1, int z.a.2]
def LessOk (z : Lss) : Prop := z.p.ok ∧ (z.l.length ≤ maxLen ∧ ∀ r ∈ z.l, r.name.size ≤ maxLen) ∧ z.at_ < 256
theorem row_split {rs : List Rul} {i : Nat} (hi : i < rs.length) {tl : List AV} : rowK rulC rs.toArray tl = (rs.take i).flatMap rulC ++ (rulC (rs.getD i rul0) ++ ((rs.drop (i + 1)).flatMap rulC ++ tl)) := by
  unfold rowK
  show rs.flatMap rulC ++ tl = _
  have e : rs = rs.take i ++ rs.getD i rul0 :: rs.drop (i + 1) := by
    rw [show rs.getD i rul0 = rs[i] by simp [List.getD, hi]]
    exact (List.take_append_drop i rs).symm.trans (by rw [List.drop_eq_getElem_cons hi])
  rw [show rs.flatMap rulC = (rs.take i ++ rs.getD i rul0 :: rs.drop (i + 1)).flatMap rulC from congrArg _ e, List.flatMap_append, List.flatMap_cons]
  simp only [List.append_assoc]
theorem row_set {rs : List Rul} {i : Nat} (hi : i < rs.length) {y : Rul} {tl : List AV} : rowK rulC (rs.set i y).toArray tl = (rs.take i).flatMap rulC ++ (rulC y ++ ((rs.drop (i + 1)).flatMap rulC ++ tl)) := by
  have h := row_split (rs := rs.set i y) (i := i) (by simpa using hi) (tl := tl)
  rw [h, List.take_set_of_le (Nat.le_refl _), List.drop_set_of_lt (Nat.lt_succ_self _), show (rs.set i y).getD i rul0 = y by simp [List.getD, hi]]
theorem take_flat {rs : List Rul} {i : Nat} (hi : i < rs.length) : ((rs.take i).flatMap rulC).length = i * 4 := by
  rw [flatE_len rulC_len, List.length_take, Nat.min_eq_left (by omega)]
theorem set_act {rs : List Rul} {i : Nat} (hi : i < rs.length) {a : A2} {tl : List AV} : splice (rowK rulC rs.toArray tl) (i * 4 + 1) [int a.1, int a.2] = rowK rulC (rs.set i ⟨(rs.getD i rul0).name, a, (rs.getD i rul0).conds⟩).toArray tl := by
  rw [row_split hi, row_set hi, ← take_flat hi, splice_app]
  rfl
theorem set_conds {rs : List Rul} {i : Nat} (hi : i < rs.length) {cs : List Cnd} {tl : List AV} : splice (rowK rulC rs.toArray tl) (i * 4 + 3) [cnds cs] = rowK rulC (rs.set i ⟨(rs.getD i rul0).name, (rs.getD i rul0).act, cs⟩).toArray tl := by
  rw [row_split hi, row_set hi, ← take_flat hi, splice_app]
  rfl
theorem row_at {rs : List Rul} {tl : List AV} {j q : Nat} (hj : j < rs.length) (hq : q < 4) : (rowK rulC rs.toArray tl)[j * 4 + q]? = (rulA (rs.getD j rul0)).cells[q]? := by
  rw [row_split hj, List.getElem?_append_right (by rw [take_flat hj]; omega), take_flat hj, show j * 4 + q - j * 4 = q by omega, List.getElem?_append_left (by rw [rulC_len]; exact hq)]
  rfl
theorem le_rows {l : List Rul} {g : Nat → AV} {m : Nat} {oi : Option Vl.Id} (hm : m = l.length) (hg : ∀ k, k < l.length → g k = rulA (l.getD k rul0)) : AVle (.os 4 m g oi) (ruls l) := by
  subst hm
  exact AVle.os_sl.trans (AVle.sl_fun hg)
theorem flat_two (a b : Int) : Flat (.tup [int a, int b]) := fun w X g w' X' g' u hr => by
  cases hr with
  | tup _ vs hn hr =>
    refine .tup _ vs hn fun k c u hc hu => ?_
    rcases k with _ | _ | k
    · cases hc
      have := hr 0 _ u rfl hu
      cases this; exact .v _
    · cases hc
      have := hr 1 _ u rfl hu
      cases this; exact .v _
    · cases hc
instance inhRul : Inhabited Rul := ⟨rul0⟩
theorem ex_tail {P : Program} {ops : Array Oper} {B : List (Vl.Id × Own)} {o : Oper} {E : Env} {C : Nat → Prop} {R : Nat → AV} {K : AV → Prop} (h : ∃ off, C off ∧ PureAll P ops B o E (R off)) (k : ∀ off, C off → splitV (R off) K) : ∃ r, PureAll P ops B o E r ∧ splitV r K :=
  let ⟨off, h1, h2⟩ := h; ⟨R off, h2, k off h1⟩
theorem row_len {rs : List Rul} {tl : List AV} : (rowK rulC rs.toArray tl).length = rs.length * 4 + tl.length := by
  rw [rowK_len rulC_len]; simp
theorem effA {ops : Array Oper} {B : List (Vl.Id × Own)} {o : Oper} {E : Env} {s x : Operand} {sz m cap s0 : Nat} {f : Nat → AV} {rs : List Rul} {tl : List AV} (hB : HB B E.h.bx) (hg : o.guard = none)
    (ho : o.op = .call { callee := .builtin .append, args := #[s, x], argTypes := #[33, 33] }) (hs : E.ev s = .os sz 0 f none) (hx : E.ev x = .hs (0, s0) 0 m cap) (hcs : hget 0 E.h.bx = some (s0, rowK rulC rs.toArray tl)) (hm : m ≤ rs.length) (h40 : rs.length ≤ 40) :
    Eff Tryz.prog ops B o E fun r h' => (m = 0 ∧ r = .os sz 0 f none ∧ h' = E.h) ∨ (m ≠ 0 ∧ r = .os (Tryz.prog.cellsOf 47) (0 + m) (appF 0 f (rulF15 rs)) (some (E.h.nn, E.h.nx)) ∧ h' = E.h.grow none ((0 + m) * Tryz.prog.cellsOf 47)) :=
  eff_appendH (e := 47) (szx := 4) (f' := rulF15 rs) hB hg ho hs hx (fun _ => hcs) (fun _ => by rw [row_len]; omega) (fun _ _ => rfl) (fun j q hj hq => by rw [Nat.zero_add]; exact (row_at (by omega) hq).symm) Tryz.underlying33 gr_rul15 (.inl ⟨rfl, rfl⟩) (.inr c_rul15.symm) (fun _ h => by cases h) (fun _ _ => rfl) (fun _ => by rw [bytes_rul15]; omega) (fun _ => by omega)
def rulD15 (rs : List Rul) (q : Nat) (j : Nat) : AV := rulA (rs.getD (q + 1 + j) rul0)
theorem effB {ops : Array Oper} {B : List (Vl.Id × Own)} {o : Oper} {E : Env} {s x : Operand} {sz n1 q off cap s0 : Nat} {f : Nat → AV} {oi : Option Vl.Id} {rs : List Rul} {tl : List AV} (hB : HB B E.h.bx) (hg : o.guard = none)
    (ho : o.op = .call { callee := .builtin .append, args := #[s, x], argTypes := #[33, 33] }) (hs : E.ev s = .os sz n1 f oi) (hx : E.ev x = .hs (0, s0) off (rs.length - (q + 1)) cap) (hcs : hget 0 E.h.bx = some (s0, rowK rulC rs.toArray tl)) (hq : q < rs.length) (h40 : rs.length ≤ 40)
    (hoff : rs.length - (q + 1) ≠ 0 → off = (q + 1) * Tryz.prog.cellsOf 47) (hsz : (n1 = 0 ∧ oi = none) ∨ sz = Tryz.prog.cellsOf 47) (hn1 : n1 ≤ 40) (hperm : ∀ i, oi = some i → permGet i.1 E.h.pm = some (i.2, n1 * Tryz.prog.cellsOf 47)) :
    Eff Tryz.prog ops B o E fun r h' => (rs.length - (q + 1) = 0 ∧ r = .os sz n1 f oi ∧ h' = E.h) ∨ (rs.length - (q + 1) ≠ 0 ∧ r = .os (Tryz.prog.cellsOf 47) (n1 + (rs.length - (q + 1))) (appF n1 f (rulD15 rs q)) (some (E.h.nn, E.h.nx)) ∧ h' = E.h.grow oi ((n1 + (rs.length - (q + 1))) * Tryz.prog.cellsOf 47)) :=
  eff_appendH (e := 47) (szx := 4) (f' := rulD15 rs q) hB hg ho hs hx (fun _ => hcs) (fun h => by rw [row_len, hoff h, c_rul15]; omega) (fun _ _ => rfl) (fun j z hj hz => by
    rw [hoff (by omega), c_rul15, show (q + 1) * 4 + (j * 4 + z) = (q + 1 + j) * 4 + z by omega]; exact (row_at (by omega) hz).symm) Tryz.underlying33 gr_rul15 hsz (.inr c_rul15.symm) hperm (fun _ _ => rfl) (fun _ => by rw [bytes_rul15]; omega) (fun _ => by omega)
theorem less_get {rs : List Rul} {q j : Nat} (hq : q < rs.length) : (rs.take q ++ rs.drop (q + 1)).getD j rul0 = if j < q then rs.getD j rul0 else rs.getD (j + 1) rul0 := by
  have hl : (rs.take q).length = q := by rw [List.length_take]; omega
  split
  · rename_i h
    simp only [List.getD_eq_getElem?_getD]
    rw [List.getElem?_append_left (by omega), List.getElem?_take, if_pos h]
  · rename_i h
    simp only [List.getD_eq_getElem?_getD]
    rw [List.getElem?_append_right (by omega), hl, List.getElem?_drop, show q + 1 + (j - q) = j + 1 by omega]
theorem less_len {rs : List Rul} {q : Nat} (hq : q < rs.length) : (rs.take q ++ rs.drop (q + 1)).length = rs.length - 1 := by
  rw [List.length_append, List.length_take, List.length_drop]; omega
theorem appF_gt {n k : Nat} {f f' : Nat → AV} (h : n ≤ k) : appF n f f' k = f' (k - n) := by
  unfold appF
  rw [show Nat.blt k n = false by cases h' : Nat.blt k n with | false => rfl | true => exact absurd (blt_true h') (by omega)]; rfl
theorem le_less2 {rs : List Rul} {q n1 m2 : Nat} {f : Nat → AV} {oi : Option Vl.Id} (hq : q < rs.length) (h1 : n1 = q) (h2 : m2 = rs.length - (q + 1)) (hf : ∀ k, k < q → f k = rulA (rs.getD k rul0)) : AVle (.os 4 (n1 + m2) (appF n1 f (rulD15 rs q)) oi) (ruls (rs.take q ++ rs.drop (q + 1))) := by
  subst h1; subst h2
  refine le_rows (by rw [less_len hq]; omega) fun k hk => ?_
  rw [less_len hq] at hk
  rw [less_get hq]
  split
  · rename_i h; rw [appF_lo h, hf k h]
  · rename_i h
    rw [appF_gt (by omega)]
    unfold rulD15
    rw [show n1 + 1 + (k - n1) = k + 1 by omega]
theorem le_less1 {rs : List Rul} {q n1 : Nat} {f : Nat → AV} {oi : Option Vl.Id} (hq : q < rs.length) (h1 : n1 = q) (h2 : rs.length - (q + 1) = 0) (hf : ∀ k, k < q → f k = rulA (rs.getD k rul0)) : AVle (.os 4 n1 f oi) (ruls (rs.take q ++ rs.drop (q + 1))) := by
  subst h1
  refine le_rows (by rw [less_len hq]; omega) fun k hk => ?_
  rw [less_len hq] at hk
  rw [less_get hq, if_pos (by omega)]
  exact hf k (by omega)
theorem z_pol15 : zcells Tryz.prog 26 = some [int 0, int 0, boolA false, .os 0 0 (fun _ => .any) none] := by kernel_rfl
theorem z_pp15 : zcells Tryz.prog 35 = some [int 0, int 0, boolA false, .os 0 0 (fun _ => .any) none] := by kernel_rfl
theorem z_act15 : zcells Tryz.prog 23 = some [int 0, int 0] := by kernel_rfl
set_option maxHeartbeats 32000000 in
theorem validless_law (z : Lss) (hz : LessOk z) : Tells Tryz.prog 4 [lessA z] (boolA true) := by
  obtain ⟨p, l, v, a⟩ := z
  obtain ⟨hp, ⟨hl, hn⟩, hv⟩ := hz
  dsimp only at hp hl hn hv
  have hlt := light15_spec p l hp.1 hl
  have hawk := awake15_spec
  have h9 := right9_spec a.1 a.2
  have hcO : light15 p l = true → Tells Tryz.prog 8 [polA p, trows l] (.tup [int (validE p l).1, int (validE p l).2]) := fun hf => by
    obtain ⟨u1, u2, u3, u4⟩ := light_use hf
    exact check15_spec p l hp (fun r hr => ⟨(u2 r hr).1, by have := (u2 r hr).2; omega⟩) (by omega) hn
  have hLs : light15 p l = true → right9 a.1 a.2 = true → (validE p l).2 = 0 → p.rules ≠ [] → Tells Tryz.prog 8 [polA (lessP p (v % p.rules.length) a), trows l] (.tup [int 0, int 0]) ∧ Tells Tryz.prog 8 [polA (setP p (v % p.rules.length) a), trows l] (.tup [int 0, int 0]) := fun hf ha hb hne => by
    obtain ⟨u1, u2, u3, u4⟩ := light_use hf
    have hn0 : p.rules.length ≠ 0 := fun h => hne (List.length_eq_zero_iff.1 h)
    have hq : v % p.rules.length < p.rules.length := Nat.mod_lt _ (Nat.pos_of_ne_zero hn0)
    have hsub : ∀ r ∈ (lessP p (v % p.rules.length) a).rules, r ∈ p.rules := fun r hr => by
      rcases List.mem_append.1 hr with h | h
      · exact List.mem_of_mem_take h
      · exact List.mem_of_mem_drop h
    have hset : ∀ r ∈ (setP p (v % p.rules.length) a).rules, ∃ q ∈ p.rules, r.name = q.name ∧ r.conds = q.conds := fun r hr => by
      rcases List.mem_or_eq_of_mem_set hr with h | rfl
      · exact ⟨r, h, rfl, rfl⟩
      · exact ⟨_, rule_in hq, rfl, rfl⟩
    have c1 := check15_spec (lessP p (v % p.rules.length) a) l ⟨by show (p.rules.take _ ++ p.rules.drop _).length ≤ maxLen; rw [less_len hq]; exact Nat.le_trans (by omega : p.rules.length - 1 ≤ 40) (by decide), fun r hr => hp.2 r (hsub r hr)⟩ (fun r hr => ⟨(u2 r (hsub r hr)).1, by have := (u2 r (hsub r hr)).2; omega⟩) (by omega) hn
    have c2 := check15_spec (setP p (v % p.rules.length) a) l ⟨by show (p.rules.set _ _).length ≤ maxLen; rw [List.length_set]; exact hp.1, fun r hr => by
      obtain ⟨q, k1, k2, k3⟩ := hset r hr
      have := hp.2 q k1
      exact ⟨by rw [k2]; exact this.1, by rw [k3]; exact this.2.1, by rw [k3]; exact this.2.2⟩⟩ (fun r hr => by
      obtain ⟨q, k1, k2, k3⟩ := hset r hr
      have := u2 q k1
      exact ⟨by rw [k3]; exact this.1, by rw [k2]; omega⟩) (by omega) hn
    rw [validE_ok (valid_less hb _ ha)] at c1
    rw [validE_ok (valid_set hb hq ha)] at c2
    exact ⟨c1, c2⟩
  have hof : light15 p l = true → p.rules ≠ [] → ∀ nx, ECall Tryz.prog 9 [polA p] ⟨[], [], nx, 0⟩ (ofQ p) := fun hf hne => of15H_spec p ⟨by have := (light_use hf).1; omega, fun r hr => by have := ((light_use hf).2.1 r hr).1; omega⟩ hne
  have hrw : light15 p l = true → Tells Tryz.prog 10 [trows l] (trows l) := fun hf => l15rows_spec l (by have := (light_use hf).2.2.1; omega)
  have hl40 : light15 p l = true → p.rules.length ≤ 40 := fun hf => (light_use hf).1
  generalize light15 p l = b at hlt hcO hLs hof hrw hl40
  generalize validE p l = V at hcO hLs
  obtain ⟨V1, V2⟩ := V
  obtain ⟨⟨k, n⟩, x, rs⟩ := p
  obtain ⟨ak, an⟩ := a
  dsimp only at hcO hLs hof hl40 h9
  refine tells_of_aw Tryz.func4 rfl rfl fun nx => ?_
  (refine stpR ?_; refine aw_region ?_; refine stpR ?_)
  refine aw_mid (fun nx' : Nat => mk 116 [(3, .rp [int k, int n, boolA x, ruls rs]), (4, trows l), (5, .v (.int .u8 v)), (6, .rp [int ak, int an])] ⟨[], [], nx', 0⟩) (fun _ => True) ?_ ?_
  · refine aw_mixT 13 _ (fun i => match i with | 8 => true | 9 => true | 10 => true | _ => false) (fun _ => false) [0, 1, 2, 3, 4, 5, 6, 7] (.br 8 [] (.br 9 [] (.br 10 [11, 12] .nil .nil) .nil) (.br 9 [] (.br 8 [] (.br 10 [11, 12] .nil .nil) .nil) .nil)) (by kernel_rfl) (by kernel_rfl) (HB.refl _) ?_
    refine stp ?_
    refine ⟨?_, ?_, trivial⟩
    · refine ⟨_, eff_alloc rfl rfl z_pol15 (HB.one rfl), fun r' h' hr => ?_⟩
      obtain ⟨rfl, rfl⟩ := hr
      (conv => whnf)
      refine ⟨⟨_, eff_alloc rfl rfl z_act15 (HB.one rfl), fun r' h' hr => ?_⟩, trivial⟩
      obtain ⟨rfl, rfl⟩ := hr
      (conv => whnf)
      refine ⟨⟨_, eff_store (i := (1, nx + 1)) (off := 0) (cs := [int 0, int 0, boolA false, .os 0 0 (fun _ => .any) none]) rfl rfl rfl rfl rfl rfl rfl (by kernel_rfl) (by kernel_rfl) (by show 0 + 4 ≤ 4; omega) (HB.one rfl), fun r' h' hr => ?_⟩, trivial⟩
      obtain rfl := hr
      refine stp ?_
      exact ⟨nx + 3, trivial, ele_freeze [((2, nx + 2), .c [int ak, int an]), ((1, nx + 1), .c [int k, int n, boolA x, ruls rs])] rfl rfl (.cons_cons _ (.cons_cons _ (.cons _ .slnil))) .slnil ⟨Frz.bp (.tail _ (.head _)) rfl, Frz.refl _, Frz.refl _, Frz.bp (.head _) rfl, trivial⟩⟩
    · refine ⟨_, eff_alloc rfl rfl z_act15 (HB.one rfl), fun r' h' hr => ?_⟩
      obtain ⟨rfl, rfl⟩ := hr
      (conv => whnf)
      refine ⟨⟨_, eff_alloc rfl rfl z_pol15 (HB.one rfl), fun r' h' hr => ?_⟩, trivial⟩
      obtain ⟨rfl, rfl⟩ := hr
      (conv => whnf)
      refine ⟨⟨_, eff_store (i := (2, nx + 2)) (off := 0) (cs := [int 0, int 0, boolA false, .os 0 0 (fun _ => .any) none]) rfl rfl rfl rfl rfl rfl rfl (by kernel_rfl) (by kernel_rfl) (by show 0 + 4 ≤ 4; omega) (HB.one rfl), fun r' h' hr => ?_⟩, trivial⟩
      obtain rfl := hr
      refine stp ?_
      exact ⟨nx + 3, trivial, ele_freeze [((2, nx + 2), .c [int k, int n, boolA x, ruls rs]), ((1, nx + 1), .c [int ak, int an])] rfl rfl (.cons_cons _ (.cons_cons _ (.cons _ .slnil))) .slnil ⟨Frz.bp (.head _) rfl, Frz.refl _, Frz.refl _, Frz.bp (.tail _ (.head _)) rfl, trivial⟩⟩
  · intro nx1 _
    cases b with
    | false =>
      refine stp ?_
      refine aop_tells rfl rfl hlt ⟨AVle.refl _, AVle.refl _, trivial⟩ fun nx2 => ?_
      refine stp ?_
      refine aop_tells rfl rfl hlt ⟨AVle.refl _, AVle.refl _, trivial⟩ fun nx3 => ?_
      refine stp ?_
      exact ret_tells rfl (AVle.refl _)
    | true =>
    have hc := hcO rfl
    have h40 := hl40 rfl
    replace hrw := hrw rfl
    by_cases hne : rs = []
    · subst hne
      refine stp ?_
      refine aop_tells rfl rfl hlt ⟨AVle.refl _, AVle.refl _, trivial⟩ fun nx2 => ?_
      refine stp ?_
      refine aop_tells rfl rfl hlt ⟨AVle.refl _, AVle.refl _, trivial⟩ fun nx3 => ?_
      refine stp ?_
      refine aop_tells rfl rfl hawk trivial fun nx4 => ?_
      refine stp ?_
      exact ret_tells rfl (AVle.refl _)
    replace hof := hof rfl hne
    have hn0 : rs.length ≠ 0 := fun h => hne (List.length_eq_zero_iff.1 h)
    have hq : v % rs.length < rs.length := Nat.mod_lt _ (Nat.pos_of_ne_zero hn0)
    refine stp ?_
    refine aop_tells rfl rfl hlt ⟨AVle.refl _, AVle.refl _, trivial⟩ fun nx2 => ?_
    refine stp ?_
    intro c hc
    have hc3 : c = false := hc.trans (beq_eq_false_iff_ne.2 (by omega))
    clear hc; subst hc3
    refine stp ?_
    cases hra : right9 ak an with
    | false =>
      rw [hra] at h9
      refine aop_tells rfl rfl h9 ⟨AVle.refl _, trivial⟩ fun nx3 => ?_
      refine stp ?_
      refine aop_tells rfl rfl hlt ⟨AVle.refl _, AVle.refl _, trivial⟩ fun nx3 => ?_
      refine stp ?_
      refine aop_tells rfl rfl hawk trivial fun nx4 => ?_
      refine stp ?_
      exact ret_tells rfl (AVle.refl _)
    | true =>
    rw [hra] at h9
    refine aop_tells rfl rfl h9 ⟨AVle.refl _, trivial⟩ fun nx3 => ?_
    refine stp ?_
    refine aop_callF (xs := [polA ⟨(k, n), x, rs⟩]) (bx1 := []) (pm1 := []) [] [] 1 rfl rfl rfl rfl ⟨AVle.refl _, trivial⟩ (hof _) trivial trivial rfl fun r h' hq0 => ?_
    obtain ⟨s, cap, tl, nx4, q1, q2, rfl, rfl⟩ := hq0
    dsimp only at q1 q2
    refine stp ?_
    refine aop_tells rfl rfl hrw ⟨AVle.refl _, trivial⟩ fun nx5 => ?_
    refine stpR ?_
    refine aw_freeze (n := 116) (nx := nx5 + 1) (nn := 1) (pm := []) (bx := [((0, s), .c (rowK rulC rs.toArray tl))]) (L := [(5, .v (.int .u8 v)), (6, .rp [int ak, int an]), (7, .rp [int k, int n, boolA x, .hs (0, s) 0 rs.length cap]), (8, trows l)]) (df := some []) [((1, nx5), .c [int k, int n, boolA x, .hs (0, s) 0 rs.length cap])] rfl rfl rfl (List.Perm.refl _) (List.Sublist.refl _) ⟨Frz.refl _, Frz.refl _, Frz.bp (.head _) rfl, Frz.refl _, trivial⟩ ?_
    refine stp ?_
    refine AOp.of_yields (yields_look rfl rfl hc ⟨Frz.ag ⟨Frz.refl _, Frz.refl _, Frz.refl _, frz_rowK rulC_len (fun _ => rfl) rfl (.head _) q1, trivial⟩, Frz.refl _, trivial⟩ (flat_two _ _)) ?_
    by_cases hb : V2 = 0
    rotate_left
    · refine stp ?_
      intro c hc
      have hc3 : c = true := hc.trans (bne_iff_ne.2 hb)
      clear hc; subst hc3
      refine stp ?_
      refine aop_tells rfl rfl hawk trivial fun nx6 => ?_
      refine stp ?_
      exact ret_tells rfl (AVle.refl _)
    obtain ⟨hc1, hc2⟩ := hLs rfl hra hb hne
    refine stp ?_
    intro c hc0
    have hc3 : c = false := hc0.trans (bne_eq_false_iff_eq.2 hb)
    clear hc0; subst hc3
    refine stp ?_
    refine ⟨by omega, splitO_eq (b := int (v % rs.length : Nat)) (by rw [wrap_id (by omega) (by omega)]; rfl) ?_⟩
    (refine stpR ?_; refine aw_region ?_; refine stpR ?_)
    refine aw_freeze (n := 116) (nx := nx5 + 2) (nn := 2) (pm := []) (bx := [((0, s), .c (rowK rulC rs.toArray tl))]) (L := [(7, .rp [int k, int n, boolA x, .hs (0, s) 0 rs.length cap]), (8, trows l), (11, int (v % rs.length : Nat)), (12, .rp [int ak, int an])]) (df := some []) [((1, nx5 + 1), .c [int ak, int an])] rfl rfl rfl (List.Perm.refl _) (List.Sublist.refl _) ⟨Frz.refl _, Frz.refl _, Frz.refl _, Frz.bp (.head _) rfl, trivial⟩ ?_
    refine aw_mid (fun nx' : Nat => mk 116 [(7, .rp [int k, int n, boolA x, .hs (0, s) 0 rs.length cap]), (8, trows l), (11, int (v % rs.length : Nat)), (12, .rp [int ak, int an]), (13, .rp [int ak, int an, boolA (!x), ruls (rs.take (v % rs.length) ++ rs.drop (v % rs.length + 1))])] ⟨[((0, s), .c (rowK rulC rs.toArray tl))], [], nx', 1⟩) (fun _ => True) ?_ ?_
    · refine aw_mixT 18 _ (fun i => match i with | 9 => true | 15 => true | 17 => true | _ => false) (fun i => match i with | 8 => true | 13 => true | 14 => true | _ => false) [0, 1, 2, 3, 4, 5, 6, 7, 8, 10, 11, 12, 13, 14] (.br 17 [] (.br 9 [] (.br 15 [16] .nil .nil) .nil) (.br 9 [] (.br 17 [] (.br 15 [16] .nil .nil) (.br 15 [16] (.br 17 [] .nil .nil) .nil)) .nil)) (by kernel_rfl) (by kernel_rfl) (HB.refl _) ?_
      refine stp ?_
      refine ⟨_, pure_cutB (n := rs.length) (l := v % rs.length) (cap := cap) (i := (0, s)) rfl rfl rfl rfl Tryz.underlying33 Tryz.underlying47 (by omega) (by omega), ?_⟩
      refine stp ?_
      refine ⟨_, pure_apure rfl rfl trivial, splitV_as (b := int (v % rs.length + 1 : Nat)) (by rw [wrap_id (by omega) (by omega)]; rfl) ?_⟩
      refine stp ?_
      refine ex_tail (pure_tailB (n := rs.length) (l := v % rs.length + 1) (cap := cap) (i := (0, s)) rfl rfl rfl rfl Tryz.underlying33 Tryz.underlying47 (by omega) q1) fun off hoff => ?_
      refine stp ?_
      refine ⟨?_, ?_, trivial⟩
      · refine ⟨_, eff_alloc rfl rfl z_pp15 (HB.one rfl), fun r' h' hr => ?_⟩
        obtain ⟨rfl, rfl⟩ := hr
        (conv => whnf)
        refine ⟨⟨_, effA (rs := rs) (tl := tl) (m := v % rs.length) (cap := cap) (s0 := s) (HB.one rfl) rfl rfl rfl rfl rfl (Nat.le_of_lt hq) h40, fun r' h' hr => ?_⟩, trivial⟩
        rcases hr with ⟨h0, rfl, rfl⟩ | ⟨h0, rfl, rfl⟩
        · (conv => whnf)
          refine ⟨⟨_, effB (rs := rs) (tl := tl) (q := v % rs.length) (n1 := 0) (oi := none) (s0 := s) (HB.one rfl) rfl rfl rfl rfl rfl hq h40 (fun h => hoff (by omega)) (.inl ⟨rfl, rfl⟩) (by decide) (fun _ h => by cases h), fun r' h' hr => ?_⟩, trivial⟩
          rcases hr with ⟨h1, rfl, rfl⟩ | ⟨h1, rfl, rfl⟩
          · refine stp ?_
            exact ⟨_, trivial, ele_freeze (bx := [((0, s), .c (rowK rulC rs.toArray tl))]) (nn := 1) [(_, .c [int ak, int an, boolA (!x), _])] rfl rfl (.cons_cons _ (.cons_cons _ .slnil)) (List.nil_sublist _) ⟨Frz.refl _, Frz.refl _, Frz.refl _, Frz.refl _, (Frz.bp (.head _) rfl).trans (Frz.rp ⟨Frz.refl _, Frz.refl _, Frz.refl _, Frz.of_le (le_less1 hq (n1 := 0) (by omega) h1 (fun k hk => absurd hk (by omega))), trivial⟩), trivial⟩⟩
          · refine stp ?_
            exact ⟨_, trivial, ele_freeze (bx := [((0, s), .c (rowK rulC rs.toArray tl))]) (nn := 1) [(_, .c [int ak, int an, boolA (!x), _])] rfl rfl (.cons_cons _ (.cons_cons _ .slnil)) (List.nil_sublist _) ⟨Frz.refl _, Frz.refl _, Frz.refl _, Frz.refl _, (Frz.bp (.head _) rfl).trans (Frz.rp ⟨Frz.refl _, Frz.refl _, Frz.refl _, Frz.of_le (le_less2 hq (n1 := 0) (by omega) rfl (fun k hk => absurd hk (by omega))), trivial⟩), trivial⟩⟩
        · (conv => whnf)
          refine ⟨⟨_, effB (rs := rs) (tl := tl) (q := v % rs.length) (n1 := 0 + v % rs.length) (s0 := s) (HB.one rfl) rfl rfl rfl rfl rfl hq h40 (fun h => hoff (by omega)) (.inr rfl) (by omega) (fun i h => by cases h; rfl), fun r' h' hr => ?_⟩, trivial⟩
          rcases hr with ⟨h1, rfl, rfl⟩ | ⟨h1, rfl, rfl⟩
          · refine stp ?_
            exact ⟨_, trivial, ele_freeze (bx := [((0, s), .c (rowK rulC rs.toArray tl))]) (nn := 1) [(_, .c [int ak, int an, boolA (!x), _])] rfl rfl (.cons_cons _ (.cons_cons _ .slnil)) (List.nil_sublist _) ⟨Frz.refl _, Frz.refl _, Frz.refl _, Frz.refl _, (Frz.bp (.head _) rfl).trans (Frz.rp ⟨Frz.refl _, Frz.refl _, Frz.refl _, Frz.of_le (le_less1 hq (n1 := 0 + v % rs.length) (by omega) h1 (fun k hk => rfl)), trivial⟩), trivial⟩⟩
          · refine stp ?_
            exact ⟨_, trivial, ele_freeze (bx := [((0, s), .c (rowK rulC rs.toArray tl))]) (nn := 1) [(_, .c [int ak, int an, boolA (!x), _])] rfl rfl (.cons_cons _ (.cons_cons _ .slnil)) (List.nil_sublist _) ⟨Frz.refl _, Frz.refl _, Frz.refl _, Frz.refl _, (Frz.bp (.head _) rfl).trans (Frz.rp ⟨Frz.refl _, Frz.refl _, Frz.refl _, Frz.of_le (le_less2 hq (n1 := 0 + v % rs.length) (by omega) rfl (fun k hk => rfl)), trivial⟩), trivial⟩⟩
      · refine ⟨_, effA (rs := rs) (tl := tl) (m := v % rs.length) (cap := cap) (s0 := s) (HB.one rfl) rfl rfl rfl rfl rfl (Nat.le_of_lt hq) h40, fun r' h' hr => ?_⟩
        rcases hr with ⟨h0, rfl, rfl⟩ | ⟨h0, rfl, rfl⟩
        · (conv => whnf)
          refine ⟨?_, ?_, trivial⟩
          · refine ⟨_, eff_alloc rfl rfl z_pp15 (HB.one rfl), fun r' h' hr => ?_⟩
            obtain ⟨rfl, rfl⟩ := hr
            (conv => whnf)
            refine ⟨⟨_, effB (rs := rs) (tl := tl) (q := v % rs.length) (n1 := 0) (oi := none) (s0 := s) (HB.one rfl) rfl rfl rfl rfl rfl hq h40 (fun h => hoff (by omega)) (.inl ⟨rfl, rfl⟩) (by decide) (fun _ h => by cases h), fun r' h' hr => ?_⟩, trivial⟩
            rcases hr with ⟨h1, rfl, rfl⟩ | ⟨h1, rfl, rfl⟩
            · refine stp ?_
              exact ⟨_, trivial, ele_freeze (bx := [((0, s), .c (rowK rulC rs.toArray tl))]) (nn := 1) [(_, .c [int ak, int an, boolA (!x), _])] rfl rfl (.cons_cons _ (.cons_cons _ .slnil)) (List.nil_sublist _) ⟨Frz.refl _, Frz.refl _, Frz.refl _, Frz.refl _, (Frz.bp (.head _) rfl).trans (Frz.rp ⟨Frz.refl _, Frz.refl _, Frz.refl _, Frz.of_le (le_less1 hq (n1 := 0) (by omega) h1 (fun k hk => absurd hk (by omega))), trivial⟩), trivial⟩⟩
            · refine stp ?_
              exact ⟨_, trivial, ele_freeze (bx := [((0, s), .c (rowK rulC rs.toArray tl))]) (nn := 1) [(_, .c [int ak, int an, boolA (!x), _])] rfl rfl (.cons_cons _ (.cons_cons _ .slnil)) (List.nil_sublist _) ⟨Frz.refl _, Frz.refl _, Frz.refl _, Frz.refl _, (Frz.bp (.head _) rfl).trans (Frz.rp ⟨Frz.refl _, Frz.refl _, Frz.refl _, Frz.of_le (le_less2 hq (n1 := 0) (by omega) rfl (fun k hk => absurd hk (by omega))), trivial⟩), trivial⟩⟩
          · refine ⟨_, effB (rs := rs) (tl := tl) (q := v % rs.length) (n1 := 0) (oi := none) (s0 := s) (HB.one rfl) rfl rfl rfl rfl rfl hq h40 (fun h => hoff (by omega)) (.inl ⟨rfl, rfl⟩) (by decide) (fun _ h => by cases h), fun r' h' hr => ?_⟩
            rcases hr with ⟨h1, rfl, rfl⟩ | ⟨h1, rfl, rfl⟩
            · refine stp ?_
              refine ⟨⟨_, eff_alloc rfl rfl z_pp15 (HB.one rfl), fun r' h' hr => ?_⟩, trivial⟩
              obtain ⟨rfl, rfl⟩ := hr
              refine stp ?_
              exact ⟨_, trivial, ele_freeze (bx := [((0, s), .c (rowK rulC rs.toArray tl))]) (nn := 1) [(_, .c [int ak, int an, boolA (!x), _])] rfl rfl (.cons_cons _ (.cons_cons _ .slnil)) (List.nil_sublist _) ⟨Frz.refl _, Frz.refl _, Frz.refl _, Frz.refl _, (Frz.bp (.head _) rfl).trans (Frz.rp ⟨Frz.refl _, Frz.refl _, Frz.refl _, Frz.of_le (le_less1 hq (n1 := 0) (by omega) h1 (fun k hk => absurd hk (by omega))), trivial⟩), trivial⟩⟩
            · refine stp ?_
              refine ⟨⟨_, eff_alloc rfl rfl z_pp15 (HB.one rfl), fun r' h' hr => ?_⟩, trivial⟩
              obtain ⟨rfl, rfl⟩ := hr
              refine stp ?_
              exact ⟨_, trivial, ele_freeze (bx := [((0, s), .c (rowK rulC rs.toArray tl))]) (nn := 1) [(_, .c [int ak, int an, boolA (!x), _])] rfl rfl (.cons_cons _ (.cons_cons _ .slnil)) (List.nil_sublist _) ⟨Frz.refl _, Frz.refl _, Frz.refl _, Frz.refl _, (Frz.bp (.head _) rfl).trans (Frz.rp ⟨Frz.refl _, Frz.refl _, Frz.refl _, Frz.of_le (le_less2 hq (n1 := 0) (by omega) rfl (fun k hk => absurd hk (by omega))), trivial⟩), trivial⟩⟩
        · (conv => whnf)
          refine ⟨?_, ?_, trivial⟩
          · refine ⟨_, eff_alloc rfl rfl z_pp15 (HB.one rfl), fun r' h' hr => ?_⟩
            obtain ⟨rfl, rfl⟩ := hr
            (conv => whnf)
            refine ⟨⟨_, effB (rs := rs) (tl := tl) (q := v % rs.length) (n1 := 0 + v % rs.length) (s0 := s) (HB.one rfl) rfl rfl rfl rfl rfl hq h40 (fun h => hoff (by omega)) (.inr rfl) (by omega) (fun i h => by cases h; rfl), fun r' h' hr => ?_⟩, trivial⟩
            rcases hr with ⟨h1, rfl, rfl⟩ | ⟨h1, rfl, rfl⟩
            · refine stp ?_
              exact ⟨_, trivial, ele_freeze (bx := [((0, s), .c (rowK rulC rs.toArray tl))]) (nn := 1) [(_, .c [int ak, int an, boolA (!x), _])] rfl rfl (.cons_cons _ (.cons_cons _ .slnil)) (List.nil_sublist _) ⟨Frz.refl _, Frz.refl _, Frz.refl _, Frz.refl _, (Frz.bp (.head _) rfl).trans (Frz.rp ⟨Frz.refl _, Frz.refl _, Frz.refl _, Frz.of_le (le_less1 hq (n1 := 0 + v % rs.length) (by omega) h1 (fun k hk => rfl)), trivial⟩), trivial⟩⟩
            · refine stp ?_
              exact ⟨_, trivial, ele_freeze (bx := [((0, s), .c (rowK rulC rs.toArray tl))]) (nn := 1) [(_, .c [int ak, int an, boolA (!x), _])] rfl rfl (.cons_cons _ (.cons_cons _ .slnil)) (List.nil_sublist _) ⟨Frz.refl _, Frz.refl _, Frz.refl _, Frz.refl _, (Frz.bp (.head _) rfl).trans (Frz.rp ⟨Frz.refl _, Frz.refl _, Frz.refl _, Frz.of_le (le_less2 hq (n1 := 0 + v % rs.length) (by omega) rfl (fun k hk => rfl)), trivial⟩), trivial⟩⟩
          · refine ⟨_, effB (rs := rs) (tl := tl) (q := v % rs.length) (n1 := 0 + v % rs.length) (s0 := s) (HB.one rfl) rfl rfl rfl rfl rfl hq h40 (fun h => hoff (by omega)) (.inr rfl) (by omega) (fun i h => by cases h; rfl), fun r' h' hr => ?_⟩
            rcases hr with ⟨h1, rfl, rfl⟩ | ⟨h1, rfl, rfl⟩
            · refine stp ?_
              refine ⟨⟨_, eff_alloc rfl rfl z_pp15 (HB.one rfl), fun r' h' hr => ?_⟩, trivial⟩
              obtain ⟨rfl, rfl⟩ := hr
              refine stp ?_
              exact ⟨_, trivial, ele_freeze (bx := [((0, s), .c (rowK rulC rs.toArray tl))]) (nn := 1) [(_, .c [int ak, int an, boolA (!x), _])] rfl rfl (.cons_cons _ (.cons_cons _ .slnil)) (List.nil_sublist _) ⟨Frz.refl _, Frz.refl _, Frz.refl _, Frz.refl _, (Frz.bp (.head _) rfl).trans (Frz.rp ⟨Frz.refl _, Frz.refl _, Frz.refl _, Frz.of_le (le_less1 hq (n1 := 0 + v % rs.length) (by omega) h1 (fun k hk => rfl)), trivial⟩), trivial⟩⟩
            · refine stp ?_
              refine ⟨⟨_, eff_alloc rfl rfl z_pp15 (HB.one rfl), fun r' h' hr => ?_⟩, trivial⟩
              obtain ⟨rfl, rfl⟩ := hr
              refine stp ?_
              exact ⟨_, trivial, ele_freeze (bx := [((0, s), .c (rowK rulC rs.toArray tl))]) (nn := 1) [(_, .c [int ak, int an, boolA (!x), _])] rfl rfl (.cons_cons _ (.cons_cons _ .slnil)) (List.nil_sublist _) ⟨Frz.refl _, Frz.refl _, Frz.refl _, Frz.refl _, (Frz.bp (.head _) rfl).trans (Frz.rp ⟨Frz.refl _, Frz.refl _, Frz.refl _, Frz.of_le (le_less2 hq (n1 := 0 + v % rs.length) (by omega) rfl (fun k hk => rfl)), trivial⟩), trivial⟩⟩
    · intro nx6 _
      refine stp ?_
      refine ⟨⟨by omega, by omega⟩, splitO_eq (b := .bp (0, s) (v % rs.length * 4)) (congrArg (AV.bp (0, s)) (by rw [c_rul15, Int.toNat_natCast, Nat.zero_add])) ?_⟩
      refine stpR ?_
      refine ⟨⟨rfl, by rw [row_len]; show v % rs.length * 4 + 1 + 2 ≤ _; omega⟩, ?_⟩
      refine stpR ?_
      refine AW.le (E' := mk 116 [(7, .rp [int k, int n, boolA x, .hs (0, s) 0 rs.length cap]), (8, trows l), (13, .rp [int ak, int an, boolA (!x), ruls (rs.take (v % rs.length) ++ rs.drop (v % rs.length + 1))])] ⟨[((0, s), .c (rowK rulC (rs.set (v % rs.length) ⟨(rs.getD (v % rs.length) rul0).name, (ak, an), (rs.getD (v % rs.length) rul0).conds⟩).toArray tl))], [], nx6, 1⟩) (ele_tell (pm := []) [((0, s), .c (splice (rowK rulC rs.toArray tl) (v % rs.length * 4 + 1) [int ak, int an]))] [] rfl rfl (List.Sublist.refl _) .slnil ⟨rfl, ownEq (congrArg Own.c (set_act (a := (ak, an)) hq)), trivial⟩ trivial ⟨AVle.refl _, AVle.refl _, AVle.refl _, trivial⟩) ?_
      refine stp ?_
      refine aop_tells rfl rfl hc1 ⟨AVle.refl _, AVle.refl _, trivial⟩ fun nx7 => ?_
      refine stp ?_
      refine AOp.of_yields (yields_look rfl rfl hc2 ⟨Frz.ag ⟨Frz.refl _, Frz.refl _, Frz.refl _, frz_rowK rulC_len (fun _ => rfl) List.length_set (.head _) q1, trivial⟩, Frz.refl _, trivial⟩ (flat_two _ _)) ?_
      refine stp ?_
      refine aop_tells rfl rfl hawk trivial fun nx8 => ?_
      refine stp ?_
      exact ret_tells rfl (AVle.refl _)
end Go.Proofs.W

/- The order of a rule's conditions does not matter: the law. -/
namespace Go.Proofs.W
open Go.Vl
set_option maxRecDepth 100000

theorem ele_frzP {E : Env} {n : Nat} {bx : List (Vl.Id × Own)} {pm : List (Vl.Id × Nat)} {nx nn : Nat} {L : List (Nat × AV)} (bx'' bs : List (Vl.Id × Own)) (hn : E.n = n) (hx : E.h.nx = nx) (h0 : bx''.Perm E.h.bx) (hb : (bs ++ bx).Sublist bx'') (hp : pm.Sublist E.h.pm)
    (hL : FrzT (bs.map fun p => (p.1.2, p.2)) E.t L) : ELe E (mk n L ⟨bx, pm, nx, nn⟩ E.df) :=
  (ele_like (E := E) (h' := ⟨bx'', E.h.pm, E.h.nx, E.h.nn⟩) ⟨h0.map _, .refl _, rfl⟩).trans (ele_freeze (E := { E with h := ⟨bx'', E.h.pm, E.h.nx, E.h.nn⟩ }) bs hn hx hb hp hL)
theorem eff_of {ops : Array Oper} {B : List (Vl.Id × Own)} {o : Oper} {E : Env} {fo : Operand} {args : Array Operand} {tys : Array TypeId} {first caps xs : List AV} (p : Pol) (hc : ∀ nx, ECall Tryz.prog 9 xs ⟨[], [], nx, 0⟩ (ofQ p)) (hB : ∀ s o, HB B (((E.h.nn, s), o) :: E.h.bx)) (hg : o.guard = none)
    (ho : o.op = .call { callee := .value fo, args := args, argTypes := tys }) (hf : E.ev fo = .fn (.func 9) first caps) (hl' : LeL (first ++ args.toList.map E.ev ++ caps) xs) :
    Eff Tryz.prog ops B o E fun r h' => ∃ s cap tl nx', p.rules.length ≤ cap ∧ cap * 4 ≤ p.rules.length * 4 + tl.length ∧ r = .ag [int p.dflt.1, int p.dflt.2, boolA p.x32, .hs (E.h.nn, s) 0 p.rules.length cap] ∧ h' = ⟨((E.h.nn, s), .c (rowK rulC p.rules.toArray tl)) :: E.h.bx, E.h.pm, nx', E.h.nn + 1⟩ :=
  eff_call hg ho hf ((ECall.frame (h := E.h) (hc E.h.nx) E.h.bx E.h.pm (by simp) (by simp) rfl).args hl') fun r h' hq => by
    obtain ⟨h1', ⟨s, cap, tl, nx', q1, q2, rfl, rfl⟩, rfl⟩ := hq
    exact ⟨.ag [int p.dflt.1, int p.dflt.2, boolA p.x32, .hs (E.h.nn, s) 0 p.rules.length cap], ⟨((E.h.nn, s), .c (rowK rulC p.rules.toArray tl)) :: E.h.bx, E.h.pm, nx', E.h.nn + 1⟩, AVle.ags ⟨AVle.refl _, AVle.refl _, AVle.refl _, AVle.hs_nm rfl, trivial⟩, ⟨by simp, by simp, rfl⟩, ⟨s, cap, tl, nx', q1, q2, rfl, rfl⟩, hB s _⟩
def turnTo (rs : List Rul) (i : Nat) : List Rul := (rs.take i).map turnR ++ rs.drop i
theorem turnTo_len {rs : List Rul} {i : Nat} (hi : i ≤ rs.length) : (turnTo rs i).length = rs.length := by
  unfold turnTo
  rw [List.length_append, List.length_map, List.length_take, List.length_drop]; omega
theorem turnTo_at {rs : List Rul} {i : Nat} (hi : i < rs.length) : (turnTo rs i).getD i rul0 = rs.getD i rul0 := by
  unfold turnTo
  simp only [List.getD_eq_getElem?_getD]
  rw [List.getElem?_append_right (by rw [List.length_map, List.length_take]; omega), List.length_map, List.length_take, List.getElem?_drop, show i + (i - min i rs.length) = i by omega]
theorem turnTo_next {rs : List Rul} {i : Nat} (hi : i < rs.length) : (turnTo rs i).set i (turnR (rs.getD i rul0)) = turnTo rs (i + 1) := by
  have hl : ((rs.take i).map turnR).length = i := by rw [List.length_map, List.length_take]; omega
  unfold turnTo
  rw [List.set_append_right _ _ (by omega), hl, Nat.sub_self, List.drop_eq_getElem_cons hi, List.set_cons_zero, take_getD rul0 hi, List.map_append, List.append_assoc]
  rfl
theorem turnTo_all {rs : List Rul} : turnTo rs rs.length = rs.map turnR := by
  unfold turnTo
  rw [List.take_length, List.drop_length, List.append_nil]
def revF (cs : List Cnd) (k : Nat) : AV := cndA (cs.reverse.getD k cnd0)
theorem rev_at {cs : List Cnd} {m : Nat} (hm : m < cs.length) : cs.getD (cs.length - 1 - m) cnd0 = cs.reverse.getD m cnd0 := by
  simp only [List.getD_eq_getElem?_getD]
  rw [List.getElem?_reverse hm]
theorem rev_ix {n m : Nat} (hm : m < n) : ((n : Int) - 1 - (m : Int)).toNat = n - 1 - m := by omega
theorem le_rev {cs : List Cnd} {m : Nat} {f' : Nat → AV} {i j : Vl.Id} (hf : f' 0 = revF cs m) (h : i.2 = j.2 := by rfl) : AVle (.os 4 (m + 1) (appF m (revF cs) f') (some i)) (.os 4 (m + 1) (revF cs) (some j)) :=
  (AVle.os_fun (appF_one (fun k hk => rfl) hf)).trans (AVle.os_nm h)
theorem le_turn1 {cs : List Cnd} {f' : Nat → AV} {oi : Option Vl.Id} (h0 : 0 < cs.length) (h6 : cs.length < 6) (hf : f' 0 = revF cs 0) : AVle (.os 4 (cs.length + 1) (appF cs.length (revF cs) f') oi) (cnds (turnC cs)) := by
  have e : turnC cs = cs.reverse ++ [cs.reverse.getD 0 cnd0] := by
    unfold turnC
    rw [if_pos ⟨by rw [List.length_reverse]; exact h0, by rw [List.length_reverse]; exact h6⟩]
  rw [e]
  refine AVle.os_sl.trans ?_
  unfold cnds slOf
  rw [List.length_append, List.length_reverse, List.length_singleton]
  refine AVle.sl_fun fun k hk => ?_
  rcases Nat.lt_or_ge k cs.length with h | h
  · rw [appF_lo h]
    unfold revF
    rw [show (cs.reverse ++ [cs.reverse.getD 0 cnd0]).getD k cnd0 = cs.reverse.getD k cnd0 by simp only [List.getD_eq_getElem?_getD]; rw [List.getElem?_append_left (by rw [List.length_reverse]; exact h)]]
  · rw [show k = cs.length by omega, appF_hi, hf]
    unfold revF
    simp [List.getD]
theorem le_turn0 {cs : List Cnd} {oi : Option Vl.Id} (h : ¬ (0 < cs.length ∧ cs.length < 6)) : AVle (.os 4 cs.length (revF cs) oi) (cnds (turnC cs)) := by
  have e : turnC cs = cs.reverse := by
    unfold turnC
    rw [if_neg (by rw [List.length_reverse]; exact h)]
  rw [e]
  refine AVle.os_sl.trans ?_
  unfold cnds slOf
  rw [List.length_reverse]
  exact AVle.refl _
theorem noid_pol15 (p : Pol) : NoId (polA p) := NoId.ag fun c hc => by
  simp only [List.mem_cons, List.not_mem_nil, or_false] at hc
  rcases hc with rfl | rfl | rfl | rfl
  · exact NoId.v _
  · exact NoId.v _
  · exact NoId.v _
  · refine NoId.sl fun i hi c hc => ?_
    simp only [rulA, AV.cells, List.mem_cons, List.not_mem_nil, or_false] at hc
    rcases hc with rfl | rfl | rfl | rfl
    · exact NoId.v _
    · exact NoId.v _
    · exact NoId.v _
    · refine NoId.sl fun i hi c hc => ?_
      simp only [cndA, AV.cells, List.mem_cons, List.not_mem_nil, or_false] at hc
      rcases hc with rfl | rfl | rfl | rfl <;> exact NoId.v _
theorem splice_le {R : List AV} {off : Nat} {a b : AV} (h : AVle a b) : LeL (splice R off [a]) (splice R off [b]) := by
  rw [splice_def, splice_def]
  exact LeL.append (LeL.refl _) (LeL.append (show LeL [a] [b] from ⟨h, trivial⟩) (LeL.refl _))
theorem turn_own {rs : List Rul} {i : Nat} (hi : i < rs.length) {v : AV} {tl : List AV} (h : AVle v (cnds (turnC (rs.getD i rul0).conds))) : OwnLe (.c (splice (rowK rulC (turnTo rs i).toArray tl) (i * 4 + 3) [v])) (.c (rowK rulC (turnTo rs (i + 1)).toArray tl)) := by
  have e := set_conds (rs := turnTo rs i) (i := i) (cs := turnC (rs.getD i rul0).conds) (tl := tl) (by rw [turnTo_len (Nat.le_of_lt hi)]; exact hi)
  rw [turnTo_at hi, show (⟨(rs.getD i rul0).name, (rs.getD i rul0).act, turnC (rs.getD i rul0).conds⟩ : Rul) = turnR (rs.getD i rul0) from rfl, turnTo_next hi] at e
  rw [← e]
  exact splice_le h
set_option maxHeartbeats 32000000 in
theorem turned_deep (k n : Int) (x : Bool) (rs : List Rul) (l : List TRow) (h40 : rs.length ≤ 40) (h12 : ∀ r ∈ rs, r.conds.length ≤ 12) (hne : rs ≠ [])
    (hlt : Tells Tryz.prog 7 [polA ⟨(k, n), x, rs⟩, trows l] (boolA true)) (hofx : Tells Tryz.prog 9 [polA ⟨(k, n), x, rs⟩] (polA ⟨(k, n), x, rs⟩)) (hof : ∀ nx, ECall Tryz.prog 9 [polA ⟨(k, n), x, rs⟩] ⟨[], [], nx, 0⟩ (ofQ ⟨(k, n), x, rs⟩)) (hrw : Tells Tryz.prog 10 [trows l] (trows l))
    (a b : Int) (hc : Tells Tryz.prog 8 [polA ⟨(k, n), x, rs⟩, trows l] (.tup [int a, int b])) (hc2 : Tells Tryz.prog 8 [polA (turnP ⟨(k, n), x, rs⟩), trows l] (.tup [int a, int b])) :
    Tells Tryz.prog 5 [polA ⟨(k, n), x, rs⟩, trows l] (boolA true) := by
  have hawk := awake15_spec
  refine tells_of_aw Tryz.func5 rfl rfl fun nx => ?_
  refine stp ?_
  refine aop_tells rfl rfl hlt ⟨AVle.refl _, AVle.refl _, trivial⟩ fun nx2 => ?_
  refine stpR ?_
  refine aw_mid (fun y : Nat × Nat × Nat × List AV => mk 99 [(5, .rp [int k, int n, boolA x, ruls rs]), (6, .rp [int k, int n, boolA x, .hs (0, y.2.1) 0 rs.length y.2.2.1]), (7, trows l)] ⟨[((0, y.2.1), .c (rowK rulC rs.toArray y.2.2.2))], [], y.1, 1⟩) (fun y => rs.length ≤ y.2.2.1 ∧ y.2.2.1 * 4 ≤ rs.length * 4 + y.2.2.2.length) ?_ ?_
  · refine aw_mixT 8 _ (fun i => match i with | 3 => true | 6 => true | 7 => true | _ => false) (fun i => match i with | 1 => true | 5 => true | _ => false) [0, 1, 2, 4] (.br 3 [5] (.br 6 [] (.br 7 [] .nil .nil) (.br 7 [] (.br 6 [] .nil .nil) .nil)) (.br 6 [] (.br 3 [5] (.br 7 [] .nil .nil) (.br 7 [] (.br 3 [5] .nil .nil) .nil)) (.br 7 [] (.br 3 [5] (.br 6 [] .nil .nil) (.br 6 [] (.br 3 [5] .nil .nil) .nil)) .nil))) (by kernel_rfl) (by kernel_rfl) (HB.refl _) ?_
    refine stp ?_
    refine ⟨_, pure_tells rfl rfl rfl hofx ⟨AVle.refl _, trivial⟩ (noid_pol15 _), ?_⟩
    refine stp ?_
    refine ⟨?_, ?_, ?_, trivial⟩
    · refine ⟨_, eff_of ⟨(k, n), x, rs⟩ hof (fun _ _ => HB.one rfl) rfl rfl rfl ⟨AVle.refl _, trivial⟩, fun r' h' hr => ?_⟩
      obtain ⟨s, cap, tl, nx4, q1, q2, rfl, rfl⟩ := hr
      dsimp only at q1 q2
      refine stp ?_
      refine ⟨_, pure_tells rfl rfl rfl hrw ⟨AVle.refl _, trivial⟩ (noid_trows _), ?_⟩
      refine stp ?_
      refine ⟨?_, ?_, trivial⟩
      · refine ⟨_, eff_alloc rfl rfl z_pp15 (HB.one rfl), fun r' h' hr => ?_⟩
        obtain ⟨rfl, rfl⟩ := hr
        refine stp ?_
        refine ⟨⟨_, eff_alloc rfl rfl z_pp15 (HB.one rfl), fun r' h' hr => ?_⟩, trivial⟩
        obtain ⟨rfl, rfl⟩ := hr
        refine stp ?_
        exact ⟨(_, s, cap, tl), ⟨q1, q2⟩, ELe.trans (ele_frzP (bx := [((1, s), .c (rowK rulC rs.toArray tl))]) (nn := 5) (L := [(5, .rp [int k, int n, boolA x, ruls rs]), (6, .rp [int k, int n, boolA x, .hs (1, s) 0 rs.length cap]), (7, trows l)]) [(_, .c [int k, int n, boolA x, .hs (1, s) 0 rs.length cap]), (_, .c [int k, int n, boolA x, ruls rs]), ((1, s), .c (rowK rulC rs.toArray tl)), _] [(_, .c [int k, int n, boolA x, .hs (1, s) 0 rs.length cap]), (_, .c [int k, int n, boolA x, ruls rs])] rfl rfl (List.Perm.refl _) (.cons_cons _ (.cons_cons _ (.cons_cons _ (.cons _ .slnil)))) .slnil ⟨(Frz.bp (.tail _ (.head _)) rfl), (Frz.bp (.head _) rfl), Frz.refl _, trivial⟩) (ele_tell (pm := []) [((1, s), .c (rowK rulC rs.toArray tl))] [] rfl rfl (List.Sublist.refl _) .slnil ⟨rfl, OwnLe.refl _, trivial⟩ trivial ⟨AVle.refl _, W.AVle.rps ⟨AVle.refl _, AVle.refl _, AVle.refl _, AVle.hs_nm rfl, trivial⟩, AVle.refl _, trivial⟩)⟩
      · refine ⟨_, eff_alloc rfl rfl z_pp15 (HB.one rfl), fun r' h' hr => ?_⟩
        obtain ⟨rfl, rfl⟩ := hr
        refine stp ?_
        refine ⟨⟨_, eff_alloc rfl rfl z_pp15 (HB.one rfl), fun r' h' hr => ?_⟩, trivial⟩
        obtain ⟨rfl, rfl⟩ := hr
        refine stp ?_
        exact ⟨(_, s, cap, tl), ⟨q1, q2⟩, ELe.trans (ele_frzP (bx := [((1, s), .c (rowK rulC rs.toArray tl))]) (nn := 5) (L := [(5, .rp [int k, int n, boolA x, ruls rs]), (6, .rp [int k, int n, boolA x, .hs (1, s) 0 rs.length cap]), (7, trows l)]) [(_, .c [int k, int n, boolA x, ruls rs]), (_, .c [int k, int n, boolA x, .hs (1, s) 0 rs.length cap]), ((1, s), .c (rowK rulC rs.toArray tl)), _] [(_, .c [int k, int n, boolA x, ruls rs]), (_, .c [int k, int n, boolA x, .hs (1, s) 0 rs.length cap])] rfl rfl (List.Perm.refl _) (.cons_cons _ (.cons_cons _ (.cons_cons _ (.cons _ .slnil)))) .slnil ⟨(Frz.bp (.head _) rfl), (Frz.bp (.tail _ (.head _)) rfl), Frz.refl _, trivial⟩) (ele_tell (pm := []) [((1, s), .c (rowK rulC rs.toArray tl))] [] rfl rfl (List.Sublist.refl _) .slnil ⟨rfl, OwnLe.refl _, trivial⟩ trivial ⟨AVle.refl _, W.AVle.rps ⟨AVle.refl _, AVle.refl _, AVle.refl _, AVle.hs_nm rfl, trivial⟩, AVle.refl _, trivial⟩)⟩
    · refine ⟨_, eff_alloc rfl rfl z_pp15 (HB.one rfl), fun r' h' hr => ?_⟩
      obtain ⟨rfl, rfl⟩ := hr
      refine stp ?_
      refine ⟨?_, ?_, trivial⟩
      · refine ⟨_, eff_of ⟨(k, n), x, rs⟩ hof (fun _ _ => HB.one rfl) rfl rfl rfl ⟨AVle.refl _, trivial⟩, fun r' h' hr => ?_⟩
        obtain ⟨s, cap, tl, nx4, q1, q2, rfl, rfl⟩ := hr
        dsimp only at q1 q2
        refine stp ?_
        refine ⟨_, pure_tells rfl rfl rfl hrw ⟨AVle.refl _, trivial⟩ (noid_trows _), ?_⟩
        refine stp ?_
        refine ⟨⟨_, eff_alloc rfl rfl z_pp15 (HB.one rfl), fun r' h' hr => ?_⟩, trivial⟩
        obtain ⟨rfl, rfl⟩ := hr
        refine stp ?_
        exact ⟨(_, s, cap, tl), ⟨q1, q2⟩, ELe.trans (ele_frzP (bx := [((2, s), .c (rowK rulC rs.toArray tl))]) (nn := 5) (L := [(5, .rp [int k, int n, boolA x, ruls rs]), (6, .rp [int k, int n, boolA x, .hs (2, s) 0 rs.length cap]), (7, trows l)]) [(_, .c [int k, int n, boolA x, .hs (2, s) 0 rs.length cap]), (_, .c [int k, int n, boolA x, ruls rs]), ((2, s), .c (rowK rulC rs.toArray tl)), _] [(_, .c [int k, int n, boolA x, .hs (2, s) 0 rs.length cap]), (_, .c [int k, int n, boolA x, ruls rs])] rfl rfl (.cons _ (.swap _ _ _)) (.cons_cons _ (.cons_cons _ (.cons_cons _ (.cons _ .slnil)))) .slnil ⟨(Frz.bp (.tail _ (.head _)) rfl), (Frz.bp (.head _) rfl), Frz.refl _, trivial⟩) (ele_tell (pm := []) [((2, s), .c (rowK rulC rs.toArray tl))] [] rfl rfl (List.Sublist.refl _) .slnil ⟨rfl, OwnLe.refl _, trivial⟩ trivial ⟨AVle.refl _, W.AVle.rps ⟨AVle.refl _, AVle.refl _, AVle.refl _, AVle.hs_nm rfl, trivial⟩, AVle.refl _, trivial⟩)⟩
      · refine ⟨_, eff_alloc rfl rfl z_pp15 (HB.one rfl), fun r' h' hr => ?_⟩
        obtain ⟨rfl, rfl⟩ := hr
        refine stp ?_
        refine ⟨⟨_, eff_of ⟨(k, n), x, rs⟩ hof (fun _ _ => HB.one rfl) rfl rfl rfl ⟨AVle.refl _, trivial⟩, fun r' h' hr => ?_⟩, trivial⟩
        obtain ⟨s, cap, tl, nx4, q1, q2, rfl, rfl⟩ := hr
        dsimp only at q1 q2
        refine stp ?_
        refine ⟨_, pure_tells rfl rfl rfl hrw ⟨AVle.refl _, trivial⟩ (noid_trows _), ?_⟩
        refine stp ?_
        exact ⟨(_, s, cap, tl), ⟨q1, q2⟩, ELe.trans (ele_frzP (bx := [((3, s), .c (rowK rulC rs.toArray tl))]) (nn := 5) (L := [(5, .rp [int k, int n, boolA x, ruls rs]), (6, .rp [int k, int n, boolA x, .hs (3, s) 0 rs.length cap]), (7, trows l)]) [(_, .c [int k, int n, boolA x, .hs (3, s) 0 rs.length cap]), (_, .c [int k, int n, boolA x, ruls rs]), ((3, s), .c (rowK rulC rs.toArray tl)), _] [(_, .c [int k, int n, boolA x, .hs (3, s) 0 rs.length cap]), (_, .c [int k, int n, boolA x, ruls rs])] rfl rfl ((List.Perm.cons _ (.swap _ _ _)).trans (.swap _ _ _)) (.cons_cons _ (.cons_cons _ (.cons_cons _ (.cons _ .slnil)))) .slnil ⟨(Frz.bp (.tail _ (.head _)) rfl), (Frz.bp (.head _) rfl), Frz.refl _, trivial⟩) (ele_tell (pm := []) [((3, s), .c (rowK rulC rs.toArray tl))] [] rfl rfl (List.Sublist.refl _) .slnil ⟨rfl, OwnLe.refl _, trivial⟩ trivial ⟨AVle.refl _, W.AVle.rps ⟨AVle.refl _, AVle.refl _, AVle.refl _, AVle.hs_nm rfl, trivial⟩, AVle.refl _, trivial⟩)⟩
    · refine ⟨_, eff_alloc rfl rfl z_pp15 (HB.one rfl), fun r' h' hr => ?_⟩
      obtain ⟨rfl, rfl⟩ := hr
      refine stp ?_
      refine ⟨?_, ?_, trivial⟩
      · refine ⟨_, eff_of ⟨(k, n), x, rs⟩ hof (fun _ _ => HB.one rfl) rfl rfl rfl ⟨AVle.refl _, trivial⟩, fun r' h' hr => ?_⟩
        obtain ⟨s, cap, tl, nx4, q1, q2, rfl, rfl⟩ := hr
        dsimp only at q1 q2
        refine stp ?_
        refine ⟨_, pure_tells rfl rfl rfl hrw ⟨AVle.refl _, trivial⟩ (noid_trows _), ?_⟩
        refine stp ?_
        refine ⟨⟨_, eff_alloc rfl rfl z_pp15 (HB.one rfl), fun r' h' hr => ?_⟩, trivial⟩
        obtain ⟨rfl, rfl⟩ := hr
        refine stp ?_
        exact ⟨(_, s, cap, tl), ⟨q1, q2⟩, ELe.trans (ele_frzP (bx := [((2, s), .c (rowK rulC rs.toArray tl))]) (nn := 5) (L := [(5, .rp [int k, int n, boolA x, ruls rs]), (6, .rp [int k, int n, boolA x, .hs (2, s) 0 rs.length cap]), (7, trows l)]) [(_, .c [int k, int n, boolA x, ruls rs]), (_, .c [int k, int n, boolA x, .hs (2, s) 0 rs.length cap]), ((2, s), .c (rowK rulC rs.toArray tl)), _] [(_, .c [int k, int n, boolA x, ruls rs]), (_, .c [int k, int n, boolA x, .hs (2, s) 0 rs.length cap])] rfl rfl (.cons _ (.swap _ _ _)) (.cons_cons _ (.cons_cons _ (.cons_cons _ (.cons _ .slnil)))) .slnil ⟨(Frz.bp (.head _) rfl), (Frz.bp (.tail _ (.head _)) rfl), Frz.refl _, trivial⟩) (ele_tell (pm := []) [((2, s), .c (rowK rulC rs.toArray tl))] [] rfl rfl (List.Sublist.refl _) .slnil ⟨rfl, OwnLe.refl _, trivial⟩ trivial ⟨AVle.refl _, W.AVle.rps ⟨AVle.refl _, AVle.refl _, AVle.refl _, AVle.hs_nm rfl, trivial⟩, AVle.refl _, trivial⟩)⟩
      · refine ⟨_, eff_alloc rfl rfl z_pp15 (HB.one rfl), fun r' h' hr => ?_⟩
        obtain ⟨rfl, rfl⟩ := hr
        refine stp ?_
        refine ⟨⟨_, eff_of ⟨(k, n), x, rs⟩ hof (fun _ _ => HB.one rfl) rfl rfl rfl ⟨AVle.refl _, trivial⟩, fun r' h' hr => ?_⟩, trivial⟩
        obtain ⟨s, cap, tl, nx4, q1, q2, rfl, rfl⟩ := hr
        dsimp only at q1 q2
        refine stp ?_
        refine ⟨_, pure_tells rfl rfl rfl hrw ⟨AVle.refl _, trivial⟩ (noid_trows _), ?_⟩
        refine stp ?_
        exact ⟨(_, s, cap, tl), ⟨q1, q2⟩, ELe.trans (ele_frzP (bx := [((3, s), .c (rowK rulC rs.toArray tl))]) (nn := 5) (L := [(5, .rp [int k, int n, boolA x, ruls rs]), (6, .rp [int k, int n, boolA x, .hs (3, s) 0 rs.length cap]), (7, trows l)]) [(_, .c [int k, int n, boolA x, ruls rs]), (_, .c [int k, int n, boolA x, .hs (3, s) 0 rs.length cap]), ((3, s), .c (rowK rulC rs.toArray tl)), _] [(_, .c [int k, int n, boolA x, ruls rs]), (_, .c [int k, int n, boolA x, .hs (3, s) 0 rs.length cap])] rfl rfl ((List.Perm.cons _ (.swap _ _ _)).trans (.swap _ _ _)) (.cons_cons _ (.cons_cons _ (.cons_cons _ (.cons _ .slnil)))) .slnil ⟨(Frz.bp (.head _) rfl), (Frz.bp (.tail _ (.head _)) rfl), Frz.refl _, trivial⟩) (ele_tell (pm := []) [((3, s), .c (rowK rulC rs.toArray tl))] [] rfl rfl (List.Sublist.refl _) .slnil ⟨rfl, OwnLe.refl _, trivial⟩ trivial ⟨AVle.refl _, W.AVle.rps ⟨AVle.refl _, AVle.refl _, AVle.refl _, AVle.hs_nm rfl, trivial⟩, AVle.refl _, trivial⟩)⟩
  · rintro ⟨nx3, s, cap, tl⟩ ⟨q1, q2⟩
    dsimp only at q1 q2
    refine stp ?_
    refine aw_loop (fun y : Nat × Nat => mk 99 [(5, .rp [int k, int n, boolA x, ruls rs]), (6, .rp [int k, int n, boolA x, .hs (0, s) 0 rs.length cap]), (7, trows l), (8, int y.1)] ⟨[((0, s), .c (rowK rulC (turnTo rs y.1).toArray tl))], [], y.2, 1⟩) (fun y => y.1 ≤ rs.length) (fun y => rs.length - y.1) ?_ ?_
    · exact ⟨(0, nx3), Nat.zero_le _, ele_tell (pm := []) (bx := [((0, s), .c (rowK rulC (turnTo rs 0).toArray tl))]) [((0, s), .c (rowK rulC rs.toArray tl))] [] rfl rfl (List.Sublist.refl _) .slnil ⟨rfl, OwnLe.refl _, trivial⟩ trivial ⟨AVle.refl _, AVle.refl _, AVle.refl _, AVle.refl _, trivial⟩⟩
    · rintro ⟨i, nx4⟩ h1
      dsimp only at h1
      refine stp ?_
      intro c g; cases c
      · have g := not_of g
        try dsimp only at g
        obtain rfl : i = rs.length := by omega
        refine stp ?_
        refine aop_tells rfl rfl hc ⟨AVle.refl _, AVle.refl _, trivial⟩ fun nx5 => ?_
        refine stp ?_
        refine AOp.of_yields (yields_look rfl rfl hc2 ⟨Frz.ag ⟨Frz.refl _, Frz.refl _, Frz.refl _, frz_rowK (l := (turnP ⟨(k, n), x, rs⟩).rules) rulC_len (fun _ => rfl) (List.length_map _) (by rw [turnTo_all]; exact .head _) q1, trivial⟩, Frz.refl _, trivial⟩ (flat_two _ _)) ?_
        refine stp ?_
        intro c hc0
        have hc3 : c = true := hc0.trans (beq_self_eq_true _)
        clear hc0; subst hc3
        refine stp ?_
        intro c hc0
        have hc3 : c = true := hc0.trans (beq_self_eq_true _)
        clear hc0; subst hc3
        refine stp ?_
        refine aop_tells rfl rfl hawk trivial fun nx8 => ?_
        refine stp ?_
        exact ret_tells rfl (AVle.refl _)
      · have g := yes_of g
        try dsimp only at g
        have hi : i < rs.length := by omega
        have hcl := h12 _ (rule_in hi)
        have hlen : i < (turnTo rs i).length := by rw [turnTo_len h1]; exact hi
        refine stp ?_
        refine ⟨⟨by omega, by show (i : Int) < (rs.length : Int); omega⟩, splitO_eq (b := .bp (0, s) (i * 4)) (congrArg (AV.bp (0, s)) (by rw [c_rul15, Nat.zero_add]; rfl)) ?_⟩
        refine stp ?_
        refine ⟨⟨rfl, by rw [row_len, turnTo_len h1]; show i * 4 + 3 < _; omega⟩, splitO_eq (b := cnds (rs.getD i rul0).conds) (by show (rowK rulC (turnTo rs i).toArray tl).getD (i * 4 + 3) .any = _; rw [List.getD_eq_getElem?_getD, row_at hlen (by decide), turnTo_at hi]; rfl) ?_⟩
        refine stp ?_
        refine aw_loop (fun y : Nat × Option Nat × Nat => mk 99 [(5, .rp [int k, int n, boolA x, ruls rs]), (6, .rp [int k, int n, boolA x, .hs (0, s) 0 rs.length cap]), (7, trows l), (8, int i), (9, .os 4 y.1 (revF (rs.getD i rul0).conds) (nmd y.2.1)), (10, int (((rs.getD i rul0).conds.length : Int) - 1 - (y.1 : Int)))] ⟨[((0, s), .c (rowK rulC (turnTo rs i).toArray tl))], pmOf (nmd y.2.1) (y.1 * 4), y.2.2, 1⟩) (fun y => y.1 ≤ (rs.getD i rul0).conds.length ∧ (y.2.1 = none → y.1 = 0)) (fun y => (rs.getD i rul0).conds.length - y.1) ?_ ?_
        · exact ⟨(0, none, nx4), ⟨Nat.zero_le _, fun _ => rfl⟩, ele_tell (pm := []) (bx := [((0, s), .c (rowK rulC (turnTo rs i).toArray tl))]) _ [] rfl rfl (List.Sublist.refl _) .slnil (BxLe.refl _) trivial ⟨AVle.refl _, AVle.refl _, AVle.refl _, AVle.refl _, AVle.os_nil, le_int (by rw [wrap_id (by omega) (by omega)]; omega), trivial⟩⟩
        · rintro ⟨m, om, nx5⟩ ⟨k1, k2⟩
          dsimp only at k1 k2
          refine stp ?_
          intro c g2; cases c
          · have g2 := not_of g2
            try dsimp only at g2
            obtain rfl : m = (rs.getD i rul0).conds.length := by omega
            rcases om with _ | o1
            · have h0 := k2 rfl
              refine stp ?_
              intro c z1; cases c
              rotate_left
              · exact absurd (yes_of z1) (by show ¬ (((rs.getD i rul0).conds.length : Nat) : Int) > 0; omega)
              refine stp ?_
              refine ⟨⟨by omega, by show (i : Int) < (rs.length : Int); omega⟩, splitO_eq (b := .bp (0, s) (i * 4)) (congrArg (AV.bp (0, s)) (by rw [c_rul15, Nat.zero_add]; rfl)) ?_⟩
              refine stp ?_
              refine ⟨⟨rfl, by rw [row_len, turnTo_len h1]; show i * 4 + 3 + 1 ≤ _; omega⟩, ?_⟩
              refine stp ?_
              exact back (i + 1, nx5) hi (by dsimp only; omega) (ele_tell (pm := []) (bx := [((0, s), .c (rowK rulC (turnTo rs (i + 1)).toArray tl))]) [((0, s), .c (splice (rowK rulC (turnTo rs i).toArray tl) (i * 4 + 3) [_]))] [] rfl rfl (List.Sublist.refl _) (List.nil_sublist _) ⟨rfl, turn_own hi (le_turn0 (by omega)), trivial⟩ trivial ⟨AVle.refl _, AVle.refl _, AVle.refl _, le_int (wrap_succ (by first | omega | (dsimp only; omega))), trivial⟩)
            · refine stp ?_
              intro c z1; cases c
              · have z1 : ¬ (((rs.getD i rul0).conds.length : Nat) : Int) > 0 := not_of z1
                refine stp ?_
                refine ⟨⟨by omega, by show (i : Int) < (rs.length : Int); omega⟩, splitO_eq (b := .bp (0, s) (i * 4)) (congrArg (AV.bp (0, s)) (by rw [c_rul15, Nat.zero_add]; rfl)) ?_⟩
                refine stp ?_
                refine ⟨⟨rfl, by rw [row_len, turnTo_len h1]; show i * 4 + 3 + 1 ≤ _; omega⟩, ?_⟩
                refine stp ?_
                exact back (i + 1, nx5) hi (by dsimp only; omega) (ele_tell (pm := []) (bx := [((0, s), .c (rowK rulC (turnTo rs (i + 1)).toArray tl))]) [((0, s), .c (splice (rowK rulC (turnTo rs i).toArray tl) (i * 4 + 3) [_]))] [] rfl rfl (List.Sublist.refl _) (List.nil_sublist _) ⟨rfl, turn_own hi (le_turn0 (by omega)), trivial⟩ trivial ⟨AVle.refl _, AVle.refl _, AVle.refl _, le_int (wrap_succ (by first | omega | (dsimp only; omega))), trivial⟩)
              · have z1 : (((rs.getD i rul0).conds.length : Nat) : Int) > 0 := yes_of z1
                refine stp ?_
                intro c z2; cases c
                · have z2 : ¬ (((rs.getD i rul0).conds.length : Nat) : Int) < 6 := not_of z2
                  refine stp ?_
                  refine ⟨⟨by omega, by show (i : Int) < (rs.length : Int); omega⟩, splitO_eq (b := .bp (0, s) (i * 4)) (congrArg (AV.bp (0, s)) (by rw [c_rul15, Nat.zero_add]; rfl)) ?_⟩
                  refine stp ?_
                  refine ⟨⟨rfl, by rw [row_len, turnTo_len h1]; show i * 4 + 3 + 1 ≤ _; omega⟩, ?_⟩
                  refine stp ?_
                  exact back (i + 1, nx5) hi (by dsimp only; omega) (ele_tell (pm := []) (bx := [((0, s), .c (rowK rulC (turnTo rs (i + 1)).toArray tl))]) [((0, s), .c (splice (rowK rulC (turnTo rs i).toArray tl) (i * 4 + 3) [_]))] [] rfl rfl (List.Sublist.refl _) (List.nil_sublist _) ⟨rfl, turn_own hi (le_turn0 (by omega)), trivial⟩ trivial ⟨AVle.refl _, AVle.refl _, AVle.refl _, le_int (wrap_succ (by first | omega | (dsimp only; omega))), trivial⟩)
                · have z2 : (((rs.getD i rul0).conds.length : Nat) : Int) < 6 := yes_of z2
                  refine stp ?_
                  refine ⟨⟨Int.le_refl _, by show (0 : Int) < _; exact z1⟩, ?_⟩
                  refine stp ?_
                  refine ⟨oneRow_one rfl, by show ((rs.getD i rul0).conds.length + 1) * _ ≤ _; rw [bytes_cnd15]; omega, by show (rs.getD i rul0).conds.length + 1 ≤ _; omega, ?_⟩
                  refine stp ?_
                  refine ⟨⟨by omega, by show (i : Int) < (rs.length : Int); omega⟩, splitO_eq (b := .bp (0, s) (i * 4)) (congrArg (AV.bp (0, s)) (by rw [c_rul15, Nat.zero_add]; rfl)) ?_⟩
                  refine stp ?_
                  refine ⟨⟨rfl, by rw [row_len, turnTo_len h1]; show i * 4 + 3 + 1 ≤ _; omega⟩, ?_⟩
                  refine stp ?_
                  exact back (i + 1, nx5 + 1) hi (by dsimp only; omega) (ele_tell (pm := []) (bx := [((0, s), .c (rowK rulC (turnTo rs (i + 1)).toArray tl))]) [((0, s), .c (splice (rowK rulC (turnTo rs i).toArray tl) (i * 4 + 3) [_]))] [] rfl rfl (List.Sublist.refl _) (List.nil_sublist _) ⟨rfl, turn_own hi (le_turn1 (by omega) (by omega) rfl), trivial⟩ trivial ⟨AVle.refl _, AVle.refl _, AVle.refl _, le_int (wrap_succ (by first | omega | (dsimp only; omega))), trivial⟩)
          · have g2 := yes_of g2
            try dsimp only at g2
            have hm : m < (rs.getD i rul0).conds.length := by omega
            rcases om with _ | o1
            · obtain rfl := k2 rfl
              refine stp ?_
              refine ⟨⟨by omega, by show (i : Int) < (rs.length : Int); omega⟩, splitO_eq (b := .bp (0, s) (i * 4)) (congrArg (AV.bp (0, s)) (by rw [c_rul15, Nat.zero_add]; rfl)) ?_⟩
              refine stp ?_
              refine ⟨⟨rfl, by rw [row_len, turnTo_len h1]; show i * 4 + 3 < _; omega⟩, splitO_eq (b := cnds (rs.getD i rul0).conds) (by show (rowK rulC (turnTo rs i).toArray tl).getD (i * 4 + 3) .any = _; rw [List.getD_eq_getElem?_getD, row_at hlen (by decide), turnTo_at hi]; rfl) ?_⟩
              refine stp ?_
              refine ⟨⟨by first | omega | (dsimp only; omega), by first | omega | (dsimp only; omega)⟩, ?_⟩
              refine stp ?_
              refine ⟨oneRow_one rfl, by rw [bytes_cnd15]; omega, by omega, ?_⟩
              refine stp ?_
              exact back (0 + 1, some nx5, nx5 + 1) ⟨hm, fun h => by cases h⟩ (by dsimp only; omega) (ele_tell (pm := pmOf (nmd (some nx5)) ((0 + 1) * 4)) (bx := [((0, s), .c (rowK rulC (turnTo rs i).toArray tl))]) _ _ rfl rfl (List.Sublist.refl _) (List.Sublist.refl _) (BxLe.refl _) ⟨rfl, rfl, trivial⟩ ⟨AVle.refl _, AVle.refl _, AVle.refl _, AVle.refl _, le_rev (by show cndA ((rs.getD i rul0).conds.getD (((rs.getD i rul0).conds.length : Int) - 1 - (0 : Nat)).toNat cnd0) = _; rw [rev_ix hm, rev_at hm]; rfl), le_int (by rw [wrap_id (by dsimp only; omega) (by dsimp only; omega)]; dsimp only; omega), trivial⟩)
            · refine stp ?_
              refine ⟨⟨by omega, by show (i : Int) < (rs.length : Int); omega⟩, splitO_eq (b := .bp (0, s) (i * 4)) (congrArg (AV.bp (0, s)) (by rw [c_rul15, Nat.zero_add]; rfl)) ?_⟩
              refine stp ?_
              refine ⟨⟨rfl, by rw [row_len, turnTo_len h1]; show i * 4 + 3 < _; omega⟩, splitO_eq (b := cnds (rs.getD i rul0).conds) (by show (rowK rulC (turnTo rs i).toArray tl).getD (i * 4 + 3) .any = _; rw [List.getD_eq_getElem?_getD, row_at hlen (by decide), turnTo_at hi]; rfl) ?_⟩
              refine stp ?_
              refine ⟨⟨by first | omega | (dsimp only; omega), by first | omega | (dsimp only; omega)⟩, ?_⟩
              refine stp ?_
              refine ⟨oneRow_one rfl, by rw [bytes_cnd15]; omega, by omega, ?_⟩
              refine stp ?_
              exact back (m + 1, some nx5, nx5 + 1) ⟨hm, fun h => by cases h⟩ (by dsimp only; omega) (ele_tell (pm := pmOf (nmd (some nx5)) ((m + 1) * 4)) (bx := [((0, s), .c (rowK rulC (turnTo rs i).toArray tl))]) _ _ rfl rfl (List.Sublist.refl _) (List.Sublist.refl _) (BxLe.refl _) ⟨rfl, rfl, trivial⟩ ⟨AVle.refl _, AVle.refl _, AVle.refl _, AVle.refl _, le_rev (by show cndA ((rs.getD i rul0).conds.getD (((rs.getD i rul0).conds.length : Int) - 1 - (m : Nat)).toNat cnd0) = _; rw [rev_ix hm, rev_at hm]; rfl), le_int (by rw [wrap_id (by dsimp only; omega) (by dsimp only; omega)]; dsimp only; omega), trivial⟩)
set_option maxHeartbeats 16000000 in
theorem turned_none (k n : Int) (x : Bool) (l : List TRow)
    (hlt : Tells Tryz.prog 7 [polA ⟨(k, n), x, []⟩, trows l] (boolA true)) (hofx : Tells Tryz.prog 9 [polA ⟨(k, n), x, []⟩] (polA ⟨(k, n), x, []⟩)) (hrw : Tells Tryz.prog 10 [trows l] (trows l))
    (a b : Int) (hc : Tells Tryz.prog 8 [polA ⟨(k, n), x, []⟩, trows l] (.tup [int a, int b])) :
    Tells Tryz.prog 5 [polA ⟨(k, n), x, []⟩, trows l] (boolA true) := by
  have hawk := awake15_spec
  refine tells_of_aw Tryz.func5 rfl rfl fun nx => ?_
  refine stp ?_
  refine aop_tells rfl rfl hlt ⟨AVle.refl _, AVle.refl _, trivial⟩ fun nx2 => ?_
  refine stpR ?_
  refine aw_mid (fun nx' : Nat => mk 99 [(5, .rp [int k, int n, boolA x, ruls []]), (6, .rp [int k, int n, boolA x, ruls []]), (7, trows l)] ⟨[], [], nx', 1⟩) (fun _ => True) ?_ ?_
  · refine aw_mixT 8 _ (fun i => match i with | 6 => true | 7 => true | _ => false) (fun i => match i with | 1 => true | 3 => true | 5 => true | _ => false) [0, 1, 2, 3, 4, 5] (.br 6 [] (.br 7 [] .nil .nil) (.br 7 [] (.br 6 [] .nil .nil) .nil)) (by kernel_rfl) (by kernel_rfl) (HB.refl _) ?_
    refine stp ?_
    refine ⟨_, pure_tells rfl rfl rfl hofx ⟨AVle.refl _, trivial⟩ (noid_pol15 _), ?_⟩
    refine stp ?_
    refine ⟨_, pure_tells rfl rfl rfl hofx ⟨AVle.refl _, trivial⟩ (noid_pol15 _), ?_⟩
    refine stp ?_
    refine ⟨_, pure_tells rfl rfl rfl hrw ⟨AVle.refl _, trivial⟩ (noid_trows _), ?_⟩
    refine stp ?_
    refine ⟨?_, ?_, trivial⟩
    · refine ⟨_, eff_alloc rfl rfl z_pp15 (HB.one rfl), fun r' h' hr => ?_⟩
      obtain ⟨rfl, rfl⟩ := hr
      refine stp ?_
      refine ⟨⟨_, eff_alloc rfl rfl z_pp15 (HB.one rfl), fun r' h' hr => ?_⟩, trivial⟩
      obtain ⟨rfl, rfl⟩ := hr
      refine stp ?_
      exact ⟨_, trivial, ele_freeze [((2, nx2 + 1), .c [int k, int n, boolA x, ruls []]), ((1, nx2), .c [int k, int n, boolA x, ruls []])] rfl rfl (.cons_cons _ (.cons_cons _ (.cons _ .slnil))) .slnil ⟨Frz.bp (.tail _ (.head _)) rfl, Frz.bp (.head _) rfl, Frz.refl _, trivial⟩⟩
    · refine ⟨_, eff_alloc rfl rfl z_pp15 (HB.one rfl), fun r' h' hr => ?_⟩
      obtain ⟨rfl, rfl⟩ := hr
      refine stp ?_
      refine ⟨⟨_, eff_alloc rfl rfl z_pp15 (HB.one rfl), fun r' h' hr => ?_⟩, trivial⟩
      obtain ⟨rfl, rfl⟩ := hr
      refine stp ?_
      exact ⟨_, trivial, ele_freeze [((2, nx2 + 1), .c [int k, int n, boolA x, ruls []]), ((1, nx2), .c [int k, int n, boolA x, ruls []])] rfl rfl (.cons_cons _ (.cons_cons _ (.cons _ .slnil))) .slnil ⟨Frz.bp (.head _) rfl, Frz.bp (.tail _ (.head _)) rfl, Frz.refl _, trivial⟩⟩
  · intro nx3 _
    refine stp ?_
    refine aw_loop (fun y : Nat => mk 99 [(5, .rp [int k, int n, boolA x, ruls []]), (6, .rp [int k, int n, boolA x, ruls []]), (7, trows l), (8, int 0)] ⟨[], [], y, 1⟩) (fun _ => True) (fun _ => 0) ?_ ?_
    · exact ⟨nx3, trivial, ele_tell (pm := []) (bx := []) [] [] rfl rfl .slnil .slnil trivial trivial ⟨AVle.refl _, AVle.refl _, AVle.refl _, AVle.refl _, trivial⟩⟩
    · intro nx4 _
      refine stp ?_
      refine aop_tells rfl rfl hc ⟨AVle.refl _, AVle.refl _, trivial⟩ fun nx5 => ?_
      refine stp ?_
      refine aop_tells rfl rfl hc ⟨AVle.refl _, AVle.refl _, trivial⟩ fun nx6 => ?_
      refine stp ?_
      intro c hc0
      have hc3 : c = true := hc0.trans (beq_self_eq_true _)
      clear hc0; subst hc3
      refine stp ?_
      intro c hc0
      have hc3 : c = true := hc0.trans (beq_self_eq_true _)
      clear hc0; subst hc3
      refine stp ?_
      refine aop_tells rfl rfl hawk trivial fun nx8 => ?_
      refine stp ?_
      exact ret_tells rfl (AVle.refl _)
theorem turn_ok {p : Pol} (hp : p.ok) (h12 : ∀ r ∈ p.rules, r.conds.length ≤ 12) : (turnP p).ok := ⟨by show (p.rules.map turnR).length ≤ maxLen; rw [List.length_map]; exact hp.1, fun r hr => by
  obtain ⟨q, hq, rfl⟩ := List.mem_map.1 hr
  have := hp.2 q hq
  exact ⟨this.1, by
    show (turnC q.conds).length ≤ maxLen
    have := h12 q hq
    unfold turnC
    split
    · rw [List.length_append, List.length_reverse, List.length_singleton]; exact Nat.le_trans (by omega : q.conds.length + 1 ≤ 13) (by decide)
    · rw [List.length_reverse]; exact Nat.le_trans (by omega : q.conds.length ≤ 13) (by decide), fun c hc => this.2.2 c (turn_mem.1 hc)⟩⟩
theorem turn_len12 {cs : List Cnd} (h : cs.length ≤ 12) : (turnC cs).length ≤ 12 := by
  unfold turnC
  split
  · rename_i h6
    rw [List.length_reverse] at h6
    rw [List.length_append, List.length_reverse, List.length_singleton]; omega
  · rw [List.length_reverse]; exact h
set_option maxHeartbeats 4000000 in
theorem validturned_law (p : Pol) (l : List TRow) (hp : p.ok) (hl : l.length ≤ maxLen) (hn : ∀ r ∈ l, r.name.size ≤ maxLen) : Tells Tryz.prog 5 [polA p, trows l] (boolA true) := by
  have hlt := light15_spec p l hp.1 hl
  cases hf : light15 p l with
  | false =>
    rw [hf] at hlt
    obtain ⟨⟨k, n⟩, x, rs⟩ := p
    refine tells_of_aw Tryz.func5 rfl rfl fun nx => ?_
    refine stp ?_
    refine aop_tells rfl rfl hlt ⟨AVle.refl _, AVle.refl _, trivial⟩ fun nx2 => ?_
    refine stp ?_
    exact ret_tells rfl (AVle.refl _)
  | true =>
    rw [hf] at hlt
    obtain ⟨u1, u2, u3, u4⟩ := light_use hf
    have hb1 : ∀ r ∈ p.rules, r.conds.length ≤ 1000 := fun r hr => by have := (u2 r hr).1; omega
    have hof := of15_spec p ⟨by omega, hb1⟩
    have hrw := l15rows_spec l (by omega)
    have hc := check15_spec p l hp (fun r hr => ⟨(u2 r hr).1, by have := (u2 r hr).2; omega⟩) (by omega) hn
    have hc2 := check15_spec (turnP p) l (turn_ok hp fun r hr => (u2 r hr).1) (fun r hr => by
      obtain ⟨q, hq, rfl⟩ := List.mem_map.1 hr
      exact ⟨turn_len12 (u2 q hq).1, by have := (u2 q hq).2; show q.name.size ≤ 1000000; omega⟩) (by omega) hn
    rw [← valid_turned] at hc2
    have hofH : p.rules ≠ [] → ∀ nx, ECall Tryz.prog 9 [polA p] ⟨[], [], nx, 0⟩ (ofQ p) := fun hne => of15H_spec p ⟨by omega, hb1⟩ hne
    generalize validE p l = V at hc hc2
    obtain ⟨a, b⟩ := V
    obtain ⟨⟨k, n⟩, x, rs⟩ := p
    dsimp only at u1 u2 hc hc2 hofH
    by_cases hne : rs = []
    · subst hne
      exact turned_none k n x l hlt hof hrw a b hc
    · exact turned_deep k n x rs l u1 (fun r hr => (u2 r hr).1) hne hlt hof (hofH hne) hrw a b hc hc2
end Go.Proofs.W

namespace Go.Proofs.YtcjnjlgjnobplaaGreatDoor
open Go.ChangeShapes Go.WideShapes Go.ChangeAt Go.RowKit Go.Vl Go.Proofs.W

theorem Tryz.own : ownKnob Tryz.prog.godebug = none := by kernel_rfl
theorem Tryz.laidOut : laidOutB Tryz.prog = true := by kernel_rfl
theorem covMapOn {P : Program} {d : Nat} {t : TypeId} {α β : Type} {e : α → AV} {e' : β → AV} {ok : α → Prop} {ok' : β → Prop} (h : Cov P d t e ok) (f : α → β) (he : ∀ x, ok x → e x = e' (f x)) (ho : ∀ x, ok x → ok' (f x)) : Cov P d t e' ok' :=
  ⟨fun cs hw => let ⟨x, h1, h2, h3⟩ := h.h cs hw; ⟨f x, ho x h1, by rw [← he x h1]; exact h2, by rw [← he x h1]; exact h3⟩⟩
theorem wf_u64 {n : Int} (h : (Lit.int .u64 n).wf = true) : 0 ≤ n ∧ n < 18446744073709551616 := by simp [Lit.wf, IntKind.min, IntKind.max, IntKind.signed, IntKind.bits] at h; omega
theorem cov_cnd : Cov Tryz.prog 3 70 cndA Cnd.ok :=
  covMapOn (Cov.struct Tryz.underlying70 rfl (CovP.cons (Cov.int Tryz.underlying3) (CovP.cons (Cov.int Tryz.underlying3) (CovP.cons (Cov.int Tryz.underlying49) (CovP.cons (Cov.int Tryz.underlying49) CovP.nil)))))
    (fun p : Int × Int × Int × Int × Unit => (⟨p.1, p.2.1, p.2.2.1.toNat, p.2.2.2.1.toNat⟩ : Cnd))
    (fun p h => by
      obtain ⟨a, b, c, d, _⟩ := p
      obtain ⟨h1, h2, h3, h4, _⟩ := h
      have g3 : 0 ≤ c ∧ c < 18446744073709551616 := wf_u64 h3; have g4 : 0 ≤ d ∧ d < 18446744073709551616 := wf_u64 h4
      show AV.ag [.v (.int .i64 a), .v (.int .i64 b), .v (.int .u64 c), .v (.int .u64 d)] = AV.ag [.v (.int .i64 a), .v (.int .i64 b), .v (.int .u64 (c.toNat : Int)), .v (.int .u64 (d.toNat : Int))]
      rw [Int.toNat_of_nonneg (by omega), Int.toNat_of_nonneg (by omega)])
    (fun p h => by
      obtain ⟨a, b, c, d, _⟩ := p
      obtain ⟨h1, h2, h3, h4, _⟩ := h
      have g3 : 0 ≤ c ∧ c < 18446744073709551616 := wf_u64 h3; have g4 : 0 ≤ d ∧ d < 18446744073709551616 := wf_u64 h4
      exact ⟨by dsimp only; omega, by dsimp only; omega⟩)
theorem cells_cnd : Tryz.prog.cellsOf 70 = 4 := by kernel_rfl
theorem cov_cnds : Cov Tryz.prog 4 56 cnds (fun l => l.length ≤ maxLen ∧ ∀ x ∈ l, x.ok) := by
  have h := Cov.slice cnd0 Tryz.underlying56 cov_cnd (fun _ => cells_cnd.symm)
  rw [cells_cnd] at h
  exact h
theorem cov_act {d : Nat} : Cov Tryz.prog (d + 2) 23 actP (fun _ => True) :=
  covMapOn (Cov.struct Tryz.underlying23 rfl (CovP.cons (Cov.int Tryz.underlying3) (CovP.cons (Cov.int Tryz.underlying3) CovP.nil)))
    (fun p : Int × Int × Unit => (p.1, p.2.1)) (fun p h => rfl) (fun p h => trivial)
theorem cov_rul : Cov Tryz.prog 5 58 rulA Rul.ok :=
  covMapOn (Cov.struct Tryz.underlying58 rfl (CovP.cons (Cov.str Tryz.underlying9) (CovP.cons cov_act (CovP.cons cov_cnds CovP.nil))))
    (fun p : ByteArray × A2 × List Cnd × Unit => (⟨p.1, p.2.1, p.2.2.1⟩ : Rul)) (fun p h => rfl) (fun p h => ⟨h.1, h.2.2.1.1, h.2.2.1.2⟩)
theorem cells_rul : Tryz.prog.cellsOf 58 = 4 := by kernel_rfl
theorem cov_ruls : Cov Tryz.prog 6 24 ruls (fun l => l.length ≤ maxLen ∧ ∀ x ∈ l, x.ok) := by
  have h := Cov.slice rul0 Tryz.underlying24 cov_rul (fun _ => cells_rul.symm)
  rw [cells_rul] at h
  exact h
theorem cov_pol : Cov Tryz.prog 7 26 polA Pol.ok :=
  covMapOn (Cov.struct Tryz.underlying26 rfl (CovP.cons cov_act (CovP.cons (Cov.bool Tryz.underlying4) (CovP.cons cov_ruls CovP.nil))))
    (fun p : A2 × Bool × List Rul × Unit => (⟨p.1, p.2.1, p.2.2.1⟩ : Pol)) (fun p h => rfl) (fun p h => h.2.2.1)
theorem cov_u64 {d : Nat} : Cov Tryz.prog (d + 1) 49 (fun n : Nat => u64 n) (fun n => n < 18446744073709551616) :=
  covMapOn (Cov.int (d := d) Tryz.underlying49) Int.toNat (fun n h => by have := wf_u64 h; show AV.v _ = AV.v _; rw [Int.toNat_of_nonneg (by omega)]) (fun n h => by have := wf_u64 h; omega)
theorem cov_row {d : Nat} : Cov Tryz.prog (d + 3) 54 trowA (fun r => r.name.size ≤ maxLen) :=
  covMapOn (Cov.struct Tryz.underlying54 rfl (CovP.cons (Cov.str Tryz.underlying9) (CovP.cons (Cov.array Tryz.underlying52 (Cov.int (d := d) Tryz.underlying3)) (CovP.cons (Cov.int Tryz.underlying3) (CovP.cons (Cov.int Tryz.underlying3) CovP.nil)))))
    (fun p : ByteArray × List Int × Int × Int × Unit => (⟨p.1, p.2.1.getD 0 0, p.2.1.getD 1 0, p.2.1.getD 2 0, p.2.1.getD 3 0, p.2.1.getD 4 0, p.2.2.1, p.2.2.2.1⟩ : TRow))
    (fun p h => by
      obtain ⟨s, l, m, u, _⟩ := p
      obtain ⟨_, ⟨hl, _⟩, _⟩ := h
      match l, hl with
      | [a, b, c, d, e], _ => rfl)
    (fun p h => h.1)
theorem cells_row : Tryz.prog.cellsOf 54 = 8 := by kernel_rfl
theorem cov_rows {d : Nat} : Cov Tryz.prog (d + 4) 27 trows (fun l => l.length ≤ maxLen ∧ ∀ x ∈ l, x.name.size ≤ maxLen) := by
  have h := Cov.slice (d := d + 3) trow0 Tryz.underlying27 cov_row (fun _ => cells_row.symm)
  rw [cells_row] at h
  exact h
theorem cov_str {d : Nat} : Cov Tryz.prog (d + 1) 9 strA (fun s => s.size ≤ maxLen) := Cov.str Tryz.underlying9
set_option maxRecDepth 100000 in
theorem kn_laid {W : World} (h : laidMetH Tryz.prog Rows.validTurnedRow.laid W) : Kn W none2 := by
  have h1 := h.filter (fun x => x.1 == "internal/strconv.uint64pow10")
  rw [show (Rows.validTurnedRow.laid.filter fun x => x.1 == "internal/strconv.uint64pow10") = [("internal/strconv.uint64pow10", Lib.tabData .u64 Lib.pow10Tab)] from by kernel_rfl, MakeChecks.laidMetH_plain _ _ _ (by kernel_rfl)] at h1
  exact kn_of_tab (Lib.tabIs_of_head (g := 3) (t := 182) (e := 49) (n := 20) (by kernel_rfl) (by kernel_rfl) Tryz.underlying182 Tryz.underlying49 (by kernel_rfl) (by kernel_rfl) h1)
set_option maxRecDepth 100000 in
theorem contract (H : Type) (enc : TypeId × Value → H) (W : World) (base : Nat) (args : Array Value) (ds gs : List (DataW H)) (before : List MemPlace)
    (hval : ∀ (j : Nat) t v, Tryz.f5.params[j]? = some t → args[j]? = some v → Value.okWide Tryz.prog W .any base t v)
    (hW : DataW.Whole enc Tryz.prog Tryz.f5.params.toList Rows.validTurnedSpec.vars false W args.toList ds gs before) (hkn : Kn W none2) :
    Calls Tryz.prog 5 args W fun e W' => ∃ v, e = .returned v ∧ Rows.validTurnedSpec.post enc Tryz.prog Tryz.f5 false true false false W args v W' := by
  have hW' := hW
  obtain ⟨p, q, hA0, hV, rfl, hfz, hnd⟩ := hW
  have hA : DataW.TrodAll enc Tryz.prog W 0 (fun _ => true) true Tryz.f5.params.toList args.toList ds p := hA0
  refine (law_calls (f := 5) (fn := Tryz.f5) (d := 7) (by kernel_rfl) hval hA (wtyAll_two cov_pol (cov_rows (d := 3)) fun a b ha hb => pcall_of_tells (validturned_law a b ha hb.1 hb.2)) hkn).mono fun e W' ⟨he, hb⟩ => ?_
  subst he
  exact ⟨_, rfl, law_post rfl rfl Tryz.underlying4 (fun ds hd => match ds, hd with | [a, b], _ => ⟨rfl, rfl, rfl⟩) hW' Tryz.laidOut (read_all (by kernel_rfl)) hb⟩
noncomputable def putC (cs : Array Value) : Obj → Obj
  | .cells _ t frozen => .cells cs t frozen
  | o => o
noncomputable def laidWorld (os : Os) : World :=
  let w0 := World.holding Tryz.prog os ⟨#[], #[], []⟩
  { w0 with heap := w0.heap
    |>.modify 1 (putC (Go.Pinned.utf8FirstZ.map fun n : Nat => Value.int .u8 (n : Int)).toArray)
    |>.modify 3 (putC (([1, 10, 100, 1000, 10000, 100000, 1000000, 10000000, 100000000, 1000000000, 10000000000, 100000000000, 1000000000000, 10000000000000, 100000000000000, 1000000000000000, 10000000000000000, 100000000000000000, 1000000000000000000, 10000000000000000000] : List Int).map fun n => Value.int .u64 n).toArray)
    |>.modify 2 (putC (([128, 191, 160, 191, 128, 159, 144, 191, 128, 143, 0, 0, 0, 0, 0, 0, 0, 0, 0, 0, 0, 0, 0, 0, 0, 0, 0, 0, 0, 0, 0, 0] : List Int).map fun n => Value.int .u8 n).toArray)
    |>.modify 4 (putC (([0, 1, 28, 2, 29, 14, 24, 3, 30, 22, 20, 15, 25, 17, 4, 8, 31, 27, 13, 23, 21, 19, 16, 7, 26, 12, 18, 6, 11, 5, 10, 9] : List Int).map fun n => Value.int .u8 n).toArray)
    |>.modify 5 (putC (([0, 1, 56, 2, 57, 49, 28, 3, 61, 58, 42, 50, 38, 29, 17, 4, 62, 47, 59, 36, 45, 43, 51, 22, 53, 39, 33, 30, 24, 18, 12, 5, 63, 55, 48, 27, 60, 41, 37, 16, 46, 35, 44, 21, 52, 32, 23, 11, 54, 26, 40, 15, 34, 20, 31, 10, 25, 14, 19, 9, 13, 8, 7, 6] : List Int).map fun n => Value.int .u8 n).toArray) }
noncomputable def zeroPol : Value := .agg #[.int .i64 0, .int .i64 0, .bool false, .slice none 0 0]
set_option maxRecDepth 100000 in
theorem laid_met (os : Os) : laidMet Tryz.prog Rows.validTurnedRow.laid ((laidWorld os).forCall (fun _ _ => 0) ⟨#[], #[zeroPol, .slice none 0 0], []⟩).memory :=
  laidMet_of_run' 8 (by kernel_rfl) (by kernel_rfl)
theorem reads (os : Os) {H : Type} (enc : TypeId × Value → H) : ∃ places, DataW.whole enc Tryz.prog ((laidWorld os).forCall (fun _ _ => 0) ⟨#[], #[zeroPol, .slice none 0 0], []⟩).memory Tryz.f5.params.toList Rows.validTurnedSpec.vars false #[zeroPol, .slice none 0 0].toList 8 = some ([.agg [.agg [.lit (.int .i64 0), .lit (.int .i64 0)], .lit (.bool false), .nil], .nil], [], places) :=
  ⟨[], by kernel_rfl⟩
set_option maxRecDepth 100000 in
theorem lifted (os : Os) (started : os.Started) (H : Type) (enc : TypeId × Value → H) (F : Stop.Interp) :
    ReturnsInHanded {} Tryz.checked os 5 .any ((OpenSpec.ofChange Rows.validTurnedSpec).preRow enc Tryz.prog Tryz.f5 Rows.validTurnedRow.domain false Rows.validTurnedRow.laid) (((OpenSpec.ofChange Rows.validTurnedSpec).at F).post enc Tryz.prog Tryz.f5 false true false false) := by
  obtain ⟨places, hx⟩ := reads os enc
  refine returnsInHanded_of_row (C := Tryz.checked) (s := OpenSpec.ofChange Rows.validTurnedSpec) Tryz.own started (by kernel_rfl) Tryz.func5
    (witness_row_at (enc := enc) (C := Tryz.checked) false (laidWorld os) #[zeroPol, .slice none 0 0] rfl (by kernel_rfl) (by kernel_rfl) (by kernel_rfl)
      (OpenSpec.preRow_of_cond 8 hx (by kernel_rfl) (fun k hk => by cases hk) (by kernel_rfl) (laid_met os))) ?_
  intro W base args ds gs before hval hW _ _ _ hlaid _ _
  exact contract H enc W base args ds gs before hval hW (kn_laid hlaid)
set_option maxRecDepth 100000 in
theorem k1 : (Rows.validTurnedRow.inPlace == Tryz.pinned.checked.prog.inPlace 5) = true := by kernel_rfl
set_option maxRecDepth 100000 in
theorem k2 : (Rows.validTurnedRow.unfollowed == Tryz.pinned.checked.prog.unfollowed 5) = true := by kernel_rfl
set_option maxRecDepth 100000 in
theorem k3 : (Rows.validTurnedRow.recurses == Tryz.pinned.checked.prog.recurses 5) = true := by kernel_rfl
set_option maxRecDepth 100000 in
theorem k4 : (Rows.validTurnedRow.named == Tryz.pinned.checked.prog.varsNamed 5) = true := by kernel_rfl
end Go.Proofs.YtcjnjlgjnobplaaGreatDoor
