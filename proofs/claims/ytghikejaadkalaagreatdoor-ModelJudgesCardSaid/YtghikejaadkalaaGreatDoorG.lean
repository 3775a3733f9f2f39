import Derived.Test.YtghikejaadkalaaGreatDoorF
import Derived.Test.YtghikejaadkalaaGreatDoorE
import Derived.Test.YtghikejaadkalaaGreatDoorD
import Derived.Test.YtghikejaadkalaaGreatDoorC
set_option linter.unusedVariables false
set_option linter.unusedSimpArgs false
namespace Go.Proofs.W
open Go.Vl
set_option maxRecDepth 100000

theorem find_cong {α : Type} {p q : α → Bool} : ∀ {l : List α}, (∀ x ∈ l, p x = q x) → l.find? p = l.find? q
  | [], _ => rfl
  | x :: l, h => by
    rw [List.find?_cons, List.find?_cons, h x (.head _), find_cong fun y hy => h y (.tail _ hy)]
theorem hB_hR {x y : Nat → Nat} {a : Int} {c : Cnd} (hc : rightC c = true) (hxy : ∀ i, x i = seenA a (y i)) : hB x c = hR a y c := by
  obtain ⟨h1, h2, _⟩ := rightC_iff.1 hc
  unfold hB hR
  rw [hc, Bool.true_and]
  obtain ⟨arg, op, mask, value⟩ := c
  dsimp only at h1 h2 ⊢
  obtain rfl | rfl | rfl | rfl | rfl | rfl : arg = 0 ∨ arg = 1 ∨ arg = 2 ∨ arg = 3 ∨ arg = 4 ∨ arg = 5 := by omega
  · rw [← hxy]; rfl
  · rw [← hxy]; rfl
  · rw [← hxy]; rfl
  · rw [← hxy]; rfl
  · rw [← hxy]; rfl
  · rw [← hxy]; rfl
theorem dec_eq {p : Pol} (h : ∀ r ∈ p.rules, ∀ c ∈ r.conds, rightC c = true) (nm : ByteArray) {x y : Nat → Nat} {a : Int} (hxy : ∀ i, x i = seenA a (y i)) : decP p nm x = decR p nm a y := by
  have e : p.rules.find? (fun r => kS r.name nm && letB x r) = p.rules.find? (fun r => kS r.name nm && r.conds.all (hR a y)) := find_cong fun r hr => by
    show (kS r.name nm && r.conds.all (hB x)) = (kS r.name nm && r.conds.all (hR a y))
    refine congrArg (kS r.name nm && ·) ?_
    rw [Bool.eq_iff_iff, List.all_eq_true, List.all_eq_true]
    exact ⟨fun k c hc => by rw [← hB_hR (h r hr c hc) hxy]; exact k c hc, fun k c hc => by rw [hB_hR (h r hr c hc) hxy]; exact k c hc⟩
  unfold decP decR
  rw [e]
  cases p.rules.find? (fun r => kS r.name nm && r.conds.all (hR a y)) <;> rfl
theorem ofI_eq (l : List TRow) (r : Rec) : (selI r.arch r.num < 0 ∧ (ofI l r).some = false) ∨ (0 ≤ selI r.arch r.num ∧ ofI l r = ⟨true, selI r.arch r.num, nameO l (atO l r), muxB r⟩) := by
  unfold ofI selI atO muxB
  cases hs : selO r.arch r.num with
  | none => exact .inl ⟨by decide, rfl⟩
  | some a =>
    refine .inr ⟨Int.natCast_nonneg _, ?_⟩
    dsimp only
    split
    · rename_i h; rw [decide_eq_true h]
    · rename_i h; rw [decide_eq_false h]
/-- A policy judges as it is defined. -/
theorem judge_eq {p : Pol} {l : List TRow} {r : Rec} (hp : rightP p = true) (hl : (tabR l).2 = 0) : codeA (actionP p l r) = judgeQ p l r := by
  unfold actionP judgeQ actionR
  rcases ofI_eq l r with ⟨h1, h2⟩ | ⟨h1, h2⟩
  · rw [h2, if_pos (by rfl), if_pos (by rw [decide_eq_true h1]; rfl)]
    rfl
  · rw [h2]
    dsimp only
    rw [show decide (selI r.arch r.num < 0) = false from decide_eq_false (by omega)]
    by_cases hx : (decide (selI r.arch r.num = 1) && !p.x32) = true
    · rw [if_pos (show (!true || (decide (selI r.arch r.num = 1) && !p.x32)) = true by rw [hx]; rfl), if_pos (show (false || (decide (selI r.arch r.num = 1) && !p.x32)) = true by rw [hx]; rfl)]; rfl
    · rw [Bool.not_eq_true] at hx
      rw [if_neg (show ¬ (!true || (decide (selI r.arch r.num = 1) && !p.x32)) = true by rw [hx]; decide), if_neg (show ¬ (false || (decide (selI r.arch r.num = 1) && !p.x32)) = true by rw [hx]; decide)]
      congr 1
      cases hat : atO l r with
      | none => rw [if_pos (show (nameO l none).size = 0 from rfl)]; rfl
      | some i =>
        have hn := tab_name hl (atO_lt hat)
        rw [if_neg (show ¬ (nameO l (some i)).size = 0 from hn)]
        show _ = if muxB r = true then _ else _
        split
        · rfl
        · refine dec_eq (conds_right hp) _ fun k => ?_
          unfold argI seenA
          by_cases q : selI r.arch r.num = 2
          · rw [if_pos q, if_pos (by rw [q]; rfl)]
          · rw [if_neg q, if_neg (by omega)]
end Go.Proofs.W

namespace Go.Proofs.W
open Go.Vl
set_option maxRecDepth 100000

def recW (num arch : Nat) : Rec := ⟨num, arch, 0, 0, 0, 0, 0, 0, 0⟩
theorem pAw_ok : polOk pAw := by
  refine ⟨by decide, fun r hr => ?_⟩
  rw [List.mem_singleton.1 hr]
  exact ⟨by decide, fun c hc => by cases hc⟩
theorem pAw_ok2 : pAw.ok := by
  refine ⟨by decide, fun r hr => ?_⟩
  rw [List.mem_singleton.1 hr]
  exact ⟨by decide, by decide, fun c hc => by cases hc⟩
theorem awj1 : judgeR pAw builtL (recW 0 3221225534) = (2147418112, 0) := by kernel_rfl
theorem awj2 : judgeR pAw builtL (recW 63 3221225715) = (2147418112, 0) := by kernel_rfl
theorem awj3 : judgeR pAw builtL (recW 64 3221225715) = (2147483648, 0) := by kernel_rfl
end Go.Proofs.W

namespace Go.Proofs.W
open Go.Vl
set_option maxRecDepth 100000

theorem recW_ok {num arch : Nat} (h1 : num < 4294967296) (h2 : arch < 4294967296) : (recW num arch).ok := by unfold recW Rec.ok; exact ⟨h1, h2, Nat.zero_lt_succ _, Nat.zero_lt_succ _, Nat.zero_lt_succ _, Nat.zero_lt_succ _, Nat.zero_lt_succ _, Nat.zero_lt_succ _, Nat.zero_lt_succ _⟩
theorem aw_judge (num arch : Nat) (h1 : num < 4294967296) (h2 : arch < 4294967296) (v : Nat) (hv : judgeR pAw builtL (recW num arch) = (v, 0)) : Tells Tryz.prog 18 [polA pAw, trows builtL, recA (recW num arch)] (.tup [u32 (v : Nat), int 0]) := by
  have h := judge_law pAw builtL (recW num arch) pAw_ok pAw_ok2 built_len built_names (recW_ok h1 h2)
  rw [hv] at h
  exact h
theorem noid_uj (v : Nat) : NoId (.tup [u32 (v : Nat), int 0]) := NoId.tup (by
  intro y hy
  simp only [List.mem_cons, List.not_mem_nil, or_false] at hy
  rcases hy with rfl | rfl <;> exact NoId.v _)
set_option maxHeartbeats 8000000 in
theorem awake17_spec : Tells Tryz.prog 11 [] (boolA true) := by
  have hb := builtin_spec
  have h1 := aw_judge 0 3221225534 (by decide) (by decide) _ awj1
  have h2 := aw_judge 63 3221225715 (by decide) (by decide) _ awj2
  have h3 := aw_judge 64 3221225715 (by decide) (by decide) _ awj3
  generalize builtL = B at hb h1 h2 h3
  refine tells_of_aw Tryz.func11 rfl rfl fun nx => ?_
  (repeat((conv=>whnf);first|apply ω0|apply ω1|apply ω2|refine τ3 rfl ?_|refine τ4 rfl ?_|refine ⟨rfl,?_⟩|apply τa|refine τb rfl ?_|refine ⟨⟨by kernel_rfl,by kernel_rfl⟩,?_⟩|refine ⟨by decide,?_⟩|apply τt|apply τf))
  refine aop_tells rfl rfl parse_spec ⟨AVle.refl _, trivial⟩ fun nx2 => ?_
  (repeat((conv=>whnf);first|apply ω0|apply ω1|apply ω2|refine τ3 rfl ?_|refine τ4 rfl ?_|refine ⟨rfl,?_⟩|apply τa|refine τb rfl ?_|refine ⟨⟨by kernel_rfl,by kernel_rfl⟩,?_⟩|refine ⟨by decide,?_⟩|apply τt|apply τf))
  refine aw_mixN 8 _ (fun _ => false) (fun i => match i with | 1 => true | 3 => true | _ => false) [0, 1, 2, 3, 4, 5, 6, 7] (by kernel_rfl) (by kernel_rfl) (HB.refl _) ?_
  (repeat((conv=>whnf);first|apply ω0|apply ω1|apply ω2|refine τ3 rfl ?_|refine τ4 rfl ?_|refine ⟨rfl,?_⟩|apply τa|refine τb rfl ?_|refine ⟨⟨by kernel_rfl,by kernel_rfl⟩,?_⟩|refine ⟨by decide,?_⟩|apply τt|apply τf))
  refine ⟨_, pure_tells rfl rfl rfl hb trivial (noid_trows _), ?_⟩
  (repeat((conv=>whnf);first|apply ω0|apply ω1|apply ω2|refine τ3 rfl ?_|refine τ4 rfl ?_|refine ⟨rfl,?_⟩|apply τa|refine τb rfl ?_|refine ⟨⟨by kernel_rfl,by kernel_rfl⟩,?_⟩|refine ⟨by decide,?_⟩|apply τt|apply τf))
  refine ⟨_, pure_tells rfl rfl rfl h1 ⟨AVle.refl _, AVle.refl _, AVle.refl _, trivial⟩ (noid_uj _), ?_⟩
  (repeat((conv=>whnf);first|apply ω0|apply ω1|apply ω2|refine τ3 rfl ?_|refine τ4 rfl ?_|refine ⟨rfl,?_⟩|apply τa|refine τb rfl ?_|refine ⟨⟨by kernel_rfl,by kernel_rfl⟩,?_⟩|refine ⟨by decide,?_⟩|apply τt|apply τf))
  refine aw_mixN 8 _ (fun _ => false) (fun i => match i with | 1 => true | 3 => true | _ => false) [0, 1, 2, 3, 4, 5, 6, 7] (by kernel_rfl) (by kernel_rfl) (HB.refl _) ?_
  (repeat((conv=>whnf);first|apply ω0|apply ω1|apply ω2|refine τ3 rfl ?_|refine τ4 rfl ?_|refine ⟨rfl,?_⟩|apply τa|refine τb rfl ?_|refine ⟨⟨by kernel_rfl,by kernel_rfl⟩,?_⟩|refine ⟨by decide,?_⟩|apply τt|apply τf))
  refine ⟨_, pure_tells rfl rfl rfl hb trivial (noid_trows _), ?_⟩
  (repeat((conv=>whnf);first|apply ω0|apply ω1|apply ω2|refine τ3 rfl ?_|refine τ4 rfl ?_|refine ⟨rfl,?_⟩|apply τa|refine τb rfl ?_|refine ⟨⟨by kernel_rfl,by kernel_rfl⟩,?_⟩|refine ⟨by decide,?_⟩|apply τt|apply τf))
  refine ⟨_, pure_tells rfl rfl rfl h2 ⟨AVle.refl _, AVle.refl _, AVle.refl _, trivial⟩ (noid_uj _), ?_⟩
  (repeat((conv=>whnf);first|apply ω0|apply ω1|apply ω2|refine τ3 rfl ?_|refine τ4 rfl ?_|refine ⟨rfl,?_⟩|apply τa|refine τb rfl ?_|refine ⟨⟨by kernel_rfl,by kernel_rfl⟩,?_⟩|refine ⟨by decide,?_⟩|apply τt|apply τf))
  refine aw_mixN 8 _ (fun _ => false) (fun i => match i with | 1 => true | 3 => true | _ => false) [0, 1, 2, 3, 4, 5, 6, 7] (by kernel_rfl) (by kernel_rfl) (HB.refl _) ?_
  (repeat((conv=>whnf);first|apply ω0|apply ω1|apply ω2|refine τ3 rfl ?_|refine τ4 rfl ?_|refine ⟨rfl,?_⟩|apply τa|refine τb rfl ?_|refine ⟨⟨by kernel_rfl,by kernel_rfl⟩,?_⟩|refine ⟨by decide,?_⟩|apply τt|apply τf))
  refine ⟨_, pure_tells rfl rfl rfl hb trivial (noid_trows _), ?_⟩
  (repeat((conv=>whnf);first|apply ω0|apply ω1|apply ω2|refine τ3 rfl ?_|refine τ4 rfl ?_|refine ⟨rfl,?_⟩|apply τa|refine τb rfl ?_|refine ⟨⟨by kernel_rfl,by kernel_rfl⟩,?_⟩|refine ⟨by decide,?_⟩|apply τt|apply τf))
  refine ⟨_, pure_tells rfl rfl rfl h3 ⟨AVle.refl _, AVle.refl _, AVle.refl _, trivial⟩ (noid_uj _), ?_⟩
  (repeat((conv=>whnf);first|apply ω0|apply ω1|apply ω2|refine τ3 rfl ?_|refine τ4 rfl ?_|refine ⟨rfl,?_⟩|apply τa|refine τb rfl ?_|refine ⟨⟨by kernel_rfl,by kernel_rfl⟩,?_⟩|refine ⟨by decide,?_⟩|apply τt|apply τf))
  exact ret_tells rfl (AVle.refl _)
end Go.Proofs.W

namespace Go.Proofs.W
open Go.Vl
set_option maxRecDepth 100000

theorem light17_ok {p : Pol} (h : lightP p = true) : p.rules.length ≤ 40 ∧ ∀ r ∈ p.rules, r.conds.length ≤ 12 := by
  unfold lightP at h
  simp only [Bool.and_eq_true, decide_eq_true_eq, List.all_eq_true] at h
  refine ⟨h.1, fun r hr => ?_⟩
  have := h.2 r hr
  unfold lightR at this
  simp only [Bool.and_eq_true, decide_eq_true_eq] at this
  exact this.2
theorem polOk_of {p : Pol} (hp : p.ok) (h : lightP p = true) : polOk p := by
  obtain ⟨h1, h2⟩ := light17_ok h
  exact ⟨by omega, fun r hr => ⟨by have := h2 r hr; omega, (hp.2 r hr).2.2⟩⟩
theorem noid_cnds17 (l : List Cnd) : NoId (cnds l) := NoId.sl fun i _ c hc => by
  have hc : c ∈ (cndA (l.getD i cnd0)).cells := hc
  unfold cndA AV.cells at hc
  simp only [List.mem_cons, List.not_mem_nil, or_false] at hc
  rcases hc with rfl | rfl | rfl | rfl <;> exact NoId.v _
theorem noid_ruls17 (L : List Rul) : NoId (ruls L) := NoId.sl fun i _ c hc => by
  have hc : c ∈ (rulA (L.getD i rul0)).cells := hc
  unfold rulA AV.cells at hc
  simp only [List.mem_cons, List.not_mem_nil, or_false] at hc
  rcases hc with rfl | rfl | rfl | rfl
  · exact NoId.v _
  · exact NoId.v _
  · exact NoId.v _
  · exact noid_cnds17 _
theorem noid_pol17 (p : Pol) : NoId (polA p) := NoId.ag (by
  intro y hy
  simp only [List.mem_cons, List.not_mem_nil, or_false] at hy
  rcases hy with rfl | rfl | rfl | rfl
  · exact NoId.v _
  · exact NoId.v _
  · exact NoId.v _
  · exact noid_ruls17 _)
end Go.Proofs.W

namespace Go.Proofs.W
open Go.Vl
set_option maxRecDepth 100000

theorem judge_cases (p : Pol) (l : List TRow) (r : Rec) : (rightP p = false ∧ judgeR p l r = (0, 13)) ∨ (rightP p = true ∧ (tabR l).2 ≠ 0 ∧ judgeR p l r = (0, 18)) ∨ (rightP p = true ∧ (tabR l).2 = 0 ∧ judgeR p l r = (judgeQ p l r, 0) ∧ judgeQ p l r < 4294967296) := by
  unfold judgeR
  cases hp : rightP p with
  | false => exact .inl ⟨rfl, by rw [if_pos rfl]⟩
  | true =>
    refine .inr ?_
    by_cases hl : (tabR l).2 = 0
    · refine .inr ⟨rfl, hl, ?_, ?_⟩
      · rw [if_neg (by decide), if_neg (fun q => q hl), judge_eq hp hl]
      · rw [← judge_eq hp hl]; exact codeA_lt (action_right hp l r)
    · exact .inl ⟨rfl, hl, by rw [if_neg (by decide), if_pos hl]⟩
theorem noid_ui (v : Nat) (e : Int) : NoId (.tup [u32 (v : Nat), int e]) := NoId.tup (by
  intro y hy
  simp only [List.mem_cons, List.not_mem_nil, or_false] at hy
  rcases hy with rfl | rfl <;> exact NoId.v _)
theorem noid_rec17 (r : Rec) : NoId (recA r) := NoId.ag (by
  intro y hy
  unfold recC at hy
  simp only [List.mem_cons, List.not_mem_nil, or_false] at hy
  rcases hy with rfl | rfl | rfl | rfl | rfl | rfl | rfl | rfl | rfl <;> exact NoId.v _)
set_option maxHeartbeats 16000000 in
theorem modeljudges_law (p : Pol) (l : List TRow) (r : Rec) (hp : p.ok) (hl : l.length ≤ maxLen) (hn : ∀ q ∈ l, q.name.size ≤ maxLen) (hr : r.ok) : Tells Tryz.prog 4 [polA p, trows l, recA r] (boolA true) := by
  have hlt := light_l17 p hp.1
  have hfew := few17_spec l hl hn
  have hawk := awake17_spec
  cases hlp : lightP p with
  | false =>
    rw [hlp] at hlt
    obtain ⟨⟨k, n⟩, x32, rs⟩ := p
    refine tells_of_aw Tryz.func4 rfl rfl fun nx => ?_
    (repeat((conv=>whnf);first|apply ω0|apply ω1|apply ω2|refine τ3 rfl ?_|refine τ4 rfl ?_|refine ⟨rfl,?_⟩|apply τa|refine τb rfl ?_|refine ⟨⟨by kernel_rfl,by kernel_rfl⟩,?_⟩|refine ⟨by decide,?_⟩|apply τt|apply τf))
    refine splitO_eq (b := polA ⟨(k, n), x32, rs⟩) rfl ?_
    (repeat((conv=>whnf);first|apply ω0|apply ω1|apply ω2|refine τ3 rfl ?_|refine τ4 rfl ?_|refine ⟨rfl,?_⟩|apply τa|refine τb rfl ?_|refine ⟨⟨by kernel_rfl,by kernel_rfl⟩,?_⟩|refine ⟨by decide,?_⟩|apply τt|apply τf))
    refine aop_tells rfl rfl hlt ⟨AVle.refl _, trivial⟩ fun nx2 => ?_
    (repeat((conv=>whnf);first|apply ω0|apply ω1|apply ω2|refine τ3 rfl ?_|refine τ4 rfl ?_|refine ⟨rfl,?_⟩|apply τa|refine τb rfl ?_|refine ⟨⟨by kernel_rfl,by kernel_rfl⟩,?_⟩|refine ⟨by decide,?_⟩|apply τt|apply τf))
    exact ret_tells rfl (AVle.refl _)
  | true =>
    rw [hlp] at hlt
    have hpo := polOk_of hp hlp
    cases hfl : fewB l with
    | false =>
      rw [hfl] at hfew
      obtain ⟨⟨k, n⟩, x32, rs⟩ := p
      refine tells_of_aw Tryz.func4 rfl rfl fun nx => ?_
      (repeat((conv=>whnf);first|apply ω0|apply ω1|apply ω2|refine τ3 rfl ?_|refine τ4 rfl ?_|refine ⟨rfl,?_⟩|apply τa|refine τb rfl ?_|refine ⟨⟨by kernel_rfl,by kernel_rfl⟩,?_⟩|refine ⟨by decide,?_⟩|apply τt|apply τf))
      refine splitO_eq (b := polA ⟨(k, n), x32, rs⟩) rfl ?_
      (repeat((conv=>whnf);first|apply ω0|apply ω1|apply ω2|refine τ3 rfl ?_|refine τ4 rfl ?_|refine ⟨rfl,?_⟩|apply τa|refine τb rfl ?_|refine ⟨⟨by kernel_rfl,by kernel_rfl⟩,?_⟩|refine ⟨by decide,?_⟩|apply τt|apply τf))
      refine aop_tells rfl rfl hlt ⟨AVle.refl _, trivial⟩ fun nx2 => ?_
      (repeat((conv=>whnf);first|apply ω0|apply ω1|apply ω2|refine τ3 rfl ?_|refine τ4 rfl ?_|refine ⟨rfl,?_⟩|apply τa|refine τb rfl ?_|refine ⟨⟨by kernel_rfl,by kernel_rfl⟩,?_⟩|refine ⟨by decide,?_⟩|apply τt|apply τf))
      refine aop_tells rfl rfl hfew ⟨AVle.refl _, trivial⟩ fun nx3 => ?_
      (repeat((conv=>whnf);first|apply ω0|apply ω1|apply ω2|refine τ3 rfl ?_|refine τ4 rfl ?_|refine ⟨rfl,?_⟩|apply τa|refine τb rfl ?_|refine ⟨⟨by kernel_rfl,by kernel_rfl⟩,?_⟩|refine ⟨by decide,?_⟩|apply τt|apply τf))
      exact ret_tells rfl (AVle.refl _)
    | true =>
      rw [hfl] at hfew
      obtain ⟨hl40, hn60⟩ := few_le hfl
      have hof := pol_l17 p hpo.1 (fun r hr => (hpo.2 r hr).1)
      have hrw := l17rows_spec l (by omega)
      have hrc := record17_spec r
      have hjd := judge_law p l r hpo hp (by omega) hn hr
      have hr14 := right14_spec p
      have hr11 := ref11right_spec l (by omega)
      have htr := tab_right l
      have hrj := fun h => refjudge_spec p l r hpo h (by omega) hr
      have hcs := judge_cases p l r
      generalize judgeR p l r = J at hjd hcs
      generalize judgeQ p l r = Q at hrj hcs
      generalize rightP p = rp at hr14 hrj hcs
      obtain ⟨v, e⟩ := J
      obtain ⟨⟨k, n⟩, x32, rs⟩ := p
      refine tells_of_aw Tryz.func4 rfl rfl fun nx => ?_
      (repeat((conv=>whnf);first|apply ω0|apply ω1|apply ω2|refine τ3 rfl ?_|refine τ4 rfl ?_|refine ⟨rfl,?_⟩|apply τa|refine τb rfl ?_|refine ⟨⟨by kernel_rfl,by kernel_rfl⟩,?_⟩|refine ⟨by decide,?_⟩|apply τt|apply τf))
      refine splitO_eq (b := polA ⟨(k, n), x32, rs⟩) rfl ?_
      (repeat((conv=>whnf);first|apply ω0|apply ω1|apply ω2|refine τ3 rfl ?_|refine τ4 rfl ?_|refine ⟨rfl,?_⟩|apply τa|refine τb rfl ?_|refine ⟨⟨by kernel_rfl,by kernel_rfl⟩,?_⟩|refine ⟨by decide,?_⟩|apply τt|apply τf))
      refine aop_tells rfl rfl hlt ⟨AVle.refl _, trivial⟩ fun nx2 => ?_
      (repeat((conv=>whnf);first|apply ω0|apply ω1|apply ω2|refine τ3 rfl ?_|refine τ4 rfl ?_|refine ⟨rfl,?_⟩|apply τa|refine τb rfl ?_|refine ⟨⟨by kernel_rfl,by kernel_rfl⟩,?_⟩|refine ⟨by decide,?_⟩|apply τt|apply τf))
      refine aop_tells rfl rfl hfew ⟨AVle.refl _, trivial⟩ fun nx3 => ?_
      (repeat((conv=>whnf);first|apply ω0|apply ω1|apply ω2|refine τ3 rfl ?_|refine τ4 rfl ?_|refine ⟨rfl,?_⟩|apply τa|refine τb rfl ?_|refine ⟨⟨by kernel_rfl,by kernel_rfl⟩,?_⟩|refine ⟨by decide,?_⟩|apply τt|apply τf))
      refine aw_mixN 11 _ (fun _ => false) (fun i => match i with | 1 => true | 3 => true | 5 => true | 6 => true | _ => false) [0, 1, 2, 3, 4, 5, 6, 7, 8, 9, 10] (by kernel_rfl) (by kernel_rfl) (HB.refl _) ?_
      (repeat((conv=>whnf);first|apply ω0|apply ω1|apply ω2|refine τ3 rfl ?_|refine τ4 rfl ?_|refine ⟨rfl,?_⟩|apply τa|refine τb rfl ?_|refine ⟨⟨by kernel_rfl,by kernel_rfl⟩,?_⟩|refine ⟨by decide,?_⟩|apply τt|apply τf))
      refine ⟨_, pure_tells rfl rfl rfl hof ⟨AVle.refl _, trivial⟩ (noid_pol17 _), ?_⟩
      (repeat((conv=>whnf);first|apply ω0|apply ω1|apply ω2|refine τ3 rfl ?_|refine τ4 rfl ?_|refine ⟨rfl,?_⟩|apply τa|refine τb rfl ?_|refine ⟨⟨by kernel_rfl,by kernel_rfl⟩,?_⟩|refine ⟨by decide,?_⟩|apply τt|apply τf))
      refine ⟨_, pure_tells rfl rfl rfl hrw ⟨AVle.refl _, trivial⟩ (noid_trows _), ?_⟩
      (repeat((conv=>whnf);first|apply ω0|apply ω1|apply ω2|refine τ3 rfl ?_|refine τ4 rfl ?_|refine ⟨rfl,?_⟩|apply τa|refine τb rfl ?_|refine ⟨⟨by kernel_rfl,by kernel_rfl⟩,?_⟩|refine ⟨by decide,?_⟩|apply τt|apply τf))
      refine ⟨_, pure_tells rfl rfl rfl hrc ⟨AVle.refl _, trivial⟩ (noid_rec17 _), ?_⟩
      (repeat((conv=>whnf);first|apply ω0|apply ω1|apply ω2|refine τ3 rfl ?_|refine τ4 rfl ?_|refine ⟨rfl,?_⟩|apply τa|refine τb rfl ?_|refine ⟨⟨by kernel_rfl,by kernel_rfl⟩,?_⟩|refine ⟨by decide,?_⟩|apply τt|apply τf))
      refine ⟨_, pure_tells rfl rfl rfl hjd ⟨AVle.refl _, AVle.refl _, AVle.refl _, trivial⟩ (noid_ui _ _), ?_⟩
      (repeat((conv=>whnf);first|apply ω0|apply ω1|apply ω2|refine τ3 rfl ?_|refine τ4 rfl ?_|refine ⟨rfl,?_⟩|apply τa|refine τb rfl ?_|refine ⟨⟨by kernel_rfl,by kernel_rfl⟩,?_⟩|refine ⟨by decide,?_⟩|apply τt|apply τf))
      refine splitO_eq (b := polA ⟨(k, n), x32, rs⟩) rfl ?_
      (repeat((conv=>whnf);first|apply ω0|apply ω1|apply ω2|refine τ3 rfl ?_|refine τ4 rfl ?_|refine ⟨rfl,?_⟩|apply τa|refine τb rfl ?_|refine ⟨⟨by kernel_rfl,by kernel_rfl⟩,?_⟩|refine ⟨by decide,?_⟩|apply τt|apply τf))
      refine aop_tells rfl rfl hr14 ⟨AVle.refl _, trivial⟩ fun nx4 => ?_
      rcases hcs with ⟨rfl, hJ⟩ | ⟨rfl, hb, hJ⟩ | ⟨rfl, hb, hJ, hQ⟩
      · obtain ⟨rfl, rfl⟩ := Prod.mk.inj hJ
        (repeat((conv=>whnf);first|apply ω0|apply ω1|apply ω2|refine τ3 rfl ?_|refine τ4 rfl ?_|refine ⟨rfl,?_⟩|apply τa|refine τb rfl ?_|refine ⟨⟨by kernel_rfl,by kernel_rfl⟩,?_⟩|refine ⟨by decide,?_⟩|apply τt|apply τf))
        refine aop_tells rfl rfl hawk trivial fun nx5 => ?_
        (repeat((conv=>whnf);first|apply ω0|apply ω1|apply ω2|refine τ3 rfl ?_|refine τ4 rfl ?_|refine ⟨rfl,?_⟩|apply τa|refine τb rfl ?_|refine ⟨⟨by kernel_rfl,by kernel_rfl⟩,?_⟩|refine ⟨by decide,?_⟩|apply τt|apply τf))
        exact ret_tells rfl (AVle.refl _)
      · obtain ⟨rfl, rfl⟩ := Prod.mk.inj hJ
        have hrb : (right11 l).2 ≠ 0 := fun q => hb (htr.2 q)
        (repeat((conv=>whnf);first|apply ω0|apply ω1|apply ω2|refine τ3 rfl ?_|refine τ4 rfl ?_|refine ⟨rfl,?_⟩|apply τa|refine τb rfl ?_|refine ⟨⟨by kernel_rfl,by kernel_rfl⟩,?_⟩|refine ⟨by decide,?_⟩|apply τt|apply τf))
        refine aop_tells rfl rfl hr11 ⟨AVle.refl _, trivial⟩ fun nx5 => ?_
        (repeat((conv=>whnf);first|apply ω0|apply ω1|apply ω2|refine τ3 rfl ?_|refine τ4 rfl ?_|refine ⟨rfl,?_⟩|apply τa|refine τb rfl ?_|refine ⟨⟨by kernel_rfl,by kernel_rfl⟩,?_⟩|refine ⟨by decide,?_⟩|apply τt|apply τf))
        intro c hc
        obtain rfl : c = true := hc.trans (bne_iff_ne.2 hrb)
        (repeat((conv=>whnf);first|apply ω0|apply ω1|apply ω2|refine τ3 rfl ?_|refine τ4 rfl ?_|refine ⟨rfl,?_⟩|apply τa|refine τb rfl ?_|refine ⟨⟨by kernel_rfl,by kernel_rfl⟩,?_⟩|refine ⟨by decide,?_⟩|apply τt|apply τf))
        refine aop_tells rfl rfl hawk trivial fun nx6 => ?_
        (repeat((conv=>whnf);first|apply ω0|apply ω1|apply ω2|refine τ3 rfl ?_|refine τ4 rfl ?_|refine ⟨rfl,?_⟩|apply τa|refine τb rfl ?_|refine ⟨⟨by kernel_rfl,by kernel_rfl⟩,?_⟩|refine ⟨by decide,?_⟩|apply τt|apply τf))
        exact ret_tells rfl (AVle.refl _)
      · obtain ⟨rfl, rfl⟩ := Prod.mk.inj hJ
        have hrb : (right11 l).2 = 0 := htr.1 hb
        (repeat((conv=>whnf);first|apply ω0|apply ω1|apply ω2|refine τ3 rfl ?_|refine τ4 rfl ?_|refine ⟨rfl,?_⟩|apply τa|refine τb rfl ?_|refine ⟨⟨by kernel_rfl,by kernel_rfl⟩,?_⟩|refine ⟨by decide,?_⟩|apply τt|apply τf))
        refine aop_tells rfl rfl hr11 ⟨AVle.refl _, trivial⟩ fun nx5 => ?_
        (repeat((conv=>whnf);first|apply ω0|apply ω1|apply ω2|refine τ3 rfl ?_|refine τ4 rfl ?_|refine ⟨rfl,?_⟩|apply τa|refine τb rfl ?_|refine ⟨⟨by kernel_rfl,by kernel_rfl⟩,?_⟩|refine ⟨by decide,?_⟩|apply τt|apply τf))
        intro c hc
        obtain rfl : c = false := hc.trans (bne_eq_false_iff_eq.2 hrb)
        (repeat((conv=>whnf);first|apply ω0|apply ω1|apply ω2|refine τ3 rfl ?_|refine τ4 rfl ?_|refine ⟨rfl,?_⟩|apply τa|refine τb rfl ?_|refine ⟨⟨by kernel_rfl,by kernel_rfl⟩,?_⟩|refine ⟨by decide,?_⟩|apply τt|apply τf))
        refine aop_tells rfl rfl (hrj rfl) ⟨AVle.refl _, AVle.refl _, AVle.refl _, trivial⟩ fun nx6 => ?_
        (repeat((conv=>whnf);first|apply ω0|apply ω1|apply ω2|refine τ3 rfl ?_|refine τ4 rfl ?_|refine ⟨rfl,?_⟩|apply τa|refine τb rfl ?_|refine ⟨⟨by kernel_rfl,by kernel_rfl⟩,?_⟩|refine ⟨by decide,?_⟩|apply τt|apply τf))
        intro c hc
        obtain rfl : c = true := hc.trans (beq_iff_eq.2 (wrap_id (by omega) (by omega)))
        (repeat((conv=>whnf);first|apply ω0|apply ω1|apply ω2|refine τ3 rfl ?_|refine τ4 rfl ?_|refine ⟨rfl,?_⟩|apply τa|refine τb rfl ?_|refine ⟨⟨by kernel_rfl,by kernel_rfl⟩,?_⟩|refine ⟨by decide,?_⟩|apply τt|apply τf))
        refine aop_tells rfl rfl hawk trivial fun nx7 => ?_
        (repeat((conv=>whnf);first|apply ω0|apply ω1|apply ω2|refine τ3 rfl ?_|refine τ4 rfl ?_|refine ⟨rfl,?_⟩|apply τa|refine τb rfl ?_|refine ⟨⟨by kernel_rfl,by kernel_rfl⟩,?_⟩|refine ⟨by decide,?_⟩|apply τt|apply τf))
        exact ret_tells rfl (AVle.refl _)
end Go.Proofs.W
