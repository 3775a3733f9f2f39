/- Proved: the law NormHolds answers true, whatever comes in, and its arguments read behind the call as they read before. No condition beyond the given statement's. -/
import Derived.Test.YtfljmnjdijikcaaD
import Derived.Test.YtfljmnjdijikcaaRows
import Derived.ProofKit
set_option linter.unusedVariables false
set_option linter.unusedSimpArgs false
namespace Go.Proofs.Ytfljmnjdijikcaa
open Go.ChangeShapes Go.WideShapes Go.ChangeAt Go.RowKit Go.Vl Go.Proofs.W

theorem Try.own : ownKnob Try.prog.godebug = none := by kernel_rfl
theorem Try.laidOut : laidOutB Try.prog = true := by kernel_rfl
theorem covMapOn {P : Program} {d : Nat} {t : TypeId} {α β : Type} {e : α → AV} {e' : β → AV} {ok : α → Prop} {ok' : β → Prop} (h : Cov P d t e ok) (f : α → β) (he : ∀ x, ok x → e x = e' (f x)) (ho : ∀ x, ok x → ok' (f x)) : Cov P d t e' ok' :=
  ⟨fun cs hw => let ⟨x, h1, h2, h3⟩ := h.h cs hw; ⟨f x, ho x h1, by rw [← he x h1]; exact h2, by rw [← he x h1]; exact h3⟩⟩
theorem wf_u64 {n : Int} (h : (Lit.int .u64 n).wf = true) : 0 ≤ n ∧ n < 18446744073709551616 := by simp [Lit.wf, IntKind.min, IntKind.max, IntKind.signed, IntKind.bits] at h; omega
theorem cov_cnd : Cov Try.prog 3 48 cndA Cnd.ok :=
  covMapOn (Cov.struct Try.underlying48 rfl (CovP.cons (Cov.int Try.underlying3) (CovP.cons (Cov.int Try.underlying3) (CovP.cons (Cov.int Try.underlying46) (CovP.cons (Cov.int Try.underlying46) CovP.nil)))))
    (fun p : Int × Int × Int × Int × Unit => (⟨p.1, p.2.1, p.2.2.1.toNat, p.2.2.2.1.toNat⟩ : Cnd))
    (fun p h => by
      obtain ⟨a, b, c, d, _⟩ := p
      obtain ⟨h1, h2, h3, h4, _⟩ := h
      have g3 : 0 ≤ c ∧ c < 18446744073709551616 := wf_u64 h3; have g4 : 0 ≤ d ∧ d < 18446744073709551616 := wf_u64 h4
      show AV.ag [.v (.int .i64 a), .v (.int .i64 b), .v (.int .u64 c), .v (.int .u64 d)] = AV.ag [.v (.int .i64 a), .v (.int .i64 b), .v (.int .u64 (c.toNat : Int)), .v (.int .u64 (d.toNat : Int))]
      rw [Int.toNat_of_nonneg (by omega), Int.toNat_of_nonneg (by omega)])
    (fun p h => by
      obtain ⟨a, b, c, d, _⟩ := p
      obtain ⟨h1, h2, h3, h4, _⟩ := h
      have g3 : 0 ≤ c ∧ c < 18446744073709551616 := wf_u64 h3; have g4 : 0 ≤ d ∧ d < 18446744073709551616 := wf_u64 h4
      exact ⟨by dsimp only; omega, by dsimp only; omega⟩)
theorem cov_u64 : Cov Try.prog 2 46 (fun n : Nat => u64 n) (fun n => n < 18446744073709551616) :=
  covMapOn (Cov.int (d := 1) Try.underlying46) Int.toNat (fun n h => by have := wf_u64 h; show AV.v _ = AV.v _; rw [Int.toNat_of_nonneg (by omega)]) (fun n h => by have := wf_u64 h; omega)
def argsT (a : Nat × Nat × Nat × Nat × Nat × Nat) : AV := args6 a.1 a.2.1 a.2.2.1 a.2.2.2.1 a.2.2.2.2.1 a.2.2.2.2.2
def listT (a : Nat × Nat × Nat × Nat × Nat × Nat) : List Nat := [a.1, a.2.1, a.2.2.1, a.2.2.2.1, a.2.2.2.2.1, a.2.2.2.2.2]
theorem cov_args : Cov Try.prog 3 57 argsT (fun a => ∀ i, (listT a).getD i 0 < 18446744073709551616) :=
  covMapOn (Cov.array Try.underlying57 cov_u64) (fun l => (l.getD 0 0, l.getD 1 0, l.getD 2 0, l.getD 3 0, l.getD 4 0, l.getD 5 0))
    (fun l h => by
      obtain ⟨hl, _⟩ := h
      match l, hl with
      | [a, b, c, d, e, f], _ => rfl)
    (fun l h => by
      obtain ⟨hl, hx⟩ := h
      match l, hl, hx with
      | [a, b, c, d, e, f], _, hx =>
        intro i
        show [a, b, c, d, e, f].getD i 0 < _
        rw [List.getD_eq_getElem?_getD]
        cases h : [a, b, c, d, e, f][i]? with
        | none => simp
        | some x => exact hx x (List.mem_of_getElem? h))
set_option maxRecDepth 100000 in
theorem normHolds_lifted (os : Os) (started : os.Started) (H : Type) (enc : TypeId × Value → H) :
    ReturnsInHanded {} Try.checked os 5 .any (Rows.normHoldsSpec.pre6 enc Try.prog Try.f5 Rows.normHoldsRow.domain false) (Rows.normHoldsSpec.post enc Try.prog Try.f5 false true false false) := by
  refine returnsInHanded_of_change (C := Try.checked) Try.own started (by kernel_rfl) Try.func5
    (ChangeSpec.witness6 (enc := enc) (C := Try.checked) false ⟨#[], #[.agg #[.int .i64 0, .int .i64 0, .int .u64 0, .int .u64 0], .agg #[.int .u64 0, .int .u64 0, .int .u64 0, .int .u64 0, .int .u64 0, .int .u64 0]], []⟩ 8 (by kernel_rfl) (by kernel_rfl) (by kernel_rfl) (by kernel_rfl)) ?_
  intro W base args ds gs before hval0 hW hcnd _
  have hval : ∀ (j : Nat) t v, Try.f5.params[j]? = some t → args[j]? = some v → Value.okWide Try.prog W .any base t v := hval0
  have hW' := hW
  obtain ⟨p, q, hA0, hV, rfl, hfz, hnd⟩ := hW
  have hA : DataW.TrodAll enc Try.prog W 0 (fun _ => true) true Try.f5.params.toList args.toList ds p := hA0
  refine (law_calls (f := 5) (fn := Try.f5) (d := 3) (by kernel_rfl) hval hA (wtyAll_two cov_cnd cov_args fun c a hc ha => pcall_of_tells (normholds_spec c _ _ _ _ _ _ hc ha))).mono fun e W' ⟨he, hb⟩ => ?_
  subst he
  exact ⟨_, rfl, law_post rfl rfl Try.underlying4 (fun ds hd => match ds, hd with | [a, b], _ => ⟨rfl, rfl, rfl⟩) hW' Try.laidOut (read_all (by kernel_rfl)) hb⟩

theorem normHolds_holds : Rows.NormHoldsSaid :=
  OpenClaim.holds_of_wide 5 Try.f5 rfl rfl rfl rfl rfl rfl rfl ⟨rfl, rfl, rfl, rfl, rfl⟩ rfl rfl rfl rfl rfl (by kernel_rfl) Try.func5 (by kernel_rfl)
    (of_decide_eq_true (by kernel_rfl)) (by unfold Func.isWrapper; first | (rw [if_pos (by decide +kernel)]; kernel_rfl) | (rw [if_neg (by decide +kernel)]; exact ⟨rfl, rfl⟩))
    (fun os started H enc _ => normHolds_lifted os started H enc)
end Go.Proofs.Ytfljmnjdijikcaa
