/- Proved: the law NormConds answers true, whatever comes in, and its arguments read behind the call as they read before. No condition beyond the given statement's. -/
import Derived.Test.YtfljmnjdijikcaaD
import Derived.Test.YtfljmnjdijikcaaRows
import Derived.ProofKit
set_option linter.unusedVariables false
set_option linter.unusedSimpArgs false
namespace Go.Proofs.Ytfljmnjdijikcaa
open Go.ChangeShapes Go.WideShapes Go.ChangeAt Go.RowKit Go.Vl Go.Proofs.W

theorem Try.own : ownKnob Try.prog.godebug = none := by kernel_rfl
theorem Try.laidOut : laidOutB Try.prog = true := by kernel_rfl
theorem covMapOn {P : Program} {d : Nat} {t : TypeId} {α β : Type} {e : α → AV} {e' : β → AV} {ok : α → Prop} {ok' : β → Prop} (h : Cov P d t e ok) (f : α → β) (he : ∀ x, ok x → e x = e' (f x)) (ho : ∀ x, ok x → ok' (f x)) : Cov P d t e' ok' :=
  ⟨fun cs hw => let ⟨x, h1, h2, h3⟩ := h.h cs hw; ⟨f x, ho x h1, by rw [← he x h1]; exact h2, by rw [← he x h1]; exact h3⟩⟩
theorem wf_u64 {n : Int} (h : (Lit.int .u64 n).wf = true) : 0 ≤ n ∧ n < 18446744073709551616 := by simp [Lit.wf, IntKind.min, IntKind.max, IntKind.signed, IntKind.bits] at h; omega
theorem cov_cnd : Cov Try.prog 3 48 cndA Cnd.ok :=
  covMapOn (Cov.struct Try.underlying48 rfl (CovP.cons (Cov.int Try.underlying3) (CovP.cons (Cov.int Try.underlying3) (CovP.cons (Cov.int Try.underlying46) (CovP.cons (Cov.int Try.underlying46) CovP.nil)))))
    (fun p : Int × Int × Int × Int × Unit => (⟨p.1, p.2.1, p.2.2.1.toNat, p.2.2.2.1.toNat⟩ : Cnd))
    (fun p h => by
      obtain ⟨a, b, c, d, _⟩ := p
      obtain ⟨h1, h2, h3, h4, _⟩ := h
      have g3 : 0 ≤ c ∧ c < 18446744073709551616 := wf_u64 h3; have g4 : 0 ≤ d ∧ d < 18446744073709551616 := wf_u64 h4
      show AV.ag [.v (.int .i64 a), .v (.int .i64 b), .v (.int .u64 c), .v (.int .u64 d)] = AV.ag [.v (.int .i64 a), .v (.int .i64 b), .v (.int .u64 (c.toNat : Int)), .v (.int .u64 (d.toNat : Int))]
      rw [Int.toNat_of_nonneg (by omega), Int.toNat_of_nonneg (by omega)])
    (fun p h => by
      obtain ⟨a, b, c, d, _⟩ := p
      obtain ⟨h1, h2, h3, h4, _⟩ := h
      have g3 : 0 ≤ c ∧ c < 18446744073709551616 := wf_u64 h3; have g4 : 0 ≤ d ∧ d < 18446744073709551616 := wf_u64 h4
      exact ⟨by dsimp only; omega, by dsimp only; omega⟩)
set_option maxRecDepth 100000 in
theorem normConds_lifted (os : Os) (started : os.Started) (H : Type) (enc : TypeId × Value → H) :
    ReturnsInHanded {} Try.checked os 4 .any (Rows.normCondsSpec.pre6 enc Try.prog Try.f4 Rows.normCondsRow.domain false) (Rows.normCondsSpec.post enc Try.prog Try.f4 false true false false) := by
  refine returnsInHanded_of_change (C := Try.checked) Try.own started (by kernel_rfl) Try.func4
    (ChangeSpec.witness6 (enc := enc) (C := Try.checked) false ⟨#[], #[.agg #[.int .i64 0, .int .i64 0, .int .u64 0, .int .u64 0]], []⟩ 8 (by kernel_rfl) (by kernel_rfl) (by kernel_rfl) (by kernel_rfl)) ?_
  intro W base args ds gs before hval0 hW hcnd _
  have hval : ∀ (j : Nat) t v, Try.f4.params[j]? = some t → args[j]? = some v → Value.okWide Try.prog W .any base t v := hval0
  have hW' := hW
  obtain ⟨p, q, hA0, hV, rfl, hfz, hnd⟩ := hW
  have hA : DataW.TrodAll enc Try.prog W 0 (fun _ => true) true Try.f4.params.toList args.toList ds p := hA0
  refine (law_calls (f := 4) (fn := Try.f4) (d := 3) (by kernel_rfl) hval hA (wtyAll_one cov_cnd fun c hc => pcall_of_tells (normconds_spec c hc))).mono fun e W' ⟨he, hb⟩ => ?_
  subst he
  exact ⟨_, rfl, law_post rfl rfl Try.underlying4 (fun ds hd => match ds, hd with | [a], _ => ⟨rfl, rfl, rfl⟩) hW' Try.laidOut (read_all (by kernel_rfl)) hb⟩

theorem normConds_holds : Rows.NormCondsSaid :=
  OpenClaim.holds_of_wide 4 Try.f4 rfl rfl rfl rfl rfl rfl rfl ⟨rfl, rfl, rfl, rfl, rfl⟩ rfl rfl rfl rfl rfl (by kernel_rfl) Try.func4 (by kernel_rfl)
    (of_decide_eq_true (by kernel_rfl)) (by unfold Func.isWrapper; first | (rw [if_pos (by decide +kernel)]; kernel_rfl) | (rw [if_neg (by decide +kernel)]; exact ⟨rfl, rfl⟩))
    (fun os started H enc _ => normConds_lifted os started H enc)
end Go.Proofs.Ytfljmnjdijikcaa
