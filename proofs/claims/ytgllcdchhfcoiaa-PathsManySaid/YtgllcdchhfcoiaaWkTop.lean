/- Proved: the law PathsMany answers true, whatever comes in, and its arguments read behind the call as they read before. No condition beyond the given statement's. -/
import Derived.Test.YtgllcdchhfcoiaaJ
import Derived.Test.YtgllcdchhfcoiaaRows
import Derived.ProofKit
set_option linter.unusedVariables false
set_option linter.unusedSimpArgs false
namespace Go.Proofs.Ytgllcdchhfcoiaa
open Go.ChangeShapes Go.WideShapes Go.ChangeAt Go.RowKit Go.Vl Go.Proofs.W

theorem Try.own : ownKnob Try.prog.godebug = none := by kernel_rfl
theorem Try.laidOut : laidOutB Try.prog = true := by kernel_rfl
theorem covMapOn {P : Program} {d : Nat} {t : TypeId} {α β : Type} {e : α → AV} {e' : β → AV} {ok : α → Prop} {ok' : β → Prop} (h : Cov P d t e ok) (f : α → β) (he : ∀ x, ok x → e x = e' (f x)) (ho : ∀ x, ok x → ok' (f x)) : Cov P d t e' ok' :=
  ⟨fun cs hw => let ⟨x, h1, h2, h3⟩ := h.h cs hw; ⟨f x, ho x h1, by rw [← he x h1]; exact h2, by rw [← he x h1]; exact h3⟩⟩
theorem wf_u8 {n : Int} (h : (Lit.int .u8 n).wf = true) : 0 ≤ n ∧ n < 256 := by simp [Lit.wf, IntKind.min, IntKind.max, IntKind.signed, IntKind.bits] at h; omega
theorem wf_u32 {n : Int} (h : (Lit.int .u32 n).wf = true) : 0 ≤ n ∧ n < 4294967296 := by simp [Lit.wf, IntKind.min, IntKind.max, IntKind.signed, IntKind.bits] at h; omega
theorem cov_u8 : Cov Try.prog 3 5 (fun n : Nat => u8 n) (fun n => n < 256) :=
  covMapOn (Cov.int (d := 2) Try.underlying5) Int.toNat (fun n h => by have := wf_u8 h; show AV.v _ = AV.v _; rw [Int.toNat_of_nonneg (by omega)]) (fun n h => by have := wf_u8 h; omega)
theorem cov_u32 : Cov Try.prog 3 41 (fun n : Nat => u32 n) (fun n => n < 4294967296) :=
  covMapOn (Cov.int (d := 2) Try.underlying41) Int.toNat (fun n h => by have := wf_u32 h; show AV.v _ = AV.v _; rw [Int.toNat_of_nonneg (by omega)]) (fun n h => by have := wf_u32 h; omega)
set_option maxRecDepth 100000 in
theorem pathsMany_lifted (os : Os) (started : os.Started) (H : Type) (enc : TypeId × Value → H) :
    ReturnsInHanded {} Try.checked os 5 .any (Rows.pathsManySpec.pre6 enc Try.prog Try.f5 Rows.pathsManyRow.domain false) (Rows.pathsManySpec.post enc Try.prog Try.f5 false true false false) := by
  refine returnsInHanded_of_change (C := Try.checked) Try.own started (by kernel_rfl) Try.func5
    (ChangeSpec.witness6 (enc := enc) (C := Try.checked) false ⟨#[], #[.int .u8 0], []⟩ 8 (by kernel_rfl) (by kernel_rfl) (by kernel_rfl) (by kernel_rfl)) ?_
  intro W base args ds gs before hval0 hW hcnd _
  have hval : ∀ (j : Nat) t v, Try.f5.params[j]? = some t → args[j]? = some v → Value.okWide Try.prog W .any base t v := hval0
  have hW' := hW
  obtain ⟨p, q, hA0, hV, rfl, hfz, hnd⟩ := hW
  have hA : DataW.TrodAll enc Try.prog W 0 (fun _ => true) true Try.f5.params.toList args.toList ds p := hA0
  refine (law_calls (f := 5) (fn := Try.f5) (d := 3) (by kernel_rfl) hval hA (wtyAll_one cov_u8 fun n hn => pathsmany_spec n hn)).mono fun e W' ⟨he, hb⟩ => ?_
  subst he
  exact ⟨_, rfl, law_post rfl rfl Try.underlying4 (fun ds hd => match ds, hd with | [a], _ => ⟨rfl, rfl, rfl⟩) hW' Try.laidOut (read_all (by kernel_rfl)) hb⟩

theorem pathsMany_holds : Rows.PathsManySaid :=
  OpenClaim.holds_of_wide 5 Try.f5 rfl rfl rfl rfl rfl rfl rfl ⟨rfl, rfl, rfl, rfl, rfl⟩ rfl rfl rfl rfl rfl (by kernel_rfl) Try.func5 (by kernel_rfl)
    (of_decide_eq_true (by kernel_rfl)) (by unfold Func.isWrapper; first | (rw [if_pos (by decide +kernel)]; kernel_rfl) | (rw [if_neg (by decide +kernel)]; exact ⟨rfl, rfl⟩))
    (fun os started H enc _ => pathsMany_lifted os started H enc)
end Go.Proofs.Ytgllcdchhfcoiaa
