/- Proved: the law TreeFormed answers true, whatever comes in, and its arguments read behind the call as they read before. No condition beyond the given statement's. -/
import Derived.Test.YtbgpfhgpjbfcgaaYiFormed
import Derived.Test.YtbgpfhgpjbfcgaaRows
import Derived.ProofKit
namespace Go.Proofs.Ytbgpfhgpjbfcgaa
open Go.ChangeShapes Go.WideShapes Go.ChangeAt Go.RowKit Go.Vl Go.Proofs.Ytb

theorem Try.own : ownKnob Try.prog.godebug = none := by kernel_rfl
theorem Try.laidOut : laidOutB Try.prog = true := by kernel_rfl
theorem cov_u32s : Cov Try.prog 3 34 u32s (fun l => l.length ≤ maxLen ∧ ∀ x ∈ l, (Lit.int .u32 x).wf = true) := Cov.slice (0 : Int) Try.underlying34 (Cov.int Try.underlying40) (fun _ => rfl)
theorem wf_u32 {n : Int} (h : (Lit.int .u32 n).wf = true) : 0 ≤ n ∧ n < 4294967296 := by simp [Lit.wf, IntKind.min, IntKind.max, IntKind.signed, IntKind.bits] at h; omega
theorem wf_u16 {n : Int} (h : (Lit.int .u16 n).wf = true) : 0 ≤ n ∧ n < 65536 := by simp [Lit.wf, IntKind.min, IntKind.max, IntKind.signed, IntKind.bits] at h; omega
theorem wf_u8 {n : Int} (h : (Lit.int .u8 n).wf = true) : 0 ≤ n ∧ n < 256 := by simp [Lit.wf, IntKind.min, IntKind.max, IntKind.signed, IntKind.bits] at h; omega
set_option maxRecDepth 100000 in
theorem treeFormed_lifted (os : Os) (started : os.Started) (H : Type) (enc : TypeId × Value → H) :
    ReturnsInHanded {} Try.checked os 5 .any (Rows.treeFormedSpec.pre6 enc Try.prog Try.f5 Rows.treeFormedRow.domain false) (Rows.treeFormedSpec.post enc Try.prog Try.f5 false true false false) := by
  refine returnsInHanded_of_change (C := Try.checked) Try.own started (by kernel_rfl) Try.func5
    (ChangeSpec.witness6 (enc := enc) (C := Try.checked) false ⟨#[], #[.slice none 0 0], []⟩ 8 (by kernel_rfl) (by kernel_rfl) (by kernel_rfl) (by kernel_rfl)) ?_
  intro W base args ds gs before hval0 hW hcnd _
  have hval : ∀ (j : Nat) t v, Try.f5.params[j]? = some t → args[j]? = some v → Value.okWide Try.prog W .any base t v := hval0
  have hW' := hW
  obtain ⟨p, q, hA0, hV, rfl, hfz, hnd⟩ := hW
  have hA : DataW.TrodAll enc Try.prog W 0 (fun _ => true) true Try.f5.params.toList args.toList ds p := hA0
  refine (law_calls (f := 5) (fn := Try.f5) (d := 3) (by kernel_rfl) hval hA (wtyAll_one cov_u32s fun l hl => formed_spec l hl.1)).mono fun e W' ⟨he, hb⟩ => ?_
  subst he
  exact ⟨_, rfl, law_post rfl rfl Try.underlying4 (fun ds hd => match ds, hd with | [a], _ => ⟨rfl, rfl, rfl⟩) hW' Try.laidOut (read_all (by kernel_rfl)) hb⟩

theorem treeFormed_holds : Rows.TreeFormedSaid :=
  OpenClaim.holds_of_wide 5 Try.f5 rfl rfl rfl rfl rfl rfl rfl ⟨rfl, rfl, rfl, rfl, rfl⟩ rfl rfl rfl rfl rfl (by kernel_rfl) Try.func5 (by kernel_rfl)
    (of_decide_eq_true (by kernel_rfl)) (by unfold Func.isWrapper; first | (rw [if_pos (by decide +kernel)]; kernel_rfl) | (rw [if_neg (by decide +kernel)]; exact ⟨rfl, rfl⟩))
    (fun os started H enc _ => treeFormed_lifted os started H enc)
end Go.Proofs.Ytbgpfhgpjbfcgaa
