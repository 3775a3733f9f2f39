/- Proved: the law StackStrictest answers true, whatever comes in, and its argument reads behind the call as it read before. No condition beyond the given statement's. -/
import Derived.Test.YtbgpfhgpjbfcgaaYaRef
import Derived.Test.YtbgpfhgpjbfcgaaRows
import Derived.ProofKit
namespace Go.Proofs.Ytbgpfhgpjbfcgaa
open Go.ChangeShapes Go.WideShapes Go.ChangeAt Go.RowKit Go.Vl Go.Proofs.Ytb

theorem Try.own : ownKnob Try.prog.godebug = none := by kernel_rfl
theorem Try.laidOut : laidOutB Try.prog = true := by kernel_rfl

def pairs (l : List (Int × Int × Unit)) : List A2 := l.map fun p => (p.1, p.2.1)
theorem pairs_acts (l : List (Int × Int × Unit)) : slOf 2 (fun p : Int × Int × Unit => .ag [int p.1, int p.2.1]) ((0 : Int), ((0 : Int), ())) l = acts (pairs l) :=
  slOf_map (e' := actP) (fun p : Int × Int × Unit => (p.1, p.2.1)) (fun _ => rfl) l
theorem cov_acts : Cov Try.prog 3 22 acts (fun l => l.length ≤ maxLen) :=
  (Cov.slice ((0 : Int), ((0 : Int), ())) Try.underlying22 (Cov.struct Try.underlying25 rfl (CovP.cons (Cov.int Try.underlying3) (CovP.cons (Cov.int Try.underlying3) CovP.nil))) (fun _ => rfl)).map
    pairs pairs_acts (fun l h => by simpa [pairs] using h.1)

set_option maxRecDepth 100000 in
theorem stackStrictest_lifted (os : Os) (started : os.Started) (H : Type) (enc : TypeId × Value → H) :
    ReturnsInHanded {} Try.checked os 3 .any (Rows.stackStrictestSpec.pre6 enc Try.prog Try.f3 Rows.stackStrictestRow.domain false) (Rows.stackStrictestSpec.post enc Try.prog Try.f3 false true false false) := by
  refine returnsInHanded_of_change (C := Try.checked) Try.own started (by kernel_rfl) Try.func3
    (ChangeSpec.witness6 (enc := enc) (C := Try.checked) false ⟨#[], #[.slice none 0 0], []⟩ 8 (by kernel_rfl) (by kernel_rfl) (by kernel_rfl) (by kernel_rfl)) ?_
  intro W base args ds gs before hval0 hW hcnd _
  have hval : ∀ (j : Nat) t v, Try.f3.params[j]? = some t → args[j]? = some v → Value.okWide Try.prog W .any base t v := hval0
  have hW' := hW
  obtain ⟨p, q, hA0, hV, rfl, hfz, hnd⟩ := hW
  have hA : DataW.TrodAll enc Try.prog W 0 (fun _ => true) true Try.f3.params.toList args.toList ds p := hA0
  refine (law_calls (f := 3) (fn := Try.f3) (d := 3) (by kernel_rfl) hval hA (wtyAll_one cov_acts fun l hl => law_spec l hl)).mono fun e W' ⟨he, hb⟩ => ?_
  subst he
  exact ⟨_, rfl, law_post rfl rfl Try.underlying4 (fun ds hd => match ds, hd with | [d], _ => ⟨rfl, rfl, rfl⟩) hW' Try.laidOut (read_all (by kernel_rfl)) hb⟩

theorem stackStrictest_holds : Rows.StackStrictestSaid :=
  OpenClaim.holds_of_wide 3 Try.f3 rfl rfl rfl rfl rfl rfl rfl ⟨rfl, rfl, rfl, rfl, rfl⟩ rfl rfl rfl rfl rfl (by kernel_rfl) Try.func3 (by kernel_rfl)
    (of_decide_eq_true (by kernel_rfl)) (by unfold Func.isWrapper; first | (rw [if_pos (by decide +kernel)]; kernel_rfl) | (rw [if_neg (by decide +kernel)]; exact ⟨rfl, rfl⟩))
    (fun os started H enc _ => stackStrictest_lifted os started H enc)
end Go.Proofs.Ytbgpfhgpjbfcgaa
