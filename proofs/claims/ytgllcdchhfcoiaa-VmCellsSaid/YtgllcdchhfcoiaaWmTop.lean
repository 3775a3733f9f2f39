/- Proved: the law VmCells answers true, whatever comes in, and its arguments read behind the call as they read before. No condition beyond the given statement's. -/
import Derived.Test.YtgllcdchhfcoiaaV
import Derived.Test.YtgllcdchhfcoiaaRows
import Derived.ProofKit
set_option linter.unusedVariables false
set_option linter.unusedSimpArgs false
namespace Go.Proofs.Ytgllcdchhfcoiaa
open Go.ChangeShapes Go.WideShapes Go.ChangeAt Go.RowKit Go.Vl Go.Proofs.W

theorem Try.own : ownKnob Try.prog.godebug = none := by kernel_rfl
theorem Try.laidOut : laidOutB Try.prog = true := by kernel_rfl
theorem covMapOn {P : Program} {d : Nat} {t : TypeId} {α β : Type} {e : α → AV} {e' : β → AV} {ok : α → Prop} {ok' : β → Prop} (h : Cov P d t e ok) (f : α → β) (he : ∀ x, ok x → e x = e' (f x)) (ho : ∀ x, ok x → ok' (f x)) : Cov P d t e' ok' :=
  ⟨fun cs hw => let ⟨x, h1, h2, h3⟩ := h.h cs hw; ⟨f x, ho x h1, by rw [← he x h1]; exact h2, by rw [← he x h1]; exact h3⟩⟩
theorem wf_u8 {n : Int} (h : (Lit.int .u8 n).wf = true) : 0 ≤ n ∧ n < 256 := by simp [Lit.wf, IntKind.min, IntKind.max, IntKind.signed, IntKind.bits] at h; omega
theorem wf_u32 {n : Int} (h : (Lit.int .u32 n).wf = true) : 0 ≤ n ∧ n < 4294967296 := by simp [Lit.wf, IntKind.min, IntKind.max, IntKind.signed, IntKind.bits] at h; omega
theorem cov_u8 : Cov Try.prog 3 5 (fun n : Nat => u8 n) (fun n => n < 256) :=
  covMapOn (Cov.int (d := 2) Try.underlying5) Int.toNat (fun n h => by have := wf_u8 h; show AV.v _ = AV.v _; rw [Int.toNat_of_nonneg (by omega)]) (fun n h => by have := wf_u8 h; omega)
theorem cov_u32 : Cov Try.prog 3 41 (fun n : Nat => u32 n) (fun n => n < 4294967296) :=
  covMapOn (Cov.int (d := 2) Try.underlying41) Int.toNat (fun n h => by have := wf_u32 h; show AV.v _ = AV.v _; rw [Int.toNat_of_nonneg (by omega)]) (fun n h => by have := wf_u32 h; omega)
theorem cov_cel : Cov Try.prog 3 85 celA Cel.ok :=
  covMapOn (Cov.struct Try.underlying85 rfl (CovP.cons (Cov.int (d := 1) Try.underlying41) (CovP.cons (Cov.int (d := 1) Try.underlying41) (CovP.cons (Cov.int (d := 1) Try.underlying5) (CovP.cons (Cov.int (d := 1) Try.underlying5) CovP.nil)))))
    (fun p : Int × Int × Int × Int × Unit => (⟨p.1.toNat, p.2.1.toNat, p.2.2.1.toNat, p.2.2.2.1.toNat⟩ : Cel))
    (fun p h => by
      obtain ⟨a, b, c, d, _⟩ := p
      obtain ⟨h1, h2, h3, h4, _⟩ := h
      have g1 : 0 ≤ a ∧ a < 4294967296 := wf_u32 h1; have g2 : 0 ≤ b ∧ b < 4294967296 := wf_u32 h2; have g3 : 0 ≤ c ∧ c < 256 := wf_u8 h3; have g4 : 0 ≤ d ∧ d < 256 := wf_u8 h4
      show AV.ag [.v (.int .u32 a), .v (.int .u32 b), .v (.int .u8 c), .v (.int .u8 d)] = AV.ag [.v (.int .u32 (a.toNat : Int)), .v (.int .u32 (b.toNat : Int)), .v (.int .u8 (c.toNat : Int)), .v (.int .u8 (d.toNat : Int))]
      rw [Int.toNat_of_nonneg (by omega), Int.toNat_of_nonneg (by omega), Int.toNat_of_nonneg (by omega), Int.toNat_of_nonneg (by omega)])
    (fun p h => by
      obtain ⟨a, b, c, d, _⟩ := p
      obtain ⟨h1, h2, h3, h4, _⟩ := h
      have g1 : 0 ≤ a ∧ a < 4294967296 := wf_u32 h1; have g2 : 0 ≤ b ∧ b < 4294967296 := wf_u32 h2; have g3 : 0 ≤ c ∧ c < 256 := wf_u8 h3; have g4 : 0 ≤ d ∧ d < 256 := wf_u8 h4
      exact ⟨by dsimp only; omega, by dsimp only; omega, by dsimp only; omega, by dsimp only; omega⟩)
set_option maxRecDepth 100000 in
theorem vmCells_lifted (os : Os) (started : os.Started) (H : Type) (enc : TypeId × Value → H) :
    ReturnsInHanded {} Try.checked os 13 .any (Rows.vmCellsSpec.pre6 enc Try.prog Try.f13 Rows.vmCellsRow.domain false) (Rows.vmCellsSpec.post enc Try.prog Try.f13 false true false false) := by
  refine returnsInHanded_of_change (C := Try.checked) Try.own started (by kernel_rfl) Try.func13
    (ChangeSpec.witness6 (enc := enc) (C := Try.checked) false ⟨#[], #[.agg #[.int .u32 0, .int .u32 0, .int .u8 0, .int .u8 0]], []⟩ 8 (by kernel_rfl) (by kernel_rfl) (by kernel_rfl) (by kernel_rfl)) ?_
  intro W base args ds gs before hval0 hW hcnd _
  have hval : ∀ (j : Nat) t v, Try.f13.params[j]? = some t → args[j]? = some v → Value.okWide Try.prog W .any base t v := hval0
  have hW' := hW
  obtain ⟨p, q, hA0, hV, rfl, hfz, hnd⟩ := hW
  have hA : DataW.TrodAll enc Try.prog W 0 (fun _ => true) true Try.f13.params.toList args.toList ds p := hA0
  refine (law_calls (f := 13) (fn := Try.f13) (d := 3) (by kernel_rfl) hval hA (wtyAll_one cov_cel fun z hz => vmcells_spec z hz)).mono fun e W' ⟨he, hb⟩ => ?_
  subst he
  exact ⟨_, rfl, law_post rfl rfl Try.underlying4 (fun ds hd => match ds, hd with | [a], _ => ⟨rfl, rfl, rfl⟩) hW' Try.laidOut (read_all (by kernel_rfl)) hb⟩

theorem vmCells_holds : Rows.VmCellsSaid :=
  OpenClaim.holds_of_wide 13 Try.f13 rfl rfl rfl rfl rfl rfl rfl ⟨rfl, rfl, rfl, rfl, rfl⟩ rfl rfl rfl rfl rfl (by kernel_rfl) Try.func13 (by kernel_rfl)
    (of_decide_eq_true (by kernel_rfl)) (by unfold Func.isWrapper; first | (rw [if_pos (by decide +kernel)]; kernel_rfl) | (rw [if_neg (by decide +kernel)]; exact ⟨rfl, rfl⟩))
    (fun os started H enc _ => vmCells_lifted os started H enc)
end Go.Proofs.Ytgllcdchhfcoiaa
