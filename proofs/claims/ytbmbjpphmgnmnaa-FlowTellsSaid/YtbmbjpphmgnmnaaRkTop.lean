/- Proved: the law FlowTells answers true, whatever comes in, and its arguments read behind the call as they read before. No condition beyond the given statement's. -/
import Derived.Test.YtbmbjpphmgnmnaaG
import Derived.Test.YtbmbjpphmgnmnaaRows
import Derived.Test.YtbmbjpphmgnmnaaD
import Derived.ProofKit
set_option linter.unusedVariables false
set_option linter.unusedSimpArgs false
namespace Go.Proofs.Ytbmbjpphmgnmnaa
open Go.ChangeShapes Go.WideShapes Go.ChangeAt Go.RowKit Go.Vl Go.Proofs.W

theorem Try.own : ownKnob Try.prog.godebug = none := by kernel_rfl
theorem Try.laidOut : laidOutB Try.prog = true := by kernel_rfl
theorem covMapOn {P : Program} {d : Nat} {t : TypeId} {α β : Type} {e : α → AV} {e' : β → AV} {ok : α → Prop} {ok' : β → Prop} (h : Cov P d t e ok) (f : α → β) (he : ∀ x, ok x → e x = e' (f x)) (ho : ∀ x, ok x → ok' (f x)) : Cov P d t e' ok' :=
  ⟨fun cs hw => let ⟨x, h1, h2, h3⟩ := h.h cs hw; ⟨f x, ho x h1, by rw [← he x h1]; exact h2, by rw [← he x h1]; exact h3⟩⟩
theorem wf_u32 {n : Int} (h : (Lit.int .u32 n).wf = true) : 0 ≤ n ∧ n < 4294967296 := by simp [Lit.wf, IntKind.min, IntKind.max, IntKind.signed, IntKind.bits] at h; omega
theorem wf_u16 {n : Int} (h : (Lit.int .u16 n).wf = true) : 0 ≤ n ∧ n < 65536 := by simp [Lit.wf, IntKind.min, IntKind.max, IntKind.signed, IntKind.bits] at h; omega
theorem wf_u8 {n : Int} (h : (Lit.int .u8 n).wf = true) : 0 ≤ n ∧ n < 256 := by simp [Lit.wf, IntKind.min, IntKind.max, IntKind.signed, IntKind.bits] at h; omega
theorem cov_ins : Cov Try.prog 2 47 insA Ins.ok :=
  covMapOn (Cov.struct Try.underlying47 rfl (CovP.cons (Cov.int Try.underlying45) (CovP.cons (Cov.int Try.underlying5) (CovP.cons (Cov.int Try.underlying5) (CovP.cons (Cov.int Try.underlying43) CovP.nil)))))
    (fun p : Int × Int × Int × Int × Unit => (⟨p.1.toNat, p.2.1.toNat, p.2.2.1.toNat, p.2.2.2.1.toNat⟩ : Ins))
    (fun p h => by
      obtain ⟨a, b, c, d, _⟩ := p
      obtain ⟨h1, h2, h3, h4, _⟩ := h
      have g1 : 0 ≤ a ∧ a < 65536 := wf_u16 h1; have g2 : 0 ≤ b ∧ b < 256 := wf_u8 h2; have g3 : 0 ≤ c ∧ c < 256 := wf_u8 h3; have g4 : 0 ≤ d ∧ d < 4294967296 := wf_u32 h4
      show AV.ag [.v (.int .u16 a), .v (.int .u8 b), .v (.int .u8 c), .v (.int .u32 d)] = AV.ag [.v (.int .u16 (a.toNat : Int)), .v (.int .u8 (b.toNat : Int)), .v (.int .u8 (c.toNat : Int)), .v (.int .u32 (d.toNat : Int))]
      rw [Int.toNat_of_nonneg (by omega), Int.toNat_of_nonneg (by omega), Int.toNat_of_nonneg (by omega), Int.toNat_of_nonneg (by omega)])
    (fun p h => by
      obtain ⟨a, b, c, d, _⟩ := p
      obtain ⟨h1, h2, h3, h4, _⟩ := h
      have g1 : 0 ≤ a ∧ a < 65536 := wf_u16 h1; have g2 : 0 ≤ b ∧ b < 256 := wf_u8 h2; have g3 : 0 ≤ c ∧ c < 256 := wf_u8 h3; have g4 : 0 ≤ d ∧ d < 4294967296 := wf_u32 h4
      exact ⟨by dsimp only; omega, by dsimp only; omega, by dsimp only; omega, by dsimp only; omega⟩)
theorem cells_inst : Try.prog.cellsOf 47 = 4 := by kernel_rfl
theorem cov_inss : Cov Try.prog 3 22 inss (fun l => l.length ≤ maxLen ∧ ∀ x ∈ l, x.ok) := by
  have h := Cov.slice ins0 Try.underlying22 cov_ins (fun _ => cells_inst.symm)
  rw [cells_inst] at h
  exact h
set_option maxRecDepth 100000 in
theorem flowTells_lifted (os : Os) (started : os.Started) (H : Type) (enc : TypeId × Value → H) :
    ReturnsInHanded {} Try.checked os 3 .any (Rows.flowTellsSpec.pre6 enc Try.prog Try.f3 Rows.flowTellsRow.domain false) (Rows.flowTellsSpec.post enc Try.prog Try.f3 false true false false) := by
  refine returnsInHanded_of_change (C := Try.checked) Try.own started (by kernel_rfl) Try.func3
    (ChangeSpec.witness6 (enc := enc) (C := Try.checked) false ⟨#[], #[.slice none 0 0], []⟩ 8 (by kernel_rfl) (by kernel_rfl) (by kernel_rfl) (by kernel_rfl)) ?_
  intro W base args ds gs before hval0 hW hcnd _
  have hval : ∀ (j : Nat) t v, Try.f3.params[j]? = some t → args[j]? = some v → Value.okWide Try.prog W .any base t v := hval0
  have hW' := hW
  obtain ⟨p, q, hA0, hV, rfl, hfz, hnd⟩ := hW
  have hA : DataW.TrodAll enc Try.prog W 0 (fun _ => true) true Try.f3.params.toList args.toList ds p := hA0
  refine (law_calls (f := 3) (fn := Try.f3) (d := 3) (by kernel_rfl) hval hA (wtyAll_one cov_inss fun l hl => tells_spec l hl.2 hl.1)).mono fun e W' ⟨he, hb⟩ => ?_
  subst he
  exact ⟨_, rfl, law_post rfl rfl Try.underlying4 (fun ds hd => match ds, hd with | [a], _ => ⟨rfl, rfl, rfl⟩) hW' Try.laidOut (read_all (by kernel_rfl)) hb⟩

theorem flowTells_holds : Rows.FlowTellsSaid :=
  OpenClaim.holds_of_wide 3 Try.f3 rfl rfl rfl rfl rfl rfl rfl ⟨rfl, rfl, rfl, rfl, rfl⟩ rfl rfl rfl rfl rfl (by kernel_rfl) Try.func3 (by kernel_rfl)
    (of_decide_eq_true (by kernel_rfl)) (by unfold Func.isWrapper; first | (rw [if_pos (by decide +kernel)]; kernel_rfl) | (rw [if_neg (by decide +kernel)]; exact ⟨rfl, rfl⟩))
    (fun os started H enc _ => flowTells_lifted os started H enc)
end Go.Proofs.Ytbmbjpphmgnmnaa
