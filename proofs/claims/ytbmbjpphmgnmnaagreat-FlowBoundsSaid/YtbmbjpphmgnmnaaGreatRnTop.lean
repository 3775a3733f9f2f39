/- Proved: the law FlowBounds answers true, whatever comes in, and its arguments read behind the call as they read before. No condition beyond the given statement's. -/
import Derived.Test.YtbmbjpphmgnmnaaGreatF
import Derived.Test.YtbmbjpphmgnmnaaGreatRows
import Derived.ProofKit
set_option linter.unusedVariables false
set_option linter.unusedSimpArgs false
namespace Go.Proofs.YtbmbjpphmgnmnaaGreat
open Go.ChangeShapes Go.WideShapes Go.ChangeAt Go.RowKit Go.Vl Go.Proofs.W

theorem Tryz.own : ownKnob Tryz.prog.godebug = none := by kernel_rfl
theorem Tryz.laidOut : laidOutB Tryz.prog = true := by kernel_rfl
theorem covMapOn {P : Program} {d : Nat} {t : TypeId} {α β : Type} {e : α → AV} {e' : β → AV} {ok : α → Prop} {ok' : β → Prop} (h : Cov P d t e ok) (f : α → β) (he : ∀ x, ok x → e x = e' (f x)) (ho : ∀ x, ok x → ok' (f x)) : Cov P d t e' ok' :=
  ⟨fun cs hw => let ⟨x, h1, h2, h3⟩ := h.h cs hw; ⟨f x, ho x h1, by rw [← he x h1]; exact h2, by rw [← he x h1]; exact h3⟩⟩
theorem wf_u32 {n : Int} (h : (Lit.int .u32 n).wf = true) : 0 ≤ n ∧ n < 4294967296 := by simp [Lit.wf, IntKind.min, IntKind.max, IntKind.signed, IntKind.bits] at h; omega
theorem wf_u16 {n : Int} (h : (Lit.int .u16 n).wf = true) : 0 ≤ n ∧ n < 65536 := by simp [Lit.wf, IntKind.min, IntKind.max, IntKind.signed, IntKind.bits] at h; omega
theorem wf_u8 {n : Int} (h : (Lit.int .u8 n).wf = true) : 0 ≤ n ∧ n < 256 := by simp [Lit.wf, IntKind.min, IntKind.max, IntKind.signed, IntKind.bits] at h; omega
theorem cov_ins : Cov Tryz.prog 2 47 insA Ins.ok :=
  covMapOn (Cov.struct Tryz.underlying47 rfl (CovP.cons (Cov.int Tryz.underlying41) (CovP.cons (Cov.int Tryz.underlying5) (CovP.cons (Cov.int Tryz.underlying5) (CovP.cons (Cov.int Tryz.underlying26) CovP.nil)))))
    (fun p : Int × Int × Int × Int × Unit => (⟨p.1.toNat, p.2.1.toNat, p.2.2.1.toNat, p.2.2.2.1.toNat⟩ : Ins))
    (fun p h => by
      obtain ⟨a, b, c, d, _⟩ := p
      obtain ⟨h1, h2, h3, h4, _⟩ := h
      have g1 : 0 ≤ a ∧ a < 65536 := wf_u16 h1; have g2 : 0 ≤ b ∧ b < 256 := wf_u8 h2; have g3 : 0 ≤ c ∧ c < 256 := wf_u8 h3; have g4 : 0 ≤ d ∧ d < 4294967296 := wf_u32 h4
      show AV.ag [.v (.int .u16 a), .v (.int .u8 b), .v (.int .u8 c), .v (.int .u32 d)] = AV.ag [.v (.int .u16 (a.toNat : Int)), .v (.int .u8 (b.toNat : Int)), .v (.int .u8 (c.toNat : Int)), .v (.int .u32 (d.toNat : Int))]
      rw [Int.toNat_of_nonneg (by omega), Int.toNat_of_nonneg (by omega), Int.toNat_of_nonneg (by omega), Int.toNat_of_nonneg (by omega)])
    (fun p h => by
      obtain ⟨a, b, c, d, _⟩ := p
      obtain ⟨h1, h2, h3, h4, _⟩ := h
      have g1 : 0 ≤ a ∧ a < 65536 := wf_u16 h1; have g2 : 0 ≤ b ∧ b < 256 := wf_u8 h2; have g3 : 0 ≤ c ∧ c < 256 := wf_u8 h3; have g4 : 0 ≤ d ∧ d < 4294967296 := wf_u32 h4
      exact ⟨by dsimp only; omega, by dsimp only; omega, by dsimp only; omega, by dsimp only; omega⟩)
theorem cells_inst : Tryz.prog.cellsOf 47 = 4 := by kernel_rfl
theorem cov_inss : Cov Tryz.prog 3 22 inss (fun l => l.length ≤ maxLen ∧ ∀ x ∈ l, x.ok) := by
  have h := Cov.slice ins0 Tryz.underlying22 cov_ins (fun _ => cells_inst.symm)
  rw [cells_inst] at h
  exact h
theorem cells_byte : Tryz.prog.cellsOf 5 = 1 := by kernel_rfl
theorem cov_byte : Cov Tryz.prog 2 5 (fun n : Nat => u8 n) (fun n => n < 256) :=
  covMapOn (Cov.int (d := 1) Tryz.underlying5) Int.toNat (fun n h => by have := wf_u8 h; show AV.v _ = AV.v _; rw [Int.toNat_of_nonneg (by omega)]) (fun n h => by have := wf_u8 h; omega)
theorem flat_u8 : ∀ l : List Nat, (l.map fun x : Nat => (u8 x : AV).cells).flatten = l.map fun x : Nat => u8 x
  | [] => rfl
  | x :: l => by rw [List.map_cons, List.flatten_cons, flat_u8 l]; rfl
theorem cov_b64 : Cov Tryz.prog 3 23 b64A (fun l => l.length = 64 ∧ ∀ x ∈ l, x < 256) :=
  (Cov.array (d := 2) Tryz.underlying23 cov_byte).map id (fun l => congrArg AV.ag (flat_u8 l)) (fun l h => h)
set_option maxRecDepth 100000 in
theorem flowBounds_lifted (os : Os) (started : os.Started) (H : Type) (enc : TypeId × Value → H) :
    ReturnsInHanded {} Tryz.checked os 3 .any (Rows.flowBoundsSpec.pre6 enc Tryz.prog Tryz.f3 Rows.flowBoundsRow.domain false) (Rows.flowBoundsSpec.post enc Tryz.prog Tryz.f3 false true false false) := by
  refine returnsInHanded_of_change (C := Tryz.checked) Tryz.own started (by kernel_rfl) Tryz.func3
    (ChangeSpec.witness6 (enc := enc) (C := Tryz.checked) false ⟨#[], #[.slice none 0 0, .agg (Array.replicate 64 (.int .u8 0))], []⟩ 8 (by kernel_rfl) (by kernel_rfl) (by kernel_rfl) (by kernel_rfl)) ?_
  intro W base args ds gs before hval0 hW hcnd _
  have hval : ∀ (j : Nat) t v, Tryz.f3.params[j]? = some t → args[j]? = some v → Value.okWide Tryz.prog W .any base t v := hval0
  have hW' := hW
  obtain ⟨p, q, hA0, hV, rfl, hfz, hnd⟩ := hW
  have hA : DataW.TrodAll enc Tryz.prog W 0 (fun _ => true) true Tryz.f3.params.toList args.toList ds p := hA0
  refine (law_calls (f := 3) (fn := Tryz.f3) (d := 3) (by kernel_rfl) hval hA (wtyAll_two cov_inss cov_b64 fun l b hl hb => flowbounds_spec l hl.2 hl.1 b hb.2 hb.1)).mono fun e W' ⟨he, hb⟩ => ?_
  subst he
  exact ⟨_, rfl, law_post rfl rfl Tryz.underlying4 (fun ds hd => match ds, hd with | [a, b], _ => ⟨rfl, rfl, rfl⟩) hW' Tryz.laidOut (read_all (by kernel_rfl)) hb⟩

theorem flowBounds_holds : Rows.FlowBoundsSaid :=
  OpenClaim.holds_of_wide 3 Tryz.f3 rfl rfl rfl rfl rfl rfl rfl ⟨rfl, rfl, rfl, rfl, rfl⟩ rfl rfl rfl rfl rfl (by kernel_rfl) Tryz.func3 (by kernel_rfl)
    (of_decide_eq_true (by kernel_rfl)) (by unfold Func.isWrapper; first | (rw [if_pos (by decide +kernel)]; kernel_rfl) | (rw [if_neg (by decide +kernel)]; exact ⟨rfl, rfl⟩))
    (fun os started H enc _ => flowBounds_lifted os started H enc)
end Go.Proofs.YtbmbjpphmgnmnaaGreat
