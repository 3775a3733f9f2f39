import Derived.Test.YtibmfgeambbpaaaGreatDoorG
import Derived.Test.YtibmfgeambbpaaaGreatDoorCards
import Derived.Test.YtibmfgeambbpaaaGreatDoorTie
import Derived.OpenShut
import Derived.Deep.DeepHandedRow
import Derived.Lib.LaidTab
import Derived.Test.YtibmfgeambbpaaaGreatDoorD
import Derived.ProofKit
set_option linter.unusedVariables false
set_option linter.unusedSimpArgs false
namespace Go.Proofs.YtibmfgeambbpaaaGreatDoor
open Go.ChangeShapes Go.WideShapes Go.ChangeAt Go.RowKit Go.Vl Go.Proofs.W

theorem Tryz.own : ownKnob Tryz.prog.godebug = none := by kernel_rfl
theorem Tryz.laidOut : laidOutB Tryz.prog = true := by kernel_rfl
theorem covMapOn {P : Program} {d : Nat} {t : TypeId} {α β : Type} {e : α → AV} {e' : β → AV} {ok : α → Prop} {ok' : β → Prop} (h : Cov P d t e ok) (f : α → β) (he : ∀ x, ok x → e x = e' (f x)) (ho : ∀ x, ok x → ok' (f x)) : Cov P d t e' ok' :=
  ⟨fun cs hw => let ⟨x, h1, h2, h3⟩ := h.h cs hw; ⟨f x, ho x h1, by rw [← he x h1]; exact h2, by rw [← he x h1]; exact h3⟩⟩
theorem wf_u64 {n : Int} (h : (Lit.int .u64 n).wf = true) : 0 ≤ n ∧ n < 18446744073709551616 := by simp [Lit.wf, IntKind.min, IntKind.max, IntKind.signed, IntKind.bits] at h; omega
theorem wf_u32 {n : Int} (h : (Lit.int .u32 n).wf = true) : 0 ≤ n ∧ n < 4294967296 := by simp [Lit.wf, IntKind.min, IntKind.max, IntKind.signed, IntKind.bits] at h; omega
theorem cov_u64 {d : Nat} : Cov Tryz.prog (d + 1) 73 (fun n : Nat => u64 n) (fun n => n < 18446744073709551616) :=
  covMapOn (Cov.int (d := d) Tryz.underlying73) Int.toNat (fun n h => by have := wf_u64 h; show AV.v _ = AV.v _; rw [Int.toNat_of_nonneg (by omega)]) (fun n h => by have := wf_u64 h; omega)
theorem cov_u32 {d : Nat} : Cov Tryz.prog (d + 1) 79 (fun n : Nat => u32 n) (fun n => n < 4294967296) :=
  covMapOn (Cov.int (d := d) Tryz.underlying79) Int.toNat (fun n h => by have := wf_u32 h; show AV.v _ = AV.v _; rw [Int.toNat_of_nonneg (by omega)]) (fun n h => by have := wf_u32 h; omega)
theorem cov_row : Cov Tryz.prog 3 41 trowA (fun r => r.name.size ≤ maxLen) :=
  covMapOn (Cov.struct Tryz.underlying41 rfl (CovP.cons (Cov.str Tryz.underlying9) (CovP.cons (Cov.array Tryz.underlying39 (Cov.int (d := 0) Tryz.underlying3)) (CovP.cons (Cov.int Tryz.underlying3) (CovP.cons (Cov.int Tryz.underlying3) CovP.nil)))))
    (fun p : ByteArray × List Int × Int × Int × Unit => (⟨p.1, p.2.1.getD 0 0, p.2.1.getD 1 0, p.2.1.getD 2 0, p.2.1.getD 3 0, p.2.1.getD 4 0, p.2.2.1, p.2.2.2.1⟩ : TRow))
    (fun p h => by
      obtain ⟨s, l, m, u, _⟩ := p
      obtain ⟨_, ⟨hl, _⟩, _⟩ := h
      match l, hl with
      | [a, b, c, d, e], _ => rfl)
    (fun p h => h.1)
theorem cov_rec : Cov Tryz.prog 3 81 recA Rec.ok :=
  covMapOn (Cov.struct Tryz.underlying81 rfl (CovP.cons cov_u32 (CovP.cons cov_u32 (CovP.cons cov_u64 (CovP.cons (Cov.array Tryz.underlying74 cov_u64) CovP.nil)))))
    (fun p : Nat × Nat × Nat × List Nat × Unit => (⟨p.1, p.2.1, p.2.2.1, p.2.2.2.1.getD 0 0, p.2.2.2.1.getD 1 0, p.2.2.2.1.getD 2 0, p.2.2.2.1.getD 3 0, p.2.2.2.1.getD 4 0, p.2.2.2.1.getD 5 0⟩ : Rec))
    (fun p h => by
      obtain ⟨s, m, u, l, _⟩ := p
      obtain ⟨_, _, _, ⟨hl, _⟩, _⟩ := h
      match l, hl with
      | [a, b, c, d, e, f], _ => rfl)
    (fun p h => by
      obtain ⟨s, m, u, l, _⟩ := p
      obtain ⟨h1, h2, h3, ⟨hl, hx⟩, _⟩ := h
      match l, hl, hx with
      | [a, b, c, d, e, f], _, hx => exact ⟨h1, h2, h3, hx a (by simp), hx b (by simp), hx c (by simp), hx d (by simp), hx e (by simp), hx f (by simp)⟩)
theorem cells_row : Tryz.prog.cellsOf 41 = 8 := by kernel_rfl
theorem cells_rec : Tryz.prog.cellsOf 81 = 9 := by kernel_rfl
theorem cov_rows : Cov Tryz.prog 4 22 trows (fun l => l.length ≤ maxLen ∧ ∀ x ∈ l, x.name.size ≤ maxLen) := by
  have h := Cov.slice trow0 Tryz.underlying22 cov_row (fun _ => cells_row.symm)
  rw [cells_row] at h
  exact h
theorem cov_recs : Cov Tryz.prog 4 23 recs (fun l => l.length ≤ maxLen ∧ ∀ x ∈ l, x.ok) := by
  have h := Cov.slice rec0 Tryz.underlying23 cov_rec (fun _ => cells_rec.symm)
  rw [cells_rec] at h
  exact h
theorem cov_bool : Cov Tryz.prog 4 4 boolA (fun _ => True) := Cov.bool Tryz.underlying4
theorem cov_act {d : Nat} : Cov Tryz.prog (d + 2) 44 actP (fun _ => True) :=
  covMapOn (Cov.struct Tryz.underlying44 rfl (CovP.cons (Cov.int Tryz.underlying3) (CovP.cons (Cov.int Tryz.underlying3) CovP.nil)))
    (fun p : Int × Int × Unit => (p.1, p.2.1)) (fun p h => rfl) (fun p h => trivial)
def CaseOk (z : List TRow × List Rec × A2 × Bool) : Prop := (z.1.length ≤ maxLen ∧ ∀ x ∈ z.1, x.name.size ≤ maxLen) ∧ (z.2.1.length ≤ maxLen ∧ ∀ x ∈ z.2.1, x.ok)
theorem cov_case : Cov Tryz.prog 5 46 (fun z : List TRow × List Rec × A2 × Bool => caseA z.1 z.2.1 z.2.2.1.1 z.2.2.1.2 z.2.2.2) CaseOk :=
  covMapOn (Cov.struct Tryz.underlying46 rfl (CovP.cons cov_rows (CovP.cons cov_recs (CovP.cons cov_act (CovP.cons cov_bool CovP.nil)))))
    (fun p : List TRow × List Rec × A2 × Bool × Unit => (p.1, p.2.1, p.2.2.1, p.2.2.2.1)) (fun p h => rfl) (fun p h => ⟨h.1, h.2.1⟩)
set_option maxRecDepth 100000 in
theorem contract (H : Type) (enc : TypeId × Value → H) (W : World) (base : Nat) (args : Array Value) (ds gs : List (DataW H)) (before : List MemPlace)
    (hval : ∀ (j : Nat) t v, Tryz.f4.params[j]? = some t → args[j]? = some v → Value.okWide Tryz.prog W .any base t v)
    (hW : DataW.Whole enc Tryz.prog Tryz.f4.params.toList Rows.learnPoliciesSpec.vars false W args.toList ds gs before) :
    Calls Tryz.prog 4 args W fun e W' => ∃ v, e = .returned v ∧ Rows.learnPoliciesSpec.post enc Tryz.prog Tryz.f4 false true false false W args v W' := by
  have hW' := hW
  obtain ⟨p, q, hA0, hV, rfl, hfz, hnd⟩ := hW
  have hA : DataW.TrodAll enc Tryz.prog W 0 (fun _ => true) true Tryz.f4.params.toList args.toList ds p := hA0
  refine (law_calls (f := 4) (fn := Tryz.f4) (d := 5) (by kernel_rfl) hval hA (wtyAll_one cov_case fun a ha => pcall_of_tells (learnpolicies_law a.1 a.2.1 a.2.2.1.1 a.2.2.1.2 a.2.2.2 ha.1.1 ha.1.2 ha.2.2))).mono fun e W' ⟨he, hb⟩ => ?_
  subst he
  exact ⟨_, rfl, law_post rfl rfl Tryz.underlying4 (fun ds hd => match ds, hd with | [a], _ => ⟨rfl, rfl, rfl⟩) hW' Tryz.laidOut (read_all (by kernel_rfl)) hb⟩
noncomputable def laidWorld (os : Os) : World :=
  let put (h : Array Obj) (g : Nat) (cs : Array Value) : Array Obj := h.modify g fun
    | .cells _ t frozen => .cells cs t frozen
    | o => o
  let w0 := World.holding Tryz.prog os ⟨#[], #[], []⟩
  { w0 with heap := put (put w0.heap 1 ((Go.Pinned.utf8FirstZ.map fun n : Nat => Value.int .u8 (n : Int)).toArray)) 2 (([128, 191, 160, 191, 128, 159, 144, 191, 128, 143] ++ List.replicate 22 (0 : Int)).map fun n => Value.int .u8 n).toArray }
noncomputable def zeroPol : Value := .agg #[.slice none 0 0, .slice none 0 0, .int .i64 0, .int .i64 0, .bool false]
set_option maxRecDepth 100000 in
theorem laid_met (os : Os) : laidMet Tryz.prog Rows.learnPoliciesRow.laid ((laidWorld os).forCall (fun _ _ => 0) ⟨#[], #[zeroPol], []⟩).memory :=
  laidMet_of_run' 8 (by kernel_rfl) (by kernel_rfl)
theorem reads (os : Os) {H : Type} (enc : TypeId × Value → H) : ∃ places, DataW.whole enc Tryz.prog ((laidWorld os).forCall (fun _ _ => 0) ⟨#[], #[zeroPol], []⟩).memory Tryz.f4.params.toList Rows.learnPoliciesSpec.vars false #[zeroPol].toList 8 = some ([.agg [.nil, .nil, .agg [.lit (.int .i64 0), .lit (.int .i64 0)], .lit (.bool false)]], [], places) :=
  ⟨[], by kernel_rfl⟩
set_option maxRecDepth 100000 in
theorem lifted (os : Os) (started : os.Started) (H : Type) (enc : TypeId × Value → H) (F : Stop.Interp) :
    ReturnsInHanded {} Tryz.checked os 4 .any ((OpenSpec.ofChange Rows.learnPoliciesSpec).preRow enc Tryz.prog Tryz.f4 Rows.learnPoliciesRow.domain false Rows.learnPoliciesRow.laid) (((OpenSpec.ofChange Rows.learnPoliciesSpec).at F).post enc Tryz.prog Tryz.f4 false true false false) := by
  obtain ⟨places, hx⟩ := reads os enc
  refine returnsInHanded_of_row (C := Tryz.checked) (s := OpenSpec.ofChange Rows.learnPoliciesSpec) Tryz.own started (by kernel_rfl) Tryz.func4
    (witness_row_at (enc := enc) (C := Tryz.checked) false (laidWorld os) #[zeroPol] rfl (by kernel_rfl) (by kernel_rfl) (by kernel_rfl)
      (OpenSpec.preRow_of_cond 8 hx (by kernel_rfl) (fun k hk => by cases hk) (by kernel_rfl) (laid_met os))) ?_
  intro W base args ds gs before hval hW _ _ _ _ _ _
  exact contract H enc W base args ds gs before hval hW
set_option maxRecDepth 100000 in
theorem said : Rows.LearnPoliciesSaid :=
  OpenClaim.holds_of_cond 4 Tryz.f4 rfl rfl rfl rfl rfl rfl rfl ⟨rfl, rfl, rfl, rfl, rfl⟩ rfl rfl rfl rfl rfl (by kernel_rfl) Tryz.func4 (by kernel_rfl)
    (of_decide_eq_true (by kernel_rfl)) (by unfold Func.isWrapper; first | (rw [if_pos (by decide +kernel)]; kernel_rfl) | (rw [if_neg (by decide +kernel)]; exact ⟨rfl, rfl⟩))
    (fun os started H enc _ F => by rw [OpenClaim.pre_eq_preRow]; exact lifted os started H enc F)
theorem plain (f : FuncId) (fn : Func) (hf : Tryz.pinned.checked.prog.funcNamed "strainer/strainerlaw26.LearnPolicies" = some f) (hfn : Tryz.pinned.checked.prog.funcs[f]? = some fn) :
    false = Tryz.pinned.checked.prog.looks [] ∧ ∀ (j : Nat) t, fn.params[j]? = some t → Tryz.pinned.checked.prog.wantsStandIn t = false := by
  obtain rfl : f = 4 := Option.some.inj ((show Tryz.prog.funcNamed "strainer/strainerlaw26.LearnPolicies" = some 4 by kernel_rfl).symm.trans hf) |>.symm
  obtain rfl : fn = Tryz.f4 := (Option.some.inj (Tryz.func4.symm.trans hfn)).symm
  refine ⟨by kernel_rfl, fun j t ht => ?_⟩
  rw [Tryz.params4] at ht
  obtain rfl : t = 46 := by simpa using Array.mem_of_getElem? ht
  exact (show Tryz.prog.wantsStandIn 46 = false by kernel_rfl)
theorem learnPolicies_holds : Rows.LearnPoliciesCardSaid :=
  Claim7.holds_tied_plain_at .later [] _ _ _ _ said (fun _ h => by cases h) (by kernel_rfl) (fun _ h => by cases h) learnPolicies_row_tie rfl ⟨rfl, rfl⟩ (by kernel_rfl) rfl plain (by kernel_rfl)
end Go.Proofs.YtibmfgeambbpaaaGreatDoor
