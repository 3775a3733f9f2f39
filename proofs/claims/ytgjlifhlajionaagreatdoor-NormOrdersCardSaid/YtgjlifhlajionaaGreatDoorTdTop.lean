import Derived.Test.YtgjlifhlajionaaGreatDoorF
import Derived.Test.YtgjlifhlajionaaGreatDoorCards
import Derived.Test.YtgjlifhlajionaaGreatDoorTie
import Derived.OpenShut
import Derived.Deep.DeepHandedRow
import Derived.Lib.LaidTab
import Derived.Test.YtgjlifhlajionaaGreatDoorD
import Derived.ProofKit
set_option linter.unusedVariables false
set_option linter.unusedSimpArgs false
namespace Go.Proofs.YtgjlifhlajionaaGreatDoor
open Go.ChangeShapes Go.WideShapes Go.ChangeAt Go.RowKit Go.Vl Go.Proofs.W

theorem Tryz.own : ownKnob Tryz.prog.godebug = none := by kernel_rfl
theorem Tryz.laidOut : laidOutB Tryz.prog = true := by kernel_rfl
theorem covMapOn {P : Program} {d : Nat} {t : TypeId} {α β : Type} {e : α → AV} {e' : β → AV} {ok : α → Prop} {ok' : β → Prop} (h : Cov P d t e ok) (f : α → β) (he : ∀ x, ok x → e x = e' (f x)) (ho : ∀ x, ok x → ok' (f x)) : Cov P d t e' ok' :=
  ⟨fun cs hw => let ⟨x, h1, h2, h3⟩ := h.h cs hw; ⟨f x, ho x h1, by rw [← he x h1]; exact h2, by rw [← he x h1]; exact h3⟩⟩
theorem wf_u64 {n : Int} (h : (Lit.int .u64 n).wf = true) : 0 ≤ n ∧ n < 18446744073709551616 := by simp [Lit.wf, IntKind.min, IntKind.max, IntKind.signed, IntKind.bits] at h; omega
theorem cov_cnd : Cov Tryz.prog 3 70 cndA Cnd.ok :=
  covMapOn (Cov.struct Tryz.underlying70 rfl (CovP.cons (Cov.int Tryz.underlying3) (CovP.cons (Cov.int Tryz.underlying3) (CovP.cons (Cov.int Tryz.underlying49) (CovP.cons (Cov.int Tryz.underlying49) CovP.nil)))))
    (fun p : Int × Int × Int × Int × Unit => (⟨p.1, p.2.1, p.2.2.1.toNat, p.2.2.2.1.toNat⟩ : Cnd))
    (fun p h => by
      obtain ⟨a, b, c, d, _⟩ := p
      obtain ⟨h1, h2, h3, h4, _⟩ := h
      have g3 : 0 ≤ c ∧ c < 18446744073709551616 := wf_u64 h3; have g4 : 0 ≤ d ∧ d < 18446744073709551616 := wf_u64 h4
      show AV.ag [.v (.int .i64 a), .v (.int .i64 b), .v (.int .u64 c), .v (.int .u64 d)] = AV.ag [.v (.int .i64 a), .v (.int .i64 b), .v (.int .u64 (c.toNat : Int)), .v (.int .u64 (d.toNat : Int))]
      rw [Int.toNat_of_nonneg (by omega), Int.toNat_of_nonneg (by omega)])
    (fun p h => by
      obtain ⟨a, b, c, d, _⟩ := p
      obtain ⟨h1, h2, h3, h4, _⟩ := h
      have g3 : 0 ≤ c ∧ c < 18446744073709551616 := wf_u64 h3; have g4 : 0 ≤ d ∧ d < 18446744073709551616 := wf_u64 h4
      exact ⟨by dsimp only; omega, by dsimp only; omega⟩)
theorem cells_cnd : Tryz.prog.cellsOf 70 = 4 := by kernel_rfl
theorem cov_cnds : Cov Tryz.prog 4 63 cnds (fun l => l.length ≤ maxLen ∧ ∀ x ∈ l, x.ok) := by
  have h := Cov.slice cnd0 Tryz.underlying63 cov_cnd (fun _ => cells_cnd.symm)
  rw [cells_cnd] at h
  exact h
theorem cov_act {d : Nat} : Cov Tryz.prog (d + 2) 23 actP (fun _ => True) :=
  covMapOn (Cov.struct Tryz.underlying23 rfl (CovP.cons (Cov.int Tryz.underlying3) (CovP.cons (Cov.int Tryz.underlying3) CovP.nil)))
    (fun p : Int × Int × Unit => (p.1, p.2.1)) (fun p h => rfl) (fun p h => trivial)
theorem cov_rul : Cov Tryz.prog 5 65 rulA Rul.ok :=
  covMapOn (Cov.struct Tryz.underlying65 rfl (CovP.cons (Cov.str Tryz.underlying9) (CovP.cons cov_act (CovP.cons cov_cnds CovP.nil))))
    (fun p : ByteArray × A2 × List Cnd × Unit => (⟨p.1, p.2.1, p.2.2.1⟩ : Rul)) (fun p h => rfl) (fun p h => ⟨h.1, h.2.2.1.1, h.2.2.1.2⟩)
theorem cells_rul : Tryz.prog.cellsOf 65 = 4 := by kernel_rfl
theorem cov_ruls : Cov Tryz.prog 6 24 ruls (fun l => l.length ≤ maxLen ∧ ∀ x ∈ l, x.ok) := by
  have h := Cov.slice rul0 Tryz.underlying24 cov_rul (fun _ => cells_rul.symm)
  rw [cells_rul] at h
  exact h
theorem cov_pol : Cov Tryz.prog 7 26 polA Pol.ok :=
  covMapOn (Cov.struct Tryz.underlying26 rfl (CovP.cons cov_act (CovP.cons (Cov.bool Tryz.underlying4) (CovP.cons cov_ruls CovP.nil))))
    (fun p : A2 × Bool × List Rul × Unit => (⟨p.1, p.2.1, p.2.2.1⟩ : Pol)) (fun p h => rfl) (fun p h => h.2.2.1)
theorem cov_str : Cov Tryz.prog 7 9 strA (fun s => s.size ≤ maxLen) := Cov.str Tryz.underlying9
set_option maxRecDepth 100000 in
theorem contract (H : Type) (enc : TypeId × Value → H) (W : World) (base : Nat) (args : Array Value) (ds gs : List (DataW H)) (before : List MemPlace)
    (hval : ∀ (j : Nat) t v, Tryz.f9.params[j]? = some t → args[j]? = some v → Value.okWide Tryz.prog W .any base t v)
    (hW : DataW.Whole enc Tryz.prog Tryz.f9.params.toList Rows.normOrdersSpec.vars false W args.toList ds gs before) :
    Calls Tryz.prog 9 args W fun e W' => ∃ v, e = .returned v ∧ Rows.normOrdersSpec.post enc Tryz.prog Tryz.f9 false true false false W args v W' := by
  have hW' := hW
  obtain ⟨p, q, hA0, hV, rfl, hfz, hnd⟩ := hW
  have hA : DataW.TrodAll enc Tryz.prog W 0 (fun _ => true) true Tryz.f9.params.toList args.toList ds p := hA0
  refine (law_calls (f := 9) (fn := Tryz.f9) (d := 7) (by kernel_rfl) hval hA (wtyAll_two cov_pol cov_str fun a b ha hb => pcall_of_tells (normorders_law a b ha hb))).mono fun e W' ⟨he, hb⟩ => ?_
  subst he
  exact ⟨_, rfl, law_post rfl rfl Tryz.underlying4 (fun ds hd => match ds, hd with | [a, b], _ => ⟨rfl, rfl, rfl⟩) hW' Tryz.laidOut (read_all (by kernel_rfl)) hb⟩
noncomputable def laidWorld (os : Os) : World :=
  let put (h : Array Obj) (g : Nat) (cs : Array Value) : Array Obj := h.modify g fun
    | .cells _ t frozen => .cells cs t frozen
    | o => o
  let w0 := World.holding Tryz.prog os ⟨#[], #[], []⟩
  { w0 with heap := put (put w0.heap 1 ((Go.Pinned.utf8FirstZ.map fun n : Nat => Value.int .u8 (n : Int)).toArray)) 2 (([128, 191, 160, 191, 128, 159, 144, 191, 128, 143] ++ List.replicate 22 (0 : Int)).map fun n => Value.int .u8 n).toArray }
noncomputable def zeroPol : Value := .agg #[.int .i64 0, .int .i64 0, .bool false, .slice none 0 0]
set_option maxRecDepth 100000 in
theorem laid_met (os : Os) : laidMet Tryz.prog Rows.normOrdersRow.laid ((laidWorld os).forCall (fun _ _ => 0) ⟨#[], #[zeroPol, .string ⟨#[]⟩], []⟩).memory :=
  laidMet_of_run' 8 (by kernel_rfl) (by kernel_rfl)
theorem reads (os : Os) {H : Type} (enc : TypeId × Value → H) : ∃ places, DataW.whole enc Tryz.prog ((laidWorld os).forCall (fun _ _ => 0) ⟨#[], #[zeroPol, .string ⟨#[]⟩], []⟩).memory Tryz.f9.params.toList Rows.normOrdersSpec.vars false #[zeroPol, .string ⟨#[]⟩].toList 8 = some ([.agg [.agg [.lit (.int .i64 0), .lit (.int .i64 0)], .lit (.bool false), .nil], .lit (.string [])], [], places) :=
  ⟨[], by kernel_rfl⟩
set_option maxRecDepth 100000 in
theorem lifted (os : Os) (started : os.Started) (H : Type) (enc : TypeId × Value → H) (F : Stop.Interp) :
    ReturnsInHanded {} Tryz.checked os 9 .any ((OpenSpec.ofChange Rows.normOrdersSpec).preRow enc Tryz.prog Tryz.f9 Rows.normOrdersRow.domain false Rows.normOrdersRow.laid) (((OpenSpec.ofChange Rows.normOrdersSpec).at F).post enc Tryz.prog Tryz.f9 false true false false) := by
  obtain ⟨places, hx⟩ := reads os enc
  refine returnsInHanded_of_row (C := Tryz.checked) (s := OpenSpec.ofChange Rows.normOrdersSpec) Tryz.own started (by kernel_rfl) Tryz.func9
    (witness_row_at (enc := enc) (C := Tryz.checked) false (laidWorld os) #[zeroPol, .string ⟨#[]⟩] rfl (by kernel_rfl) (by kernel_rfl) (by kernel_rfl)
      (OpenSpec.preRow_of_cond 8 hx (by kernel_rfl) (fun k hk => by cases hk) (by kernel_rfl) (laid_met os))) ?_
  intro W base args ds gs before hval hW _ _ _ _ _ _
  exact contract H enc W base args ds gs before hval hW
set_option maxRecDepth 100000 in
theorem said : Rows.NormOrdersSaid :=
  OpenClaim.holds_of_cond 9 Tryz.f9 rfl rfl rfl rfl rfl rfl rfl ⟨rfl, rfl, rfl, rfl, rfl⟩ rfl rfl rfl rfl rfl (by kernel_rfl) Tryz.func9 (by kernel_rfl)
    (of_decide_eq_true (by kernel_rfl)) (by unfold Func.isWrapper; first | (rw [if_pos (by decide +kernel)]; kernel_rfl) | (rw [if_neg (by decide +kernel)]; exact ⟨rfl, rfl⟩))
    (fun os started H enc _ F => by rw [OpenClaim.pre_eq_preRow]; exact lifted os started H enc F)
theorem plain (f : FuncId) (fn : Func) (hf : Tryz.pinned.checked.prog.funcNamed "strainer/strainerlaw16.NormOrders" = some f) (hfn : Tryz.pinned.checked.prog.funcs[f]? = some fn) :
    false = Tryz.pinned.checked.prog.looks [] ∧ ∀ (j : Nat) t, fn.params[j]? = some t → Tryz.pinned.checked.prog.wantsStandIn t = false := by
  obtain rfl : f = 9 := Option.some.inj ((show Tryz.prog.funcNamed "strainer/strainerlaw16.NormOrders" = some 9 by kernel_rfl).symm.trans hf) |>.symm
  obtain rfl : fn = Tryz.f9 := (Option.some.inj (Tryz.func9.symm.trans hfn)).symm
  refine ⟨by kernel_rfl, fun j t ht => ?_⟩
  rw [Tryz.params9] at ht
  have hm := Array.mem_of_getElem? ht
  simp only [List.mem_toArray, List.mem_cons, List.mem_nil_iff, or_false] at hm
  rcases hm with rfl | rfl
  · exact (show Tryz.prog.wantsStandIn 26 = false by kernel_rfl)
  · exact (show Tryz.prog.wantsStandIn 9 = false by kernel_rfl)
theorem normOrders_holds : Rows.NormOrdersCardSaid :=
  Claim7.holds_tied_plain_at .later [] _ _ _ _ said (fun _ h => by cases h) (by kernel_rfl) (fun _ h => by cases h) normOrders_row_tie rfl ⟨rfl, rfl⟩ (by kernel_rfl) rfl plain (by kernel_rfl)
end Go.Proofs.YtgjlifhlajionaaGreatDoor
