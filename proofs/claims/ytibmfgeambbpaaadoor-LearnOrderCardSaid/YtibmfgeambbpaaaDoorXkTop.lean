import Derived.Test.YtibmfgeambbpaaaDoorF
import Derived.Test.YtibmfgeambbpaaaDoorCards
import Derived.Test.YtibmfgeambbpaaaDoorTie
import Derived.OpenShut
import Derived.Deep.DeepHandedRow
import Derived.Lib.LaidTab
import Derived.Test.YtibmfgeambbpaaaDoorD
import Derived.ProofKit
set_option linter.unusedVariables false
set_option linter.unusedSimpArgs false
namespace Go.Proofs.YtibmfgeambbpaaaDoor
open Go.ChangeShapes Go.WideShapes Go.ChangeAt Go.RowKit Go.Vl Go.Proofs.W

theorem Tryd.own : ownKnob Tryd.prog.godebug = none := by kernel_rfl
theorem Tryd.laidOut : laidOutB Tryd.prog = true := by kernel_rfl
theorem covMapOn {P : Program} {d : Nat} {t : TypeId} {α β : Type} {e : α → AV} {e' : β → AV} {ok : α → Prop} {ok' : β → Prop} (h : Cov P d t e ok) (f : α → β) (he : ∀ x, ok x → e x = e' (f x)) (ho : ∀ x, ok x → ok' (f x)) : Cov P d t e' ok' :=
  ⟨fun cs hw => let ⟨x, h1, h2, h3⟩ := h.h cs hw; ⟨f x, ho x h1, by rw [← he x h1]; exact h2, by rw [← he x h1]; exact h3⟩⟩
theorem wf_u64 {n : Int} (h : (Lit.int .u64 n).wf = true) : 0 ≤ n ∧ n < 18446744073709551616 := by simp [Lit.wf, IntKind.min, IntKind.max, IntKind.signed, IntKind.bits] at h; omega
theorem wf_u32 {n : Int} (h : (Lit.int .u32 n).wf = true) : 0 ≤ n ∧ n < 4294967296 := by simp [Lit.wf, IntKind.min, IntKind.max, IntKind.signed, IntKind.bits] at h; omega
theorem cov_u64 {d : Nat} : Cov Tryd.prog (d + 1) 26 (fun n : Nat => u64 n) (fun n => n < 18446744073709551616) :=
  covMapOn (Cov.int (d := d) Tryd.underlying26) Int.toNat (fun n h => by have := wf_u64 h; show AV.v _ = AV.v _; rw [Int.toNat_of_nonneg (by omega)]) (fun n h => by have := wf_u64 h; omega)
theorem cov_u32 {d : Nat} : Cov Tryd.prog (d + 1) 25 (fun n : Nat => u32 n) (fun n => n < 4294967296) :=
  covMapOn (Cov.int (d := d) Tryd.underlying25) Int.toNat (fun n h => by have := wf_u32 h; show AV.v _ = AV.v _; rw [Int.toNat_of_nonneg (by omega)]) (fun n h => by have := wf_u32 h; omega)
theorem cov_row : Cov Tryd.prog 3 56 trowA (fun r => r.name.size ≤ maxLen) :=
  covMapOn (Cov.struct Tryd.underlying56 rfl (CovP.cons (Cov.str Tryd.underlying9) (CovP.cons (Cov.array Tryd.underlying54 (Cov.int (d := 0) Tryd.underlying3)) (CovP.cons (Cov.int Tryd.underlying3) (CovP.cons (Cov.int Tryd.underlying3) CovP.nil)))))
    (fun p : ByteArray × List Int × Int × Int × Unit => (⟨p.1, p.2.1.getD 0 0, p.2.1.getD 1 0, p.2.1.getD 2 0, p.2.1.getD 3 0, p.2.1.getD 4 0, p.2.2.1, p.2.2.2.1⟩ : TRow))
    (fun p h => by
      obtain ⟨s, l, m, u, _⟩ := p
      obtain ⟨_, ⟨hl, _⟩, _⟩ := h
      match l, hl with
      | [a, b, c, d, e], _ => rfl)
    (fun p h => h.1)
theorem cov_rec : Cov Tryd.prog 3 29 recA Rec.ok :=
  covMapOn (Cov.struct Tryd.underlying29 rfl (CovP.cons cov_u32 (CovP.cons cov_u32 (CovP.cons cov_u64 (CovP.cons (Cov.array Tryd.underlying27 cov_u64) CovP.nil)))))
    (fun p : Nat × Nat × Nat × List Nat × Unit => (⟨p.1, p.2.1, p.2.2.1, p.2.2.2.1.getD 0 0, p.2.2.2.1.getD 1 0, p.2.2.2.1.getD 2 0, p.2.2.2.1.getD 3 0, p.2.2.2.1.getD 4 0, p.2.2.2.1.getD 5 0⟩ : Rec))
    (fun p h => by
      obtain ⟨s, m, u, l, _⟩ := p
      obtain ⟨_, _, _, ⟨hl, _⟩, _⟩ := h
      match l, hl with
      | [a, b, c, d, e, f], _ => rfl)
    (fun p h => by
      obtain ⟨s, m, u, l, _⟩ := p
      obtain ⟨h1, h2, h3, ⟨hl, hx⟩, _⟩ := h
      match l, hl, hx with
      | [a, b, c, d, e, f], _, hx => exact ⟨h1, h2, h3, hx a (by simp), hx b (by simp), hx c (by simp), hx d (by simp), hx e (by simp), hx f (by simp)⟩)
theorem cells_row : Tryd.prog.cellsOf 56 = 8 := by kernel_rfl
theorem cells_rec : Tryd.prog.cellsOf 29 = 9 := by kernel_rfl
theorem cov_rows : Cov Tryd.prog 4 22 trows (fun l => l.length ≤ maxLen ∧ ∀ x ∈ l, x.name.size ≤ maxLen) := by
  have h := Cov.slice trow0 Tryd.underlying22 cov_row (fun _ => cells_row.symm)
  rw [cells_row] at h
  exact h
theorem cov_recs : Cov Tryd.prog 4 23 recs (fun l => l.length ≤ maxLen ∧ ∀ x ∈ l, x.ok) := by
  have h := Cov.slice rec0 Tryd.underlying23 cov_rec (fun _ => cells_rec.symm)
  rw [cells_rec] at h
  exact h
theorem cov_bool : Cov Tryd.prog 4 4 boolA (fun _ => True) := Cov.bool Tryd.underlying4
set_option maxRecDepth 100000 in
theorem contract (H : Type) (enc : TypeId × Value → H) (W : World) (base : Nat) (args : Array Value) (ds gs : List (DataW H)) (before : List MemPlace)
    (hval : ∀ (j : Nat) t v, Tryd.f3.params[j]? = some t → args[j]? = some v → Value.okWide Tryd.prog W .any base t v)
    (hW : DataW.Whole enc Tryd.prog Tryd.f3.params.toList Rows.learnOrderSpec.vars false W args.toList ds gs before) :
    Calls Tryd.prog 3 args W fun e W' => ∃ v, e = .returned v ∧ Rows.learnOrderSpec.post enc Tryd.prog Tryd.f3 false true false false W args v W' := by
  have hW' := hW
  obtain ⟨p, q, hA0, hV, rfl, hfz, hnd⟩ := hW
  have hA : DataW.TrodAll enc Tryd.prog W 0 (fun _ => true) true Tryd.f3.params.toList args.toList ds p := hA0
  refine (law_calls (f := 3) (fn := Tryd.f3) (d := 4) (by kernel_rfl) hval hA (wtyAll_three cov_rows cov_recs cov_bool fun a b c ha hb hc => pcall_of_tells (learnorder_law a b c ha.1 ha.2 hb.2))).mono fun e W' ⟨he, hb⟩ => ?_
  subst he
  exact ⟨_, rfl, law_post rfl rfl Tryd.underlying4 (fun ds hd => match ds, hd with | [a, b, c], _ => ⟨rfl, rfl, rfl⟩) hW' Tryd.laidOut (read_all (by kernel_rfl)) hb⟩
noncomputable def laidWorld (os : Os) : World :=
  let put (h : Array Obj) (g : Nat) (cs : Array Value) : Array Obj := h.modify g fun
    | .cells _ t frozen => .cells cs t frozen
    | o => o
  let w0 := World.holding Tryd.prog os ⟨#[], #[], []⟩
  { w0 with heap := put (put w0.heap 1 ((Go.Pinned.utf8FirstZ.map fun n : Nat => Value.int .u8 (n : Int)).toArray)) 2 (([128, 191, 160, 191, 128, 159, 144, 191, 128, 143] ++ List.replicate 22 (0 : Int)).map fun n => Value.int .u8 n).toArray }
set_option maxRecDepth 100000 in
theorem laid_met (os : Os) : laidMet Tryd.prog Rows.learnOrderRow.laid ((laidWorld os).forCall (fun _ _ => 0) ⟨#[], #[.slice none 0 0, .slice none 0 0, .bool false], []⟩).memory :=
  laidMet_of_run' 8 (by kernel_rfl) (by kernel_rfl)
theorem reads (os : Os) {H : Type} (enc : TypeId × Value → H) : ∃ places, DataW.whole enc Tryd.prog ((laidWorld os).forCall (fun _ _ => 0) ⟨#[], #[.slice none 0 0, .slice none 0 0, .bool false], []⟩).memory Tryd.f3.params.toList Rows.learnOrderSpec.vars false #[.slice none 0 0, .slice none 0 0, .bool false].toList 8 = some ([.nil, .nil, .lit (.bool false)], [], places) :=
  ⟨[], by kernel_rfl⟩
set_option maxRecDepth 100000 in
theorem lifted (os : Os) (started : os.Started) (H : Type) (enc : TypeId × Value → H) (F : Stop.Interp) :
    ReturnsInHanded {} Tryd.checked os 3 .any ((OpenSpec.ofChange Rows.learnOrderSpec).preRow enc Tryd.prog Tryd.f3 Rows.learnOrderRow.domain false Rows.learnOrderRow.laid) (((OpenSpec.ofChange Rows.learnOrderSpec).at F).post enc Tryd.prog Tryd.f3 false true false false) := by
  obtain ⟨places, hx⟩ := reads os enc
  refine returnsInHanded_of_row (C := Tryd.checked) (s := OpenSpec.ofChange Rows.learnOrderSpec) Tryd.own started (by kernel_rfl) Tryd.func3
    (witness_row_at (enc := enc) (C := Tryd.checked) false (laidWorld os) #[.slice none 0 0, .slice none 0 0, .bool false] rfl (by kernel_rfl) (by kernel_rfl) (by kernel_rfl)
      (OpenSpec.preRow_of_cond 8 hx (by kernel_rfl) (fun k hk => by cases hk) (by kernel_rfl) (laid_met os))) ?_
  intro W base args ds gs before hval hW _ _ _ _ _ _
  exact contract H enc W base args ds gs before hval hW
set_option maxRecDepth 100000 in
theorem said : Rows.LearnOrderSaid :=
  OpenClaim.holds_of_cond 3 Tryd.f3 rfl rfl rfl rfl rfl rfl rfl ⟨rfl, rfl, rfl, rfl, rfl⟩ rfl rfl rfl rfl rfl (by kernel_rfl) Tryd.func3 (by kernel_rfl)
    (of_decide_eq_true (by kernel_rfl)) (by unfold Func.isWrapper; first | (rw [if_pos (by decide +kernel)]; kernel_rfl) | (rw [if_neg (by decide +kernel)]; exact ⟨rfl, rfl⟩))
    (fun os started H enc _ F => by rw [OpenClaim.pre_eq_preRow]; exact lifted os started H enc F)
theorem plain (f : FuncId) (fn : Func) (hf : Tryd.pinned.checked.prog.funcNamed "strainer/strainerlaw26.LearnOrder" = some f) (hfn : Tryd.pinned.checked.prog.funcs[f]? = some fn) :
    false = Tryd.pinned.checked.prog.looks [] ∧ ∀ (j : Nat) t, fn.params[j]? = some t → Tryd.pinned.checked.prog.wantsStandIn t = false := by
  obtain rfl : f = 3 := Option.some.inj ((show Tryd.prog.funcNamed "strainer/strainerlaw26.LearnOrder" = some 3 by kernel_rfl).symm.trans hf) |>.symm
  obtain rfl : fn = Tryd.f3 := (Option.some.inj (Tryd.func3.symm.trans hfn)).symm
  refine ⟨by kernel_rfl, fun j t ht => ?_⟩
  rw [Tryd.params3] at ht
  have hm := Array.mem_of_getElem? ht
  simp only [List.mem_toArray, List.mem_cons, List.mem_nil_iff, or_false] at hm
  rcases hm with rfl | rfl | rfl
  · exact (show Tryd.prog.wantsStandIn 22 = false by kernel_rfl)
  · exact (show Tryd.prog.wantsStandIn 23 = false by kernel_rfl)
  · exact (show Tryd.prog.wantsStandIn 4 = false by kernel_rfl)
theorem learnOrder_holds : Rows.LearnOrderCardSaid :=
  Claim7.holds_tied_plain_at .later [] _ _ _ _ said (fun _ h => by cases h) (by kernel_rfl) (fun _ h => by cases h) learnOrder_row_tie rfl ⟨rfl, rfl⟩ (by kernel_rfl) rfl plain (by kernel_rfl)
end Go.Proofs.YtibmfgeambbpaaaDoor
