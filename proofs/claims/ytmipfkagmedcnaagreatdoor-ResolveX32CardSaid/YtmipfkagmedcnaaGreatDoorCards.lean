/-
  DERIVED. GIVEN WITH THE SEED: THE CARDS: each row of YtmipfkagmedcnaaGreatDoorRows.lean that lists a variable, with what it lists TIED to the program's text (the seventh form; the later family's looks); each row that meets fmt, with fmt's text TOLD by the authors' own Lean function (tested against real Go, not proved from fmt's source: count such statements apart). THE CARD IS WHAT COUNTS. Prove the row's statement (the work); the ties are given (YtmipfkagmedcnaaGreatDoorTie.lean); close each card by the builder's one call (the guide's Derived/Test/ToyasCard.lean, 'card_holds'). Laid BY PROGRAM, IN A SANDBOX (cutbox-door.mjs). By AI agents, Wed Nov 11 2026. No macro, syntax, notation, axiom, sorry.
-/
import Derived.Test.YtmipfkagmedcnaaGreatDoorRows
import GoSem.ClaimSeven
namespace Go.Proofs.YtmipfkagmedcnaaGreatDoor
namespace Rows

/-- THE TIED CARD OF 'strainerlaw20.GenJudges'. -/
def genJudgesCard : Claim7 := { stood := { row := genJudgesRow, standIns := [], harness := (true, "b4c87a89b615b0c84cec081d2d108317026dea89f13c424a6e69b0a10c46e69b"), looks := true }, kinds := [], alts := [], laidByText := true, laidKinds := [.data, .data, .data, .data, .pinned], laidTests := true, laidLooks := .later }
def GenJudgesCardSaid : Prop := Claim7.holds Tryz.pinned (.plain (OpenSpec.ofChange genJudgesSpec)) genJudgesCard

/-- THE TIED CARD OF 'strainerlaw20.GenAgain'. -/
def genAgainCard : Claim7 := { stood := { row := genAgainRow, standIns := [], harness := (true, "b4c87a89b615b0c84cec081d2d108317026dea89f13c424a6e69b0a10c46e69b"), looks := true }, kinds := [], alts := [], laidByText := true, laidKinds := [.data, .data, .data, .data, .pinned], laidTests := true, laidLooks := .later }
def GenAgainCardSaid : Prop := Claim7.holds Tryz.pinned (.plain (OpenSpec.ofChange genAgainSpec)) genAgainCard

/-- THE TIED CARD OF 'strainerlaw18.ResolvePlans'. -/
def resolvePlansCard : Claim7 := { stood := { row := resolvePlansRow, standIns := [], harness := (true, "b4c87a89b615b0c84cec081d2d108317026dea89f13c424a6e69b0a10c46e69b"), looks := true }, kinds := [], alts := [], laidByText := true, laidKinds := [.data, .data, .data, .data, .sentinel, .sentinel, .pinned], laidTests := true, laidLooks := .later }
def ResolvePlansCardSaid : Prop := Claim7.holds Tryz.pinned (.plain (OpenSpec.ofChange resolvePlansSpec)) resolvePlansCard

/-- THE TIED CARD OF 'strainerlaw18.ResolveX32'. -/
def resolveX32Card : Claim7 := { stood := { row := resolveX32Row, standIns := [], harness := (true, "b4c87a89b615b0c84cec081d2d108317026dea89f13c424a6e69b0a10c46e69b"), looks := true }, kinds := [], alts := [], laidByText := true, laidKinds := [.data, .data, .data, .data, .sentinel, .sentinel, .pinned], laidTests := true, laidLooks := .later }
def ResolveX32CardSaid : Prop := Claim7.holds Tryz.pinned (.plain (OpenSpec.ofChange resolveX32Spec)) resolveX32Card

/-- THE TIED CARD OF 'strainerlaw18.ResolveNarrows'. -/
def resolveNarrowsCard : Claim7 := { stood := { row := resolveNarrowsRow, standIns := [], harness := (true, "b4c87a89b615b0c84cec081d2d108317026dea89f13c424a6e69b0a10c46e69b"), looks := true }, kinds := [], alts := [], laidByText := true, laidKinds := [.data, .data, .data, .data, .sentinel, .sentinel, .pinned], laidTests := true, laidLooks := .later }
def ResolveNarrowsCardSaid : Prop := Claim7.holds Tryz.pinned (.plain (OpenSpec.ofChange resolveNarrowsSpec)) resolveNarrowsCard

/-- THE TIED CARD OF 'strainerlaw18.ResolveJudges'. -/
def resolveJudgesCard : Claim7 := { stood := { row := resolveJudgesRow, standIns := [], harness := (true, "b4c87a89b615b0c84cec081d2d108317026dea89f13c424a6e69b0a10c46e69b"), looks := true }, kinds := [], alts := [], laidByText := true, laidKinds := [.data, .data, .data, .data, .sentinel, .sentinel, .pinned], laidTests := true, laidLooks := .later }
def ResolveJudgesCardSaid : Prop := Claim7.holds Tryz.pinned (.plain (OpenSpec.ofChange resolveJudgesSpec)) resolveJudgesCard

/-- THE TIED CARD OF 'strainerlaw18.ResolveSame'. -/
def resolveSameCard : Claim7 := { stood := { row := resolveSameRow, standIns := [], harness := (true, "b4c87a89b615b0c84cec081d2d108317026dea89f13c424a6e69b0a10c46e69b"), looks := true }, kinds := [], alts := [], laidByText := true, laidKinds := [.data, .data, .data, .data, .sentinel, .sentinel, .pinned], laidTests := true, laidLooks := .later }
def ResolveSameCardSaid : Prop := Claim7.holds Tryz.pinned (.plain (OpenSpec.ofChange resolveSameSpec)) resolveSameCard

/-- THE SECOND FORM's CARD OF 'strainerlaw20.GenJudges'. -/
def genJudgesUptoCard : Claim7 := { stood := { row := genJudgesUptoRow, standIns := [], harness := (true, "b4c87a89b615b0c84cec081d2d108317026dea89f13c424a6e69b0a10c46e69b"), looks := true }, kinds := [], alts := [], laidByText := true, laidKinds := [.data, .data, .data, .data, .pinned], laidTests := true, laidLooks := .later }
def GenJudgesUptoCardSaid : Prop := Claim7.holds Tryz.pinned (.plain (OpenSpec.upto genJudgesSpec)) genJudgesUptoCard

/-- THE SECOND FORM's CARD OF 'strainerlaw20.GenAgain'. -/
def genAgainUptoCard : Claim7 := { stood := { row := genAgainUptoRow, standIns := [], harness := (true, "b4c87a89b615b0c84cec081d2d108317026dea89f13c424a6e69b0a10c46e69b"), looks := true }, kinds := [], alts := [], laidByText := true, laidKinds := [.data, .data, .data, .data, .pinned], laidTests := true, laidLooks := .later }
def GenAgainUptoCardSaid : Prop := Claim7.holds Tryz.pinned (.plain (OpenSpec.upto genAgainSpec)) genAgainUptoCard

/-- THE SECOND FORM's CARD OF 'strainerlaw18.ResolvePlans'. -/
def resolvePlansUptoCard : Claim7 := { stood := { row := resolvePlansUptoRow, standIns := [], harness := (true, "b4c87a89b615b0c84cec081d2d108317026dea89f13c424a6e69b0a10c46e69b"), looks := true }, kinds := [], alts := [], laidByText := true, laidKinds := [.data, .data, .data, .data, .sentinel, .sentinel, .pinned], laidTests := true, laidLooks := .later }
def ResolvePlansUptoCardSaid : Prop := Claim7.holds Tryz.pinned (.plain (OpenSpec.upto resolvePlansSpec)) resolvePlansUptoCard

/-- THE SECOND FORM's CARD OF 'strainerlaw18.ResolveX32'. -/
def resolveX32UptoCard : Claim7 := { stood := { row := resolveX32UptoRow, standIns := [], harness := (true, "b4c87a89b615b0c84cec081d2d108317026dea89f13c424a6e69b0a10c46e69b"), looks := true }, kinds := [], alts := [], laidByText := true, laidKinds := [.data, .data, .data, .data, .sentinel, .sentinel, .pinned], laidTests := true, laidLooks := .later }
def ResolveX32UptoCardSaid : Prop := Claim7.holds Tryz.pinned (.plain (OpenSpec.upto resolveX32Spec)) resolveX32UptoCard

/-- THE SECOND FORM's CARD OF 'strainerlaw18.ResolveNarrows'. -/
def resolveNarrowsUptoCard : Claim7 := { stood := { row := resolveNarrowsUptoRow, standIns := [], harness := (true, "b4c87a89b615b0c84cec081d2d108317026dea89f13c424a6e69b0a10c46e69b"), looks := true }, kinds := [], alts := [], laidByText := true, laidKinds := [.data, .data, .data, .data, .sentinel, .sentinel, .pinned], laidTests := true, laidLooks := .later }
def ResolveNarrowsUptoCardSaid : Prop := Claim7.holds Tryz.pinned (.plain (OpenSpec.upto resolveNarrowsSpec)) resolveNarrowsUptoCard

/-- THE SECOND FORM's CARD OF 'strainerlaw18.ResolveJudges'. -/
def resolveJudgesUptoCard : Claim7 := { stood := { row := resolveJudgesUptoRow, standIns := [], harness := (true, "b4c87a89b615b0c84cec081d2d108317026dea89f13c424a6e69b0a10c46e69b"), looks := true }, kinds := [], alts := [], laidByText := true, laidKinds := [.data, .data, .data, .data, .sentinel, .sentinel, .pinned], laidTests := true, laidLooks := .later }
def ResolveJudgesUptoCardSaid : Prop := Claim7.holds Tryz.pinned (.plain (OpenSpec.upto resolveJudgesSpec)) resolveJudgesUptoCard

/-- THE SECOND FORM's CARD OF 'strainerlaw18.ResolveSame'. -/
def resolveSameUptoCard : Claim7 := { stood := { row := resolveSameUptoRow, standIns := [], harness := (true, "b4c87a89b615b0c84cec081d2d108317026dea89f13c424a6e69b0a10c46e69b"), looks := true }, kinds := [], alts := [], laidByText := true, laidKinds := [.data, .data, .data, .data, .sentinel, .sentinel, .pinned], laidTests := true, laidLooks := .later }
def ResolveSameUptoCardSaid : Prop := Claim7.holds Tryz.pinned (.plain (OpenSpec.upto resolveSameSpec)) resolveSameUptoCard
end Rows
end Go.Proofs.YtmipfkagmedcnaaGreatDoor
