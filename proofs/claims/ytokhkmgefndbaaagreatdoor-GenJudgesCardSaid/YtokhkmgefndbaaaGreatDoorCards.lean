/-
  DERIVED. GIVEN WITH THE SEED: THE CARDS: each row of YtokhkmgefndbaaaGreatDoorRows.lean that lists a variable, with what it lists TIED to the program's text (the seventh form; the later family's looks); each row that meets fmt, with fmt's text TOLD by the authors' own Lean function (tested against real Go, not proved from fmt's source: count such statements apart). THE CARD IS WHAT COUNTS. Prove the row's statement (the work); the ties are given (YtokhkmgefndbaaaGreatDoorTie.lean); close each card by the builder's one call (the guide's Derived/Test/ToyasCard.lean, 'card_holds'). Laid BY PROGRAM, IN A SANDBOX (cutbox-door.mjs). By AI agents, Wed Nov 11 2026. No macro, syntax, notation, axiom, sorry.
-/
import Derived.Test.YtokhkmgefndbaaaGreatDoorRows
import GoSem.ClaimSeven
namespace Go.Proofs.YtokhkmgefndbaaaGreatDoor
namespace Rows

/-- THE TIED CARD OF 'strainerlaw20.GenJudges'. -/
def genJudgesCard : Claim7 := { stood := { row := genJudgesRow, standIns := [], harness := (true, "b3eafed30e0a76ced4590534a9d7361ff977f5c0cae99753c73f0617e5b0586f"), looks := false }, kinds := [], alts := [], laidByText := true, laidKinds := [.data, .data, .data, .data, .pinned], laidTests := true, laidLooks := .later }
def GenJudgesCardSaid : Prop := Claim7.holds Tryz.pinned (.plain (OpenSpec.ofChange genJudgesSpec)) genJudgesCard

/-- THE TIED CARD OF 'strainerlaw20.GenAgain'. -/
def genAgainCard : Claim7 := { stood := { row := genAgainRow, standIns := [], harness := (true, "b3eafed30e0a76ced4590534a9d7361ff977f5c0cae99753c73f0617e5b0586f"), looks := false }, kinds := [], alts := [], laidByText := true, laidKinds := [.data, .data, .data, .data, .pinned], laidTests := true, laidLooks := .later }
def GenAgainCardSaid : Prop := Claim7.holds Tryz.pinned (.plain (OpenSpec.ofChange genAgainSpec)) genAgainCard

/-- THE SECOND FORM's CARD OF 'strainerlaw20.GenJudges'. -/
def genJudgesUptoCard : Claim7 := { stood := { row := genJudgesUptoRow, standIns := [], harness := (true, "b3eafed30e0a76ced4590534a9d7361ff977f5c0cae99753c73f0617e5b0586f"), looks := false }, kinds := [], alts := [], laidByText := true, laidKinds := [.data, .data, .data, .data, .pinned], laidTests := true, laidLooks := .later }
def GenJudgesUptoCardSaid : Prop := Claim7.holds Tryz.pinned (.plain (OpenSpec.upto genJudgesSpec)) genJudgesUptoCard

/-- THE SECOND FORM's CARD OF 'strainerlaw20.GenAgain'. -/
def genAgainUptoCard : Claim7 := { stood := { row := genAgainUptoRow, standIns := [], harness := (true, "b3eafed30e0a76ced4590534a9d7361ff977f5c0cae99753c73f0617e5b0586f"), looks := false }, kinds := [], alts := [], laidByText := true, laidKinds := [.data, .data, .data, .data, .pinned], laidTests := true, laidLooks := .later }
def GenAgainUptoCardSaid : Prop := Claim7.holds Tryz.pinned (.plain (OpenSpec.upto genAgainSpec)) genAgainUptoCard
end Rows
end Go.Proofs.YtokhkmgefndbaaaGreatDoor
