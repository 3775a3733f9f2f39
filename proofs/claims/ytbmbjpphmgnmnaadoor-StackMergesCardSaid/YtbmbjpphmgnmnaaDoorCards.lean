/-
  DERIVED. GIVEN WITH THE SEED: THE CARDS: each row of YtbmbjpphmgnmnaaDoorRows.lean that lists a variable, with what it lists TIED to the program's text (the seventh form; the later family's looks); each row that meets fmt, with fmt's text TOLD by the authors' own Lean function (tested against real Go, not proved from fmt's source: count such statements apart). THE CARD IS WHAT COUNTS. Prove the row's statement (the work); the ties are given (YtbmbjpphmgnmnaaDoorTie.lean); close each card by the builder's one call (the guide's Derived/Test/ToyasCard.lean, 'card_holds'). Laid BY PROGRAM, IN A SANDBOX (cutbox-door.mjs). By AI agents, Wed Nov 11 2026. No macro, syntax, notation, axiom, sorry.
-/
import Derived.Test.YtbmbjpphmgnmnaaDoorRows
import GoSem.ClaimSeven
namespace Go.Proofs.YtbmbjpphmgnmnaaDoor
namespace Rows

/-- THE TIED CARD OF 'strainerlaw25.StackMerges'. -/
def stackMergesCard : Claim7 := { stood := { row := stackMergesRow, standIns := [], harness := (true, "59c787e6b8f64a32a6a41aef9c0674b0fd03001aff169442c7876672a3982dc7"), looks := false }, kinds := [], alts := [], laidByText := true, laidKinds := [.data, .pinned], laidTests := true, laidLooks := .later }
def StackMergesCardSaid : Prop := Claim7.holds Tryd.pinned (.plain (OpenSpec.ofChange stackMergesSpec)) stackMergesCard

/-- THE SECOND FORM's CARD OF 'strainerlaw25.StackMerges'. -/
def stackMergesUptoCard : Claim7 := { stood := { row := stackMergesUptoRow, standIns := [], harness := (true, "59c787e6b8f64a32a6a41aef9c0674b0fd03001aff169442c7876672a3982dc7"), looks := false }, kinds := [], alts := [], laidByText := true, laidKinds := [.data, .pinned], laidTests := true, laidLooks := .later }
def StackMergesUptoCardSaid : Prop := Claim7.holds Tryd.pinned (.plain (OpenSpec.upto stackMergesSpec)) stackMergesUptoCard
end Rows
end Go.Proofs.YtbmbjpphmgnmnaaDoor
