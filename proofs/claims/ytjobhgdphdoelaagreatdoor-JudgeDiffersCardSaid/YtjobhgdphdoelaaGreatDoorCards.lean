/-
  DERIVED. GIVEN WITH THE SEED: THE CARDS: each row of YtjobhgdphdoelaaGreatDoorRows.lean that lists a variable, with what it lists TIED to the program's text (the seventh form; the later family's looks); each row that meets fmt, with fmt's text TOLD by the authors' own Lean function (tested against real Go, not proved from fmt's source: count such statements apart). THE CARD IS WHAT COUNTS. Prove the row's statement (the work); the ties are given (YtjobhgdphdoelaaGreatDoorTie.lean); close each card by the builder's one call (the guide's Derived/Test/ToyasCard.lean, 'card_holds'). Laid BY PROGRAM, IN A SANDBOX (cutbox-door.mjs). By AI agents, Wed Nov 11 2026. No macro, syntax, notation, axiom, sorry.
-/
import Derived.Test.YtjobhgdphdoelaaGreatDoorRows
import GoSem.ClaimSeven
namespace Go.Proofs.YtjobhgdphdoelaaGreatDoor
namespace Rows

/-- THE TIED CARD OF 'strainerlaw23.JudgeDiffers'. -/
def judgeDiffersCard : Claim7 := { stood := { row := judgeDiffersRow, standIns := [], harness := (true, "dee8baa38541bbf20a4e84d0141f9367461826e8398194fb2d3225d88118dae2"), looks := true }, kinds := [], alts := [], laidByText := true, laidKinds := [.data, .data, .data, .data, .sentinel, .sentinel, .pinned], laidTests := true, laidLooks := .later }
def JudgeDiffersCardSaid : Prop := Claim7.holds Tryz.pinned (.plain (OpenSpec.ofChange judgeDiffersSpec)) judgeDiffersCard

/-- THE SECOND FORM's CARD OF 'strainerlaw23.JudgeDiffers'. -/
def judgeDiffersUptoCard : Claim7 := { stood := { row := judgeDiffersUptoRow, standIns := [], harness := (true, "dee8baa38541bbf20a4e84d0141f9367461826e8398194fb2d3225d88118dae2"), looks := true }, kinds := [], alts := [], laidByText := true, laidKinds := [.data, .data, .data, .data, .sentinel, .sentinel, .pinned], laidTests := true, laidLooks := .later }
def JudgeDiffersUptoCardSaid : Prop := Claim7.holds Tryz.pinned (.plain (OpenSpec.upto judgeDiffersSpec)) judgeDiffersUptoCard
end Rows
end Go.Proofs.YtjobhgdphdoelaaGreatDoor
