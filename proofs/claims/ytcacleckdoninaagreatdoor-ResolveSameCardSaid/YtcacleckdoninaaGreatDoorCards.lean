/-
  DERIVED. GIVEN WITH THE SEED: THE CARDS: each row of YtcacleckdoninaaGreatDoorRows.lean that lists a variable, with what it lists TIED to the program's text (the seventh form; the later family's looks); each row that meets fmt, with fmt's text TOLD by the authors' own Lean function (tested against real Go, not proved from fmt's source: count such statements apart). THE CARD IS WHAT COUNTS. Prove the row's statement (the work); the ties are given (YtcacleckdoninaaGreatDoorTie.lean); close each card by the builder's one call (the guide's Derived/Test/ToyasCard.lean, 'card_holds'). Laid BY PROGRAM, IN A SANDBOX (cutbox-door.mjs). By AI agents, Wed Nov 11 2026. No macro, syntax, notation, axiom, sorry.
-/
import Derived.Test.YtcacleckdoninaaGreatDoorRows
import GoSem.ClaimSeven
namespace Go.Proofs.YtcacleckdoninaaGreatDoor
namespace Rows

/-- THE TIED CARD OF 'strainerlaw18.ResolveSame'. -/
def resolveSameCard : Claim7 := { stood := { row := resolveSameRow, standIns := [], harness := (true, "6d7566c8eb1c01231f87b82f5a4fd4046ac007cc14f9358545d7d10c85a51039"), looks := true }, kinds := [], alts := [], laidByText := true, laidKinds := [.data, .data, .data, .data, .sentinel, .sentinel, .pinned], laidTests := true, laidLooks := .later }
def ResolveSameCardSaid : Prop := Claim7.holds Tryz.pinned (.plain (OpenSpec.ofChange resolveSameSpec)) resolveSameCard

/-- THE SECOND FORM's CARD OF 'strainerlaw18.ResolveSame'. -/
def resolveSameUptoCard : Claim7 := { stood := { row := resolveSameUptoRow, standIns := [], harness := (true, "6d7566c8eb1c01231f87b82f5a4fd4046ac007cc14f9358545d7d10c85a51039"), looks := true }, kinds := [], alts := [], laidByText := true, laidKinds := [.data, .data, .data, .data, .sentinel, .sentinel, .pinned], laidTests := true, laidLooks := .later }
def ResolveSameUptoCardSaid : Prop := Claim7.holds Tryz.pinned (.plain (OpenSpec.upto resolveSameSpec)) resolveSameUptoCard
end Rows
end Go.Proofs.YtcacleckdoninaaGreatDoor
