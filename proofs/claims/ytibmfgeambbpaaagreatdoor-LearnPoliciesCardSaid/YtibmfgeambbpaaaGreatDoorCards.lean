/-
  DERIVED. GIVEN WITH THE SEED: THE CARDS: each row of YtibmfgeambbpaaaGreatDoorRows.lean that lists a variable, with what it lists TIED to the program's text (the seventh form; the later family's looks); each row that meets fmt, with fmt's text TOLD by the authors' own Lean function (tested against real Go, not proved from fmt's source: count such statements apart). THE CARD IS WHAT COUNTS. Prove the row's statement (the work); the ties are given (YtibmfgeambbpaaaGreatDoorTie.lean); close each card by the builder's one call (the guide's Derived/Test/ToyasCard.lean, 'card_holds'). Laid BY PROGRAM, IN A SANDBOX (cutbox-door.mjs). By AI agents, Wed Nov 11 2026. No macro, syntax, notation, axiom, sorry.
-/
import Derived.Test.YtibmfgeambbpaaaGreatDoorRows
import GoSem.ClaimSeven
namespace Go.Proofs.YtibmfgeambbpaaaGreatDoor
namespace Rows

/-- THE TIED CARD OF 'strainerlaw26.LearnCounts'. -/
def learnCountsCard : Claim7 := { stood := { row := learnCountsRow, standIns := [], harness := (true, "89f841e74384b8bd459be3b8691846092b44970344ed1612086352d4d1100c28"), looks := false }, kinds := [], alts := [], laidByText := true, laidKinds := [.data, .pinned], laidTests := true, laidLooks := .later }
def LearnCountsCardSaid : Prop := Claim7.holds Tryz.pinned (.plain (OpenSpec.ofChange learnCountsSpec)) learnCountsCard

/-- THE TIED CARD OF 'strainerlaw26.LearnPolicies'. -/
def learnPoliciesCard : Claim7 := { stood := { row := learnPoliciesRow, standIns := [], harness := (true, "89f841e74384b8bd459be3b8691846092b44970344ed1612086352d4d1100c28"), looks := false }, kinds := [], alts := [], laidByText := true, laidKinds := [.data, .pinned], laidTests := true, laidLooks := .later }
def LearnPoliciesCardSaid : Prop := Claim7.holds Tryz.pinned (.plain (OpenSpec.ofChange learnPoliciesSpec)) learnPoliciesCard

/-- THE SECOND FORM's CARD OF 'strainerlaw26.LearnCounts'. -/
def learnCountsUptoCard : Claim7 := { stood := { row := learnCountsUptoRow, standIns := [], harness := (true, "89f841e74384b8bd459be3b8691846092b44970344ed1612086352d4d1100c28"), looks := false }, kinds := [], alts := [], laidByText := true, laidKinds := [.data, .pinned], laidTests := true, laidLooks := .later }
def LearnCountsUptoCardSaid : Prop := Claim7.holds Tryz.pinned (.plain (OpenSpec.upto learnCountsSpec)) learnCountsUptoCard

/-- THE SECOND FORM's CARD OF 'strainerlaw26.LearnPolicies'. -/
def learnPoliciesUptoCard : Claim7 := { stood := { row := learnPoliciesUptoRow, standIns := [], harness := (true, "89f841e74384b8bd459be3b8691846092b44970344ed1612086352d4d1100c28"), looks := false }, kinds := [], alts := [], laidByText := true, laidKinds := [.data, .pinned], laidTests := true, laidLooks := .later }
def LearnPoliciesUptoCardSaid : Prop := Claim7.holds Tryz.pinned (.plain (OpenSpec.upto learnPoliciesSpec)) learnPoliciesUptoCard
end Rows
end Go.Proofs.YtibmfgeambbpaaaGreatDoor
