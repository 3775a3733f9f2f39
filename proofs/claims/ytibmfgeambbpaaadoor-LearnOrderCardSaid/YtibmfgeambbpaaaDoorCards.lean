/-
  DERIVED. GIVEN WITH THE SEED: THE CARDS: each row of YtibmfgeambbpaaaDoorRows.lean that lists a variable, with what it lists TIED to the program's text (the seventh form; the later family's looks); each row that meets fmt, with fmt's text TOLD by the authors' own Lean function (tested against real Go, not proved from fmt's source: count such statements apart). THE CARD IS WHAT COUNTS. Prove the row's statement (the work); the ties are given (YtibmfgeambbpaaaDoorTie.lean); close each card by the builder's one call (the guide's Derived/Test/ToyasCard.lean, 'card_holds'). Laid BY PROGRAM, IN A SANDBOX (cutbox-door.mjs). By AI agents, Wed Nov 11 2026. No macro, syntax, notation, axiom, sorry.
-/
import Derived.Test.YtibmfgeambbpaaaDoorRows
import GoSem.ClaimSeven
namespace Go.Proofs.YtibmfgeambbpaaaDoor
namespace Rows

/-- THE TIED CARD OF 'strainerlaw26.LearnOrder'. -/
def learnOrderCard : Claim7 := { stood := { row := learnOrderRow, standIns := [], harness := (true, "61fdc10ebc24d4635dcba80faf0499f890d22bf64d3c65be0a571079209d0443"), looks := false }, kinds := [], alts := [], laidByText := true, laidKinds := [.data, .pinned], laidTests := true, laidLooks := .later }
def LearnOrderCardSaid : Prop := Claim7.holds Tryd.pinned (.plain (OpenSpec.ofChange learnOrderSpec)) learnOrderCard

/-- THE SECOND FORM's CARD OF 'strainerlaw26.LearnOrder'. -/
def learnOrderUptoCard : Claim7 := { stood := { row := learnOrderUptoRow, standIns := [], harness := (true, "61fdc10ebc24d4635dcba80faf0499f890d22bf64d3c65be0a571079209d0443"), looks := false }, kinds := [], alts := [], laidByText := true, laidKinds := [.data, .pinned], laidTests := true, laidLooks := .later }
def LearnOrderUptoCardSaid : Prop := Claim7.holds Tryd.pinned (.plain (OpenSpec.upto learnOrderSpec)) learnOrderUptoCard
end Rows
end Go.Proofs.YtibmfgeambbpaaaDoor
