/-
  DERIVED. GIVEN WITH THE SEED: THE CARDS: each row of YtcjnjlgjnobplaaGreatDoorRows.lean that lists a variable, with what it lists TIED to the program's text (the seventh form; the later family's looks); each row that meets fmt, with fmt's text TOLD by the authors' own Lean function (tested against real Go, not proved from fmt's source: count such statements apart). THE CARD IS WHAT COUNTS. Prove the row's statement (the work); the ties are given (YtcjnjlgjnobplaaGreatDoorTie.lean); close each card by the builder's one call (the guide's Derived/Test/ToyasCard.lean, 'card_holds'). Laid BY PROGRAM, IN A SANDBOX (cutbox-door.mjs). By AI agents, Wed Nov 11 2026. No macro, syntax, notation, axiom, sorry.
-/
import Derived.Test.YtcjnjlgjnobplaaGreatDoorRows
import GoSem.ClaimSeven
namespace Go.Proofs.YtcjnjlgjnobplaaGreatDoor
namespace Rows

/-- THE TIED CARD OF 'strainerlaw15.ValidTells'. -/
def validTellsCard : Claim7 := { stood := { row := validTellsRow, standIns := [], harness := (true, "428e9da8eade3ab343dc728fc21bf07c6487caf40d93bac4c8725daa9e560dda"), looks := false }, kinds := [], alts := [], laidByText := true, laidKinds := [.data, .data, .data, .data, .pinned], laidTests := true, laidLooks := .later }
def ValidTellsCardSaid : Prop := Claim7.holds Tryz.pinned (.plain (OpenSpec.ofChange validTellsSpec)) validTellsCard

/-- THE TIED CARD OF 'strainerlaw15.ValidLess'. -/
def validLessCard : Claim7 := { stood := { row := validLessRow, standIns := [], harness := (true, "428e9da8eade3ab343dc728fc21bf07c6487caf40d93bac4c8725daa9e560dda"), looks := false }, kinds := [], alts := [], laidByText := true, laidKinds := [.data, .data, .data, .data, .pinned], laidTests := true, laidLooks := .later }
def ValidLessCardSaid : Prop := Claim7.holds Tryz.pinned (.plain (OpenSpec.ofChange validLessSpec)) validLessCard

/-- THE TIED CARD OF 'strainerlaw15.ValidTurned'. -/
def validTurnedCard : Claim7 := { stood := { row := validTurnedRow, standIns := [], harness := (true, "428e9da8eade3ab343dc728fc21bf07c6487caf40d93bac4c8725daa9e560dda"), looks := false }, kinds := [], alts := [], laidByText := true, laidKinds := [.data, .data, .data, .data, .pinned], laidTests := true, laidLooks := .later }
def ValidTurnedCardSaid : Prop := Claim7.holds Tryz.pinned (.plain (OpenSpec.ofChange validTurnedSpec)) validTurnedCard

/-- THE TIED CARD OF 'strainerlaw15.ValidMore'. -/
def validMoreCard : Claim7 := { stood := { row := validMoreRow, standIns := [], harness := (true, "428e9da8eade3ab343dc728fc21bf07c6487caf40d93bac4c8725daa9e560dda"), looks := false }, kinds := [], alts := [], laidByText := true, laidKinds := [.data, .data, .data, .data, .pinned], laidTests := true, laidLooks := .later }
def ValidMoreCardSaid : Prop := Claim7.holds Tryz.pinned (.plain (OpenSpec.ofChange validMoreSpec)) validMoreCard

/-- THE SECOND FORM's CARD OF 'strainerlaw15.ValidTells'. -/
def validTellsUptoCard : Claim7 := { stood := { row := validTellsUptoRow, standIns := [], harness := (true, "428e9da8eade3ab343dc728fc21bf07c6487caf40d93bac4c8725daa9e560dda"), looks := false }, kinds := [], alts := [], laidByText := true, laidKinds := [.data, .data, .data, .data, .pinned], laidTests := true, laidLooks := .later }
def ValidTellsUptoCardSaid : Prop := Claim7.holds Tryz.pinned (.plain (OpenSpec.upto validTellsSpec)) validTellsUptoCard

/-- THE SECOND FORM's CARD OF 'strainerlaw15.ValidLess'. -/
def validLessUptoCard : Claim7 := { stood := { row := validLessUptoRow, standIns := [], harness := (true, "428e9da8eade3ab343dc728fc21bf07c6487caf40d93bac4c8725daa9e560dda"), looks := false }, kinds := [], alts := [], laidByText := true, laidKinds := [.data, .data, .data, .data, .pinned], laidTests := true, laidLooks := .later }
def ValidLessUptoCardSaid : Prop := Claim7.holds Tryz.pinned (.plain (OpenSpec.upto validLessSpec)) validLessUptoCard

/-- THE SECOND FORM's CARD OF 'strainerlaw15.ValidTurned'. -/
def validTurnedUptoCard : Claim7 := { stood := { row := validTurnedUptoRow, standIns := [], harness := (true, "428e9da8eade3ab343dc728fc21bf07c6487caf40d93bac4c8725daa9e560dda"), looks := false }, kinds := [], alts := [], laidByText := true, laidKinds := [.data, .data, .data, .data, .pinned], laidTests := true, laidLooks := .later }
def ValidTurnedUptoCardSaid : Prop := Claim7.holds Tryz.pinned (.plain (OpenSpec.upto validTurnedSpec)) validTurnedUptoCard

/-- THE SECOND FORM's CARD OF 'strainerlaw15.ValidMore'. -/
def validMoreUptoCard : Claim7 := { stood := { row := validMoreUptoRow, standIns := [], harness := (true, "428e9da8eade3ab343dc728fc21bf07c6487caf40d93bac4c8725daa9e560dda"), looks := false }, kinds := [], alts := [], laidByText := true, laidKinds := [.data, .data, .data, .data, .pinned], laidTests := true, laidLooks := .later }
def ValidMoreUptoCardSaid : Prop := Claim7.holds Tryz.pinned (.plain (OpenSpec.upto validMoreSpec)) validMoreUptoCard
end Rows
end Go.Proofs.YtcjnjlgjnobplaaGreatDoor
