/-
  DERIVED. GIVEN WITH THE SEED: THE CARDS: each row of YtghikejaadkalaaGreatDoorRows.lean that lists a variable, with what it lists TIED to the program's text (the seventh form; the later family's looks); each row that meets fmt, with fmt's text TOLD by the authors' own Lean function (tested against real Go, not proved from fmt's source: count such statements apart). THE CARD IS WHAT COUNTS. Prove the row's statement (the work); the ties are given (YtghikejaadkalaaGreatDoorTie.lean); close each card by the builder's one call (the guide's Derived/Test/ToyasCard.lean, 'card_holds'). Laid BY PROGRAM, IN A SANDBOX (cutbox-door.mjs). By AI agents, Wed Nov 11 2026. No macro, syntax, notation, axiom, sorry.
-/
import Derived.Test.YtghikejaadkalaaGreatDoorRows
import GoSem.ClaimSeven
namespace Go.Proofs.YtghikejaadkalaaGreatDoor
namespace Rows

/-- THE TIED CARD OF 'strainerlaw17.ModelDecides'. -/
def modelDecidesCard : Claim7 := { stood := { row := modelDecidesRow, standIns := [], harness := (true, "4ad8440f8390b9478a2467a3cbc63c538089afb4f810a08b816c0137a1c74cd7"), looks := true }, kinds := [], alts := [], laidByText := true, laidKinds := [.data, .data, .data, .data, .sentinel, .sentinel, .pinned], laidTests := true, laidLooks := .later }
def ModelDecidesCardSaid : Prop := Claim7.holds Tryz.pinned (.plain (OpenSpec.ofChange modelDecidesSpec)) modelDecidesCard

/-- THE TIED CARD OF 'strainerlaw17.ModelJudges'. -/
def modelJudgesCard : Claim7 := { stood := { row := modelJudgesRow, standIns := [], harness := (true, "4ad8440f8390b9478a2467a3cbc63c538089afb4f810a08b816c0137a1c74cd7"), looks := true }, kinds := [], alts := [], laidByText := true, laidKinds := [.data, .data, .data, .data, .sentinel, .sentinel, .pinned], laidTests := true, laidLooks := .later }
def ModelJudgesCardSaid : Prop := Claim7.holds Tryz.pinned (.plain (OpenSpec.ofChange modelJudgesSpec)) modelJudgesCard

/-- THE TIED CARD OF 'strainerlaw17.ModelBlind'. -/
def modelBlindCard : Claim7 := { stood := { row := modelBlindRow, standIns := [], harness := (true, "4ad8440f8390b9478a2467a3cbc63c538089afb4f810a08b816c0137a1c74cd7"), looks := true }, kinds := [], alts := [], laidByText := true, laidKinds := [.data, .data, .data, .data, .sentinel, .sentinel, .pinned], laidTests := true, laidLooks := .later }
def ModelBlindCardSaid : Prop := Claim7.holds Tryz.pinned (.plain (OpenSpec.ofChange modelBlindSpec)) modelBlindCard

/-- THE TIED CARD OF 'strainerlaw17.ModelOthers'. -/
def modelOthersCard : Claim7 := { stood := { row := modelOthersRow, standIns := [], harness := (true, "4ad8440f8390b9478a2467a3cbc63c538089afb4f810a08b816c0137a1c74cd7"), looks := true }, kinds := [], alts := [], laidByText := true, laidKinds := [.data, .data, .data, .data, .sentinel, .sentinel, .pinned], laidTests := true, laidLooks := .later }
def ModelOthersCardSaid : Prop := Claim7.holds Tryz.pinned (.plain (OpenSpec.ofChange modelOthersSpec)) modelOthersCard

/-- THE TIED CARD OF 'strainerlaw23.JudgeReasons'. -/
def judgeReasonsCard : Claim7 := { stood := { row := judgeReasonsRow, standIns := [], harness := (true, "4ad8440f8390b9478a2467a3cbc63c538089afb4f810a08b816c0137a1c74cd7"), looks := true }, kinds := [], alts := [], laidByText := true, laidKinds := [.data, .data, .data, .data, .sentinel, .sentinel, .pinned], laidTests := true, laidLooks := .later }
def JudgeReasonsCardSaid : Prop := Claim7.holds Tryz.pinned (.plain (OpenSpec.ofChange judgeReasonsSpec)) judgeReasonsCard

/-- THE TIED CARD OF 'strainerlaw17.ModelNorms'. -/
def modelNormsCard : Claim7 := { stood := { row := modelNormsRow, standIns := [], harness := (true, "4ad8440f8390b9478a2467a3cbc63c538089afb4f810a08b816c0137a1c74cd7"), looks := true }, kinds := [], alts := [], laidByText := true, laidKinds := [.data, .data, .data, .data, .sentinel, .sentinel, .pinned], laidTests := true, laidLooks := .later }
def ModelNormsCardSaid : Prop := Claim7.holds Tryz.pinned (.plain (OpenSpec.ofChange modelNormsSpec)) modelNormsCard

/-- THE SECOND FORM's CARD OF 'strainerlaw17.ModelDecides'. -/
def modelDecidesUptoCard : Claim7 := { stood := { row := modelDecidesUptoRow, standIns := [], harness := (true, "4ad8440f8390b9478a2467a3cbc63c538089afb4f810a08b816c0137a1c74cd7"), looks := true }, kinds := [], alts := [], laidByText := true, laidKinds := [.data, .data, .data, .data, .sentinel, .sentinel, .pinned], laidTests := true, laidLooks := .later }
def ModelDecidesUptoCardSaid : Prop := Claim7.holds Tryz.pinned (.plain (OpenSpec.upto modelDecidesSpec)) modelDecidesUptoCard

/-- THE SECOND FORM's CARD OF 'strainerlaw17.ModelJudges'. -/
def modelJudgesUptoCard : Claim7 := { stood := { row := modelJudgesUptoRow, standIns := [], harness := (true, "4ad8440f8390b9478a2467a3cbc63c538089afb4f810a08b816c0137a1c74cd7"), looks := true }, kinds := [], alts := [], laidByText := true, laidKinds := [.data, .data, .data, .data, .sentinel, .sentinel, .pinned], laidTests := true, laidLooks := .later }
def ModelJudgesUptoCardSaid : Prop := Claim7.holds Tryz.pinned (.plain (OpenSpec.upto modelJudgesSpec)) modelJudgesUptoCard

/-- THE SECOND FORM's CARD OF 'strainerlaw17.ModelBlind'. -/
def modelBlindUptoCard : Claim7 := { stood := { row := modelBlindUptoRow, standIns := [], harness := (true, "4ad8440f8390b9478a2467a3cbc63c538089afb4f810a08b816c0137a1c74cd7"), looks := true }, kinds := [], alts := [], laidByText := true, laidKinds := [.data, .data, .data, .data, .sentinel, .sentinel, .pinned], laidTests := true, laidLooks := .later }
def ModelBlindUptoCardSaid : Prop := Claim7.holds Tryz.pinned (.plain (OpenSpec.upto modelBlindSpec)) modelBlindUptoCard

/-- THE SECOND FORM's CARD OF 'strainerlaw17.ModelOthers'. -/
def modelOthersUptoCard : Claim7 := { stood := { row := modelOthersUptoRow, standIns := [], harness := (true, "4ad8440f8390b9478a2467a3cbc63c538089afb4f810a08b816c0137a1c74cd7"), looks := true }, kinds := [], alts := [], laidByText := true, laidKinds := [.data, .data, .data, .data, .sentinel, .sentinel, .pinned], laidTests := true, laidLooks := .later }
def ModelOthersUptoCardSaid : Prop := Claim7.holds Tryz.pinned (.plain (OpenSpec.upto modelOthersSpec)) modelOthersUptoCard

/-- THE SECOND FORM's CARD OF 'strainerlaw23.JudgeReasons'. -/
def judgeReasonsUptoCard : Claim7 := { stood := { row := judgeReasonsUptoRow, standIns := [], harness := (true, "4ad8440f8390b9478a2467a3cbc63c538089afb4f810a08b816c0137a1c74cd7"), looks := true }, kinds := [], alts := [], laidByText := true, laidKinds := [.data, .data, .data, .data, .sentinel, .sentinel, .pinned], laidTests := true, laidLooks := .later }
def JudgeReasonsUptoCardSaid : Prop := Claim7.holds Tryz.pinned (.plain (OpenSpec.upto judgeReasonsSpec)) judgeReasonsUptoCard

/-- THE SECOND FORM's CARD OF 'strainerlaw17.ModelNorms'. -/
def modelNormsUptoCard : Claim7 := { stood := { row := modelNormsUptoRow, standIns := [], harness := (true, "4ad8440f8390b9478a2467a3cbc63c538089afb4f810a08b816c0137a1c74cd7"), looks := true }, kinds := [], alts := [], laidByText := true, laidKinds := [.data, .data, .data, .data, .sentinel, .sentinel, .pinned], laidTests := true, laidLooks := .later }
def ModelNormsUptoCardSaid : Prop := Claim7.holds Tryz.pinned (.plain (OpenSpec.upto modelNormsSpec)) modelNormsUptoCard
end Rows
end Go.Proofs.YtghikejaadkalaaGreatDoor
