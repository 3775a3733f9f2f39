import Derived.Test.YtokhkmgefndbaaaGreatDoorIrTopB
import Derived.Test.YtokhkmgefndbaaaGreatDoorIrTopC
import Derived.Test.YtokhkmgefndbaaaGreatDoorIrTopD
import Derived.Test.YtokhkmgefndbaaaGreatDoorIrTopE
import Derived.Test.YtokhkmgefndbaaaGreatDoorQE
import Derived.LaidSub
import Derived.MakeChecks
import Derived.Test.YtokhkmgefndbaaaGreatDoorCards
import Derived.Test.YtokhkmgefndbaaaGreatDoorTie
import Derived.OpenShut
import Derived.Deep.DeepHandedRow
import Derived.Lib.LaidTab
import Derived.Test.YtokhkmgefndbaaaGreatDoorQD
import Derived.ProofKit
set_option linter.unusedVariables false
set_option linter.unusedSimpArgs false
set_option maxHeartbeats 16000000
namespace Go.Proofs.YtokhkmgefndbaaaGreatDoor
open Go.ChangeShapes Go.WideShapes Go.ChangeAt Go.RowKit Go.Vl Go.Proofs.W
theorem genJudges_holds:Rows.GenJudgesCardSaid:=
 Claim7.holds_tied_plain_at .later [] _ _ _ _ JEY (fun _ h=> by cases h) k5 (fun _ h=> by cases h) genJudges_row_tie rfl ⟨rfl,rfl⟩ k6 rfl JBG k7
end Go.Proofs.YtokhkmgefndbaaaGreatDoor
