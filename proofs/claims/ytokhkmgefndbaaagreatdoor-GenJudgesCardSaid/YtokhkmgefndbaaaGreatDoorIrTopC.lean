import Derived.Test.YtokhkmgefndbaaaGreatDoorQE
import Derived.LaidSub
import Derived.MakeChecks
import Derived.Test.YtokhkmgefndbaaaGreatDoorCards
import Derived.Test.YtokhkmgefndbaaaGreatDoorTie
import Derived.OpenShut
import Derived.Deep.DeepHandedRow
import Derived.Lib.LaidTab
import Derived.Test.YtokhkmgefndbaaaGreatDoorQD
import Derived.ProofKit
set_option linter.unusedVariables false
set_option linter.unusedSimpArgs false
set_option maxHeartbeats 16000000
namespace Go.Proofs.YtokhkmgefndbaaaGreatDoor
open Go.ChangeShapes Go.WideShapes Go.ChangeAt Go.RowKit Go.Vl Go.Proofs.W
set_option maxRecDepth 100000 in
theorem k5:Rows.genJudgesRow.wfByText (OpenSpec.ofChange Rows.genJudgesSpec)=true:=by kernel_rfl
end Go.Proofs.YtokhkmgefndbaaaGreatDoor
