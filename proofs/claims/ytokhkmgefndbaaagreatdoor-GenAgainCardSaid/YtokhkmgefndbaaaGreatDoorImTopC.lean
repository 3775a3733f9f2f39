import Derived.Test.YtokhkmgefndbaaaGreatDoorPE
import Derived.LaidSub
import Derived.MakeChecks
import Derived.Test.YtokhkmgefndbaaaGreatDoorCards
import Derived.Test.YtokhkmgefndbaaaGreatDoorTie
import Derived.OpenShut
import Derived.Deep.DeepHandedRow
import Derived.Lib.LaidTab
import Derived.Test.YtokhkmgefndbaaaGreatDoorPD
import Derived.ProofKit
set_option linter.unusedVariables false
set_option linter.unusedSimpArgs false
namespace Go.Proofs.YtokhkmgefndbaaaGreatDoor
open Go.ChangeShapes Go.WideShapes Go.ChangeAt Go.RowKit Go.Vl Go.Proofs.W
set_option maxRecDepth 100000 in
theorem k5:Rows.genAgainRow.wfByText (OpenSpec.ofChange Rows.genAgainSpec)=true:=by kernel_rfl
end Go.Proofs.YtokhkmgefndbaaaGreatDoor
