import Derived.Test.YtmipfkagmedcnaaGreatDoorPE
import Derived.LaidSub
import Derived.MakeChecks
import Derived.Test.YtmipfkagmedcnaaGreatDoorCards
import Derived.Test.YtmipfkagmedcnaaGreatDoorTie
import Derived.OpenShut
import Derived.Deep.DeepHandedRow
import Derived.Lib.LaidTab
import Derived.Test.YtmipfkagmedcnaaGreatDoorPD
import Derived.ProofKit
set_option linter.unusedVariables false
set_option linter.unusedSimpArgs false
namespace Go.Proofs.YtmipfkagmedcnaaGreatDoor
open Go.ChangeShapes Go.WideShapes Go.ChangeAt Go.RowKit Go.Vl Go.Proofs.W
set_option maxRecDepth 100000 in
theorem k5:Rows.resolvePlansRow.wfByText (OpenSpec.ofChange Rows.resolvePlansSpec)=true:=by kernel_rfl
end Go.Proofs.YtmipfkagmedcnaaGreatDoor
