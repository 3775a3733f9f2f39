import Derived.Test.YtjobhgdphdoelaaGreatDoorQG
import Derived.LaidSub
import Derived.MakeChecks
import Derived.Test.YtjobhgdphdoelaaGreatDoorCards
import Derived.Test.YtjobhgdphdoelaaGreatDoorTie
import Derived.OpenShut
import Derived.Deep.DeepHandedRow
import Derived.Lib.LaidTab
import Derived.Test.YtjobhgdphdoelaaGreatDoorQD
import Derived.ProofKit
set_option linter.unusedVariables false
set_option linter.unusedSimpArgs false
namespace Go.Proofs.YtjobhgdphdoelaaGreatDoor
open Go.ChangeShapes Go.WideShapes Go.ChangeAt Go.RowKit Go.Vl Go.Proofs.W
set_option maxRecDepth 100000 in
theorem k5:Rows.judgeDiffersRow.wfByText (OpenSpec.ofChange Rows.judgeDiffersSpec)=true:=by kernel_rfl
end Go.Proofs.YtjobhgdphdoelaaGreatDoor
