import Derived.Test.YtcacleckdoninaaGreatDoorQD
import Derived.LaidSub
import Derived.MakeChecks
import Derived.Test.YtcacleckdoninaaGreatDoorCards
import Derived.Test.YtcacleckdoninaaGreatDoorTie
import Derived.OpenShut
import Derived.Deep.DeepHandedRow
import Derived.Lib.LaidTab
import Derived.ProofKit
set_option linter.unusedVariables false
set_option linter.unusedSimpArgs false
set_option maxHeartbeats 16000000
namespace Go.Proofs.YtcacleckdoninaaGreatDoor
open Go.ChangeShapes Go.WideShapes Go.ChangeAt Go.RowKit Go.Vl Go.Proofs.W
set_option maxRecDepth 100000 in
theorem k6:Tryz.pinned.checked.prog.mainIs=some (Rows.resolveSameCard.stood.harness.1,Rows.resolveSameCard.stood.harness.2.toList):=by kernel_rfl
end Go.Proofs.YtcacleckdoninaaGreatDoor
