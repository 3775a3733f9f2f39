import Derived.Test.YtcacleckdoninaaGreatDoorCpTopB
import Derived.Test.YtcacleckdoninaaGreatDoorCpTopC
import Derived.Test.YtcacleckdoninaaGreatDoorCpTopD
import Derived.Test.YtcacleckdoninaaGreatDoorCpTopE
import Derived.Test.YtcacleckdoninaaGreatDoorQD
import Derived.LaidSub
import Derived.MakeChecks
import Derived.Test.YtcacleckdoninaaGreatDoorCards
import Derived.Test.YtcacleckdoninaaGreatDoorTie
import Derived.OpenShut
import Derived.Deep.DeepHandedRow
import Derived.Lib.LaidTab
import Derived.ProofKit
set_option linter.unusedVariables false
set_option linter.unusedSimpArgs false
set_option maxHeartbeats 16000000
namespace Go.Proofs.YtcacleckdoninaaGreatDoor
open Go.ChangeShapes Go.WideShapes Go.ChangeAt Go.RowKit Go.Vl Go.Proofs.W
theorem resolveSame_holds:Rows.ResolveSameCardSaid:=
 Claim7.holds_tied_plain_at .later [] _ _ _ _ JBg (fun _ h=> by cases h) k5 (fun _ h=> by cases h) resolveSame_row_tie rfl ⟨rfl,rfl⟩ k6 rfl JyD k7
end Go.Proofs.YtcacleckdoninaaGreatDoor
