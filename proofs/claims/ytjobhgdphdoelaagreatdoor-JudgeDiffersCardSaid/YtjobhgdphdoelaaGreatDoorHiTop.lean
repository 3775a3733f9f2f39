import Derived.Test.YtjobhgdphdoelaaGreatDoorHiTopB
import Derived.Test.YtjobhgdphdoelaaGreatDoorHiTopC
import Derived.Test.YtjobhgdphdoelaaGreatDoorHiTopD
import Derived.Test.YtjobhgdphdoelaaGreatDoorHiTopE
import Derived.Test.YtjobhgdphdoelaaGreatDoorQG
import Derived.LaidSub
import Derived.MakeChecks
import Derived.Test.YtjobhgdphdoelaaGreatDoorCards
import Derived.Test.YtjobhgdphdoelaaGreatDoorTie
import Derived.OpenShut
import Derived.Deep.DeepHandedRow
import Derived.Lib.LaidTab
import Derived.Test.YtjobhgdphdoelaaGreatDoorQD
import Derived.ProofKit
set_option linter.unusedVariables false
set_option linter.unusedSimpArgs false
namespace Go.Proofs.YtjobhgdphdoelaaGreatDoor
open Go.ChangeShapes Go.WideShapes Go.ChangeAt Go.RowKit Go.Vl Go.Proofs.W
theorem judgeDiffers_holds:Rows.JudgeDiffersCardSaid:=
 Claim7.holds_tied_plain_at .later [] _ _ _ _ JxD (fun _ h=> by cases h) k5 (fun _ h=> by cases h) judgeDiffers_row_tie rfl ⟨rfl,rfl⟩ k6 rfl JwR k7
end Go.Proofs.YtjobhgdphdoelaaGreatDoor
