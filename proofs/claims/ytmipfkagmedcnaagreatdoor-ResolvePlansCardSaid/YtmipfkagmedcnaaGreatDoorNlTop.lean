import Derived.Test.YtmipfkagmedcnaaGreatDoorNlTopB
import Derived.Test.YtmipfkagmedcnaaGreatDoorNlTopC
import Derived.Test.YtmipfkagmedcnaaGreatDoorNlTopD
import Derived.Test.YtmipfkagmedcnaaGreatDoorNlTopE
import Derived.Test.YtmipfkagmedcnaaGreatDoorPE
import Derived.LaidSub
import Derived.MakeChecks
import Derived.Test.YtmipfkagmedcnaaGreatDoorCards
import Derived.Test.YtmipfkagmedcnaaGreatDoorTie
import Derived.OpenShut
import Derived.Deep.DeepHandedRow
import Derived.Lib.LaidTab
import Derived.Test.YtmipfkagmedcnaaGreatDoorPD
import Derived.ProofKit
set_option linter.unusedVariables false
set_option linter.unusedSimpArgs false
namespace Go.Proofs.YtmipfkagmedcnaaGreatDoor
open Go.ChangeShapes Go.WideShapes Go.ChangeAt Go.RowKit Go.Vl Go.Proofs.W
theorem resolvePlans_holds:Rows.ResolvePlansCardSaid:=
 Claim7.holds_tied_plain_at .later [] _ _ _ _ Jy0 (fun _ h=> by cases h) k5 (fun _ h=> by cases h) resolvePlans_row_tie rfl ⟨rfl,rfl⟩ k6 rfl Jwg k7
end Go.Proofs.YtmipfkagmedcnaaGreatDoor
