import Derived.Test.YtmipfkagmedcnaaGreatDoorNxTopB
import Derived.Test.YtmipfkagmedcnaaGreatDoorNxTopC
import Derived.Test.YtmipfkagmedcnaaGreatDoorNxTopD
import Derived.Test.YtmipfkagmedcnaaGreatDoorNxTopE
import Derived.Test.YtmipfkagmedcnaaGreatDoorXE
import Derived.LaidSub
import Derived.MakeChecks
import Derived.Test.YtmipfkagmedcnaaGreatDoorCards
import Derived.Test.YtmipfkagmedcnaaGreatDoorTie
import Derived.OpenShut
import Derived.Deep.DeepHandedRow
import Derived.Lib.LaidTab
import Derived.Test.YtmipfkagmedcnaaGreatDoorXD
import Derived.ProofKit
set_option linter.unusedVariables false
set_option linter.unusedSimpArgs false
namespace Go.Proofs.YtmipfkagmedcnaaGreatDoor
open Go.ChangeShapes Go.WideShapes Go.ChangeAt Go.RowKit Go.Vl Go.Proofs.W
theorem resolveX32_holds:Rows.ResolveX32CardSaid:=
 Claim7.holds_tied_plain_at .later [] _ _ _ _ Jxw (fun _ h=> by cases h) k5 (fun _ h=> by cases h) resolveX32_row_tie rfl ⟨rfl,rfl⟩ k6 rfl Juk k7
end Go.Proofs.YtmipfkagmedcnaaGreatDoor
