import Derived.Test.YtmipfkagmedcnaaGreatDoorNaTopRB
import Derived.Test.YtmipfkagmedcnaaGreatDoorNaTopRC
import Derived.Test.YtmipfkagmedcnaaGreatDoorNaTopRD
import Derived.Test.YtmipfkagmedcnaaGreatDoorNaTopRE
import Derived.Test.YtmipfkagmedcnaaGreatDoorE
import Derived.LaidSub
import Derived.MakeChecks
import Derived.Test.YtmipfkagmedcnaaGreatDoorCards
import Derived.Test.YtmipfkagmedcnaaGreatDoorTie
import Derived.OpenShut
import Derived.Deep.DeepHandedRow
import Derived.Lib.LaidTab
import Derived.Test.YtmipfkagmedcnaaGreatDoorD
import Derived.ProofKit
set_option linter.unusedVariables false
set_option linter.unusedSimpArgs false
namespace Go.Proofs.YtmipfkagmedcnaaGreatDoor
open Go.ChangeShapes Go.WideShapes Go.ChangeAt Go.RowKit Go.Vl Go.Proofs.W
theorem resolveNarrows_holds:Rows.ResolveNarrowsCardSaid:=
 Claim7.holds_tied_plain_at .later [] _ _ _ _ Jxa (fun _ h=> by cases h) k5 (fun _ h=> by cases h) resolveNarrows_row_tie rfl ⟨rfl,rfl⟩ k6 rfl Jt0 k7
end Go.Proofs.YtmipfkagmedcnaaGreatDoor
