import Derived.Test.YtmipfkagmedcnaaGreatDoorNjTopB
import Derived.Test.YtmipfkagmedcnaaGreatDoorNjTopC
import Derived.Test.YtmipfkagmedcnaaGreatDoorNjTopD
import Derived.Test.YtmipfkagmedcnaaGreatDoorNjTopE
import Derived.Test.YtmipfkagmedcnaaGreatDoorJE
import Derived.LaidSub
import Derived.MakeChecks
import Derived.Test.YtmipfkagmedcnaaGreatDoorCards
import Derived.Test.YtmipfkagmedcnaaGreatDoorTie
import Derived.OpenShut
import Derived.Deep.DeepHandedRow
import Derived.Lib.LaidTab
import Derived.Test.YtmipfkagmedcnaaGreatDoorJD
import Derived.ProofKit
set_option linter.unusedVariables false
set_option linter.unusedSimpArgs false
namespace Go.Proofs.YtmipfkagmedcnaaGreatDoor
open Go.ChangeShapes Go.WideShapes Go.ChangeAt Go.RowKit Go.Vl Go.Proofs.W
theorem resolveJudges_holds:Rows.ResolveJudgesCardSaid:=
 Claim7.holds_tied_plain_at .later [] _ _ _ _ Jzq (fun _ h=> by cases h) k5 (fun _ h=> by cases h) resolveJudges_row_tie rfl ⟨rfl,rfl⟩ k6 rfl JwK k7
end Go.Proofs.YtmipfkagmedcnaaGreatDoor
