import Derived.Test.YtokhkmgefndbaaaGreatDoorImTopB
import Derived.Test.YtokhkmgefndbaaaGreatDoorImTopC
import Derived.Test.YtokhkmgefndbaaaGreatDoorImTopD
import Derived.Test.YtokhkmgefndbaaaGreatDoorImTopE
import Derived.Test.YtokhkmgefndbaaaGreatDoorPE
import Derived.LaidSub
import Derived.MakeChecks
import Derived.Test.YtokhkmgefndbaaaGreatDoorCards
import Derived.Test.YtokhkmgefndbaaaGreatDoorTie
import Derived.OpenShut
import Derived.Deep.DeepHandedRow
import Derived.Lib.LaidTab
import Derived.Test.YtokhkmgefndbaaaGreatDoorPD
import Derived.ProofKit
set_option linter.unusedVariables false
set_option linter.unusedSimpArgs false
namespace Go.Proofs.YtokhkmgefndbaaaGreatDoor
open Go.ChangeShapes Go.WideShapes Go.ChangeAt Go.RowKit Go.Vl Go.Proofs.W
theorem genAgain_holds:Rows.GenAgainCardSaid:=
 Claim7.holds_tied_plain_at .later [] _ _ _ _ JCt (fun _ h=> by cases h) k5 (fun _ h=> by cases h) genAgain_row_tie rfl ⟨rfl,rfl⟩ k6 rfl Jzg k7
end Go.Proofs.YtokhkmgefndbaaaGreatDoor
