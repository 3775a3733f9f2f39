/-
  No cell of these rows narrows 'for every input' (looked for: loops, veiled, ifaces, maps, wideKeys, modest, calm, conditions, laid).
  DERIVED. THE GIVEN ROWS OF THIS SEAT. 14 by the template 'for every input the law returns true; each argument reads behind the call as it read before'; 0 by the template 'total and deterministic' (their statements: YtgllcdchhfcoiaaTotals.lean).
  GIVEN WITH THE SEED: the statements are not yours to turn. If you find one false, say at which input.
  Laid BY PROGRAM, IN A SANDBOX (cutbox-rows.mjs): the forced cells as the released guide's own fill.sh prints them over the translation aca71109a98fdc03… (all of the seat's roots in one cut). By AI agents, Wed Nov 11 2026. No macro, syntax, notation, axiom, sorry.
-/
import Derived.Test.YtgllcdchhfcoiaaChecked
import GoSem.Claim
import GoSem.ClaimJoined
import GoSem.ClaimMapViews
import Derived.JoinedTies
import Derived.KernelRfl
namespace Go.Proofs.Ytgllcdchhfcoiaa
/- THE CELL 'sum', in the pinned program and in every row, IS THE sha256 OF THE DUMP (.gsa) THAT YtgllcdchhfcoiaaProg.lean LOADS. Nothing in Lean hashes anything: it is a label: what it is worth is what the hold of that sum in a sandbox is worth. -/
noncomputable def Try.pinned : Pinned := { name := "ytgllcdchhfcoiaa", sum := "aca71109a98fdc03a9944edc829fa81fe5e4af266344e2a44771f48ddd58d491", checked := Try.checked }
namespace Rows
def none {H : Type} : Left H := { results := [], args := [] }

/-- 'strainerlaw07.FlowOnce': WHATEVER THE INPUT: true; the input reads as it did. -/
def flowOnceSpec : ChangeSpec := { name := "flowOnce", fn := fun _ => fun
  | [d] => { results := [.lit (.bool true)], args := [d] }
  | _ => none }
def flowOnceRow : OpenClaim := { program := "ytgllcdchhfcoiaa", sum := "aca71109a98fdc03a9944edc829fa81fe5e4af266344e2a44771f48ddd58d491", func := "strainer/strainerlaw07.FlowOnce", spec := "flowOnce", unfollowed := true, recurses := true, apart := false }
def FlowOnceSaid : Prop := flowOnceRow.holds Try.pinned (OpenSpec.ofChange flowOnceSpec)

/-- ITS FALSE NEIGHBOUR: 'it returns false'. Refute it at one input. -/
def flowOnceWrong : ChangeSpec := { name := "flowOnce", fn := fun _ => fun
  | [d] => { results := [.lit (.bool false)], args := [d] }
  | _ => none }
def FlowOnceWrongFalsely : Prop := flowOnceRow.holds Try.pinned (OpenSpec.ofChange flowOnceWrong)

/-- 'strainerlaw27.PathsTell': WHATEVER THE INPUT: true; the input reads as it did. -/
def pathsTellSpec : ChangeSpec := { name := "pathsTell", fn := fun _ => fun
  | [d] => { results := [.lit (.bool true)], args := [d] }
  | _ => none }
def pathsTellRow : OpenClaim := { program := "ytgllcdchhfcoiaa", sum := "aca71109a98fdc03a9944edc829fa81fe5e4af266344e2a44771f48ddd58d491", func := "strainer/strainerlaw27.PathsTell", spec := "pathsTell", unfollowed := true, recurses := true, apart := false }
def PathsTellSaid : Prop := pathsTellRow.holds Try.pinned (OpenSpec.ofChange pathsTellSpec)

/-- ITS FALSE NEIGHBOUR: 'it returns false'. Refute it at one input. -/
def pathsTellWrong : ChangeSpec := { name := "pathsTell", fn := fun _ => fun
  | [d] => { results := [.lit (.bool false)], args := [d] }
  | _ => none }
def PathsTellWrongFalsely : Prop := pathsTellRow.holds Try.pinned (OpenSpec.ofChange pathsTellWrong)

/-- 'strainerlaw27.PathsMany': WHATEVER THE INPUT: true; the input reads as it did. -/
def pathsManySpec : ChangeSpec := { name := "pathsMany", fn := fun _ => fun
  | [d] => { results := [.lit (.bool true)], args := [d] }
  | _ => none }
def pathsManyRow : OpenClaim := { program := "ytgllcdchhfcoiaa", sum := "aca71109a98fdc03a9944edc829fa81fe5e4af266344e2a44771f48ddd58d491", func := "strainer/strainerlaw27.PathsMany", spec := "pathsMany", unfollowed := true, recurses := true, apart := false }
def PathsManySaid : Prop := pathsManyRow.holds Try.pinned (OpenSpec.ofChange pathsManySpec)

/-- ITS FALSE NEIGHBOUR: 'it returns false'. Refute it at one input. -/
def pathsManyWrong : ChangeSpec := { name := "pathsMany", fn := fun _ => fun
  | [d] => { results := [.lit (.bool false)], args := [d] }
  | _ => none }
def PathsManyWrongFalsely : Prop := pathsManyRow.holds Try.pinned (OpenSpec.ofChange pathsManyWrong)

/-- 'strainerlaw07.FlowStraight': WHATEVER THE INPUT: true; the input reads as it did. -/
def flowStraightSpec : ChangeSpec := { name := "flowStraight", fn := fun _ => fun
  | [d] => { results := [.lit (.bool true)], args := [d] }
  | _ => none }
def flowStraightRow : OpenClaim := { program := "ytgllcdchhfcoiaa", sum := "aca71109a98fdc03a9944edc829fa81fe5e4af266344e2a44771f48ddd58d491", func := "strainer/strainerlaw07.FlowStraight", spec := "flowStraight", unfollowed := true, recurses := true, apart := false }
def FlowStraightSaid : Prop := flowStraightRow.holds Try.pinned (OpenSpec.ofChange flowStraightSpec)

/-- ITS FALSE NEIGHBOUR: 'it returns false'. Refute it at one input. -/
def flowStraightWrong : ChangeSpec := { name := "flowStraight", fn := fun _ => fun
  | [d] => { results := [.lit (.bool false)], args := [d] }
  | _ => none }
def FlowStraightWrongFalsely : Prop := flowStraightRow.holds Try.pinned (OpenSpec.ofChange flowStraightWrong)

/-- 'strainerlaw27.PathsTaken': WHATEVER THE INPUT: true; the input reads as it did. -/
def pathsTakenSpec : ChangeSpec := { name := "pathsTaken", fn := fun _ => fun
  | [d1, d2] => { results := [.lit (.bool true)], args := [d1, d2] }
  | _ => none }
def pathsTakenRow : OpenClaim := { program := "ytgllcdchhfcoiaa", sum := "aca71109a98fdc03a9944edc829fa81fe5e4af266344e2a44771f48ddd58d491", func := "strainer/strainerlaw27.PathsTaken", spec := "pathsTaken", unfollowed := true, recurses := true, apart := false }
def PathsTakenSaid : Prop := pathsTakenRow.holds Try.pinned (OpenSpec.ofChange pathsTakenSpec)

/-- ITS FALSE NEIGHBOUR: 'it returns false'. Refute it at one input. -/
def pathsTakenWrong : ChangeSpec := { name := "pathsTaken", fn := fun _ => fun
  | [d1, d2] => { results := [.lit (.bool false)], args := [d1, d2] }
  | _ => none }
def PathsTakenWrongFalsely : Prop := pathsTakenRow.holds Try.pinned (OpenSpec.ofChange pathsTakenWrong)

/-- 'strainerlaw06.VmRuns': WHATEVER THE INPUT: true; the input reads as it did. -/
def vmRunsSpec : ChangeSpec := { name := "vmRuns", fn := fun _ => fun
  | [d1, d2] => { results := [.lit (.bool true)], args := [d1, d2] }
  | _ => none }
def vmRunsRow : OpenClaim := { program := "ytgllcdchhfcoiaa", sum := "aca71109a98fdc03a9944edc829fa81fe5e4af266344e2a44771f48ddd58d491", func := "strainer/strainerlaw06.VmRuns", spec := "vmRuns", unfollowed := true, recurses := true, apart := false }
def VmRunsSaid : Prop := vmRunsRow.holds Try.pinned (OpenSpec.ofChange vmRunsSpec)

/-- ITS FALSE NEIGHBOUR: 'it returns false'. Refute it at one input. -/
def vmRunsWrong : ChangeSpec := { name := "vmRuns", fn := fun _ => fun
  | [d1, d2] => { results := [.lit (.bool false)], args := [d1, d2] }
  | _ => none }
def VmRunsWrongFalsely : Prop := vmRunsRow.holds Try.pinned (OpenSpec.ofChange vmRunsWrong)

/-- 'strainerlaw06.VmEnds': WHATEVER THE INPUT: true; the input reads as it did. -/
def vmEndsSpec : ChangeSpec := { name := "vmEnds", fn := fun _ => fun
  | [d1, d2] => { results := [.lit (.bool true)], args := [d1, d2] }
  | _ => none }
def vmEndsRow : OpenClaim := { program := "ytgllcdchhfcoiaa", sum := "aca71109a98fdc03a9944edc829fa81fe5e4af266344e2a44771f48ddd58d491", func := "strainer/strainerlaw06.VmEnds", spec := "vmEnds", unfollowed := true, recurses := true, apart := false }
def VmEndsSaid : Prop := vmEndsRow.holds Try.pinned (OpenSpec.ofChange vmEndsSpec)

/-- ITS FALSE NEIGHBOUR: 'it returns false'. Refute it at one input. -/
def vmEndsWrong : ChangeSpec := { name := "vmEnds", fn := fun _ => fun
  | [d1, d2] => { results := [.lit (.bool false)], args := [d1, d2] }
  | _ => none }
def VmEndsWrongFalsely : Prop := vmEndsRow.holds Try.pinned (OpenSpec.ofChange vmEndsWrong)

/-- 'strainerlaw06.VmBlind': WHATEVER THE INPUT: true; the input reads as it did. -/
def vmBlindSpec : ChangeSpec := { name := "vmBlind", fn := fun _ => fun
  | [d1, d2, d3] => { results := [.lit (.bool true)], args := [d1, d2, d3] }
  | _ => none }
def vmBlindRow : OpenClaim := { program := "ytgllcdchhfcoiaa", sum := "aca71109a98fdc03a9944edc829fa81fe5e4af266344e2a44771f48ddd58d491", func := "strainer/strainerlaw06.VmBlind", spec := "vmBlind", unfollowed := true, recurses := true, apart := false }
def VmBlindSaid : Prop := vmBlindRow.holds Try.pinned (OpenSpec.ofChange vmBlindSpec)

/-- ITS FALSE NEIGHBOUR: 'it returns false'. Refute it at one input. -/
def vmBlindWrong : ChangeSpec := { name := "vmBlind", fn := fun _ => fun
  | [d1, d2, d3] => { results := [.lit (.bool false)], args := [d1, d2, d3] }
  | _ => none }
def VmBlindWrongFalsely : Prop := vmBlindRow.holds Try.pinned (OpenSpec.ofChange vmBlindWrong)

/-- 'strainerlaw06.VmAgain': WHATEVER THE INPUT: true; the input reads as it did. -/
def vmAgainSpec : ChangeSpec := { name := "vmAgain", fn := fun _ => fun
  | [d1, d2, d3] => { results := [.lit (.bool true)], args := [d1, d2, d3] }
  | _ => none }
def vmAgainRow : OpenClaim := { program := "ytgllcdchhfcoiaa", sum := "aca71109a98fdc03a9944edc829fa81fe5e4af266344e2a44771f48ddd58d491", func := "strainer/strainerlaw06.VmAgain", spec := "vmAgain", unfollowed := true, recurses := true, apart := false }
def VmAgainSaid : Prop := vmAgainRow.holds Try.pinned (OpenSpec.ofChange vmAgainSpec)

/-- ITS FALSE NEIGHBOUR: 'it returns false'. Refute it at one input. -/
def vmAgainWrong : ChangeSpec := { name := "vmAgain", fn := fun _ => fun
  | [d1, d2, d3] => { results := [.lit (.bool false)], args := [d1, d2, d3] }
  | _ => none }
def VmAgainWrongFalsely : Prop := vmAgainRow.holds Try.pinned (OpenSpec.ofChange vmAgainWrong)

/-- 'strainerlaw06.VmReckons': WHATEVER THE INPUT: true; the input reads as it did. -/
def vmReckonsSpec : ChangeSpec := { name := "vmReckons", fn := fun _ => fun
  | [d1, d2] => { results := [.lit (.bool true)], args := [d1, d2] }
  | _ => none }
def vmReckonsRow : OpenClaim := { program := "ytgllcdchhfcoiaa", sum := "aca71109a98fdc03a9944edc829fa81fe5e4af266344e2a44771f48ddd58d491", func := "strainer/strainerlaw06.VmReckons", spec := "vmReckons", unfollowed := true, recurses := true, apart := false }
def VmReckonsSaid : Prop := vmReckonsRow.holds Try.pinned (OpenSpec.ofChange vmReckonsSpec)

/-- ITS FALSE NEIGHBOUR: 'it returns false'. Refute it at one input. -/
def vmReckonsWrong : ChangeSpec := { name := "vmReckons", fn := fun _ => fun
  | [d1, d2] => { results := [.lit (.bool false)], args := [d1, d2] }
  | _ => none }
def VmReckonsWrongFalsely : Prop := vmReckonsRow.holds Try.pinned (OpenSpec.ofChange vmReckonsWrong)

/-- 'strainerlaw06.VmCells': WHATEVER THE INPUT: true; the input reads as it did. -/
def vmCellsSpec : ChangeSpec := { name := "vmCells", fn := fun _ => fun
  | [d] => { results := [.lit (.bool true)], args := [d] }
  | _ => none }
def vmCellsRow : OpenClaim := { program := "ytgllcdchhfcoiaa", sum := "aca71109a98fdc03a9944edc829fa81fe5e4af266344e2a44771f48ddd58d491", func := "strainer/strainerlaw06.VmCells", spec := "vmCells", unfollowed := true, recurses := true, apart := false }
def VmCellsSaid : Prop := vmCellsRow.holds Try.pinned (OpenSpec.ofChange vmCellsSpec)

/-- ITS FALSE NEIGHBOUR: 'it returns false'. Refute it at one input. -/
def vmCellsWrong : ChangeSpec := { name := "vmCells", fn := fun _ => fun
  | [d] => { results := [.lit (.bool false)], args := [d] }
  | _ => none }
def VmCellsWrongFalsely : Prop := vmCellsRow.holds Try.pinned (OpenSpec.ofChange vmCellsWrong)

/-- 'strainerlaw07.FlowPrunes': WHATEVER THE INPUT: true; the input reads as it did. -/
def flowPrunesSpec : ChangeSpec := { name := "flowPrunes", fn := fun _ => fun
  | [d1, d2] => { results := [.lit (.bool true)], args := [d1, d2] }
  | _ => none }
def flowPrunesRow : OpenClaim := { program := "ytgllcdchhfcoiaa", sum := "aca71109a98fdc03a9944edc829fa81fe5e4af266344e2a44771f48ddd58d491", func := "strainer/strainerlaw07.FlowPrunes", spec := "flowPrunes", unfollowed := true, recurses := true, apart := false }
def FlowPrunesSaid : Prop := flowPrunesRow.holds Try.pinned (OpenSpec.ofChange flowPrunesSpec)

/-- ITS FALSE NEIGHBOUR: 'it returns false'. Refute it at one input. -/
def flowPrunesWrong : ChangeSpec := { name := "flowPrunes", fn := fun _ => fun
  | [d1, d2] => { results := [.lit (.bool false)], args := [d1, d2] }
  | _ => none }
def FlowPrunesWrongFalsely : Prop := flowPrunesRow.holds Try.pinned (OpenSpec.ofChange flowPrunesWrong)

/-- 'strainerlaw27.PathsOne': WHATEVER THE INPUT: true; the input reads as it did. -/
def pathsOneSpec : ChangeSpec := { name := "pathsOne", fn := fun _ => fun
  | [d1, d2] => { results := [.lit (.bool true)], args := [d1, d2] }
  | _ => none }
def pathsOneRow : OpenClaim := { program := "ytgllcdchhfcoiaa", sum := "aca71109a98fdc03a9944edc829fa81fe5e4af266344e2a44771f48ddd58d491", func := "strainer/strainerlaw27.PathsOne", spec := "pathsOne", unfollowed := true, recurses := true, apart := false }
def PathsOneSaid : Prop := pathsOneRow.holds Try.pinned (OpenSpec.ofChange pathsOneSpec)

/-- ITS FALSE NEIGHBOUR: 'it returns false'. Refute it at one input. -/
def pathsOneWrong : ChangeSpec := { name := "pathsOne", fn := fun _ => fun
  | [d1, d2] => { results := [.lit (.bool false)], args := [d1, d2] }
  | _ => none }
def PathsOneWrongFalsely : Prop := pathsOneRow.holds Try.pinned (OpenSpec.ofChange pathsOneWrong)

/-- 'strainerlaw07.FlowTells': WHATEVER THE INPUT: true; the input reads as it did. -/
def flowTellsSpec : ChangeSpec := { name := "flowTells", fn := fun _ => fun
  | [d] => { results := [.lit (.bool true)], args := [d] }
  | _ => none }
def flowTellsRow : OpenClaim := { program := "ytgllcdchhfcoiaa", sum := "aca71109a98fdc03a9944edc829fa81fe5e4af266344e2a44771f48ddd58d491", func := "strainer/strainerlaw07.FlowTells", spec := "flowTells", unfollowed := true, recurses := true, apart := false }
def FlowTellsSaid : Prop := flowTellsRow.holds Try.pinned (OpenSpec.ofChange flowTellsSpec)

/-- ITS FALSE NEIGHBOUR: 'it returns false'. Refute it at one input. -/
def flowTellsWrong : ChangeSpec := { name := "flowTells", fn := fun _ => fun
  | [d] => { results := [.lit (.bool false)], args := [d] }
  | _ => none }
def FlowTellsWrongFalsely : Prop := flowTellsRow.holds Try.pinned (OpenSpec.ofChange flowTellsWrong)

/- THE SECOND FORM. 'bulk': how many values and letters a reading holds, each counted each time it is reached (what is shared counts as often as it is met; a slice's spare places count too). A statement '..UptoSaid' is the law's where the arguments, and the package variables that the reading takes, are together of bulk at most 1048576: NARROWER than '..Said'. Prove '..Said' where nothing that the law and all that it calls make is longer than what came in: it says more and counts as full. Else prove '..UptoSaid'. A law counts once. -/
mutual
def uptoBulk {H : Type} : DataW H → Nat
  | .lit (.string bytes) => bytes.length + 1
  | .lit _ => 1
  | .nil => 1
  | .ptr d => uptoBulk d + 1
  | .slice elems spare => uptoBulkAll elems + uptoBulkAll spare + 1
  | .agg parts => uptoBulkAll parts + 1
  | .iface _ d => uptoBulk d + 1
  | .map entries => uptoBulkEntries entries + 1
  | .held _ => 1
def uptoBulkAll {H : Type} : List (DataW H) → Nat
  | [] => 0
  | d :: r => uptoBulk d + uptoBulkAll r
def uptoBulkEntries {H : Type} : List (Lit × DataW H) → Nat
  | [] => 0
  | x :: r => uptoBulkEntry x + uptoBulkEntries r
def uptoBulkEntry {H : Type} : Lit × DataW H → Nat
  | (.string bytes, d) => bytes.length + uptoBulk d + 1
  | (_, d) => uptoBulk d + 1
 end
def uptoSmall : (H : Type) → List (DataW H) → Bool := fun _ ds => decide (uptoBulkAll ds ≤ 1048576)
def OpenSpec.upto (s : _root_.Go.ChangeSpec) : _root_.Go.OpenSpec := { _root_.Go.OpenSpec.ofChange s with cond := some uptoSmall }

/-- 'strainerlaw07.FlowOnce', WHERE WHAT IT READS IS OF BULK AT MOST 1048576: true; the input reads as it did. -/
def flowOnceUptoRow : OpenClaim := { program := "ytgllcdchhfcoiaa", sum := "aca71109a98fdc03a9944edc829fa81fe5e4af266344e2a44771f48ddd58d491", func := "strainer/strainerlaw07.FlowOnce", spec := "flowOnce", unfollowed := true, recurses := true, apart := false, narrowed := true }
def FlowOnceUptoSaid : Prop := flowOnceUptoRow.holds Try.pinned (OpenSpec.upto flowOnceSpec)

/-- 'strainerlaw27.PathsTell', WHERE WHAT IT READS IS OF BULK AT MOST 1048576: true; the input reads as it did. -/
def pathsTellUptoRow : OpenClaim := { program := "ytgllcdchhfcoiaa", sum := "aca71109a98fdc03a9944edc829fa81fe5e4af266344e2a44771f48ddd58d491", func := "strainer/strainerlaw27.PathsTell", spec := "pathsTell", unfollowed := true, recurses := true, apart := false, narrowed := true }
def PathsTellUptoSaid : Prop := pathsTellUptoRow.holds Try.pinned (OpenSpec.upto pathsTellSpec)

/-- 'strainerlaw27.PathsMany', WHERE WHAT IT READS IS OF BULK AT MOST 1048576: true; the input reads as it did. -/
def pathsManyUptoRow : OpenClaim := { program := "ytgllcdchhfcoiaa", sum := "aca71109a98fdc03a9944edc829fa81fe5e4af266344e2a44771f48ddd58d491", func := "strainer/strainerlaw27.PathsMany", spec := "pathsMany", unfollowed := true, recurses := true, apart := false, narrowed := true }
def PathsManyUptoSaid : Prop := pathsManyUptoRow.holds Try.pinned (OpenSpec.upto pathsManySpec)

/-- 'strainerlaw07.FlowStraight', WHERE WHAT IT READS IS OF BULK AT MOST 1048576: true; the input reads as it did. -/
def flowStraightUptoRow : OpenClaim := { program := "ytgllcdchhfcoiaa", sum := "aca71109a98fdc03a9944edc829fa81fe5e4af266344e2a44771f48ddd58d491", func := "strainer/strainerlaw07.FlowStraight", spec := "flowStraight", unfollowed := true, recurses := true, apart := false, narrowed := true }
def FlowStraightUptoSaid : Prop := flowStraightUptoRow.holds Try.pinned (OpenSpec.upto flowStraightSpec)

/-- 'strainerlaw27.PathsTaken', WHERE WHAT IT READS IS OF BULK AT MOST 1048576: true; the input reads as it did. -/
def pathsTakenUptoRow : OpenClaim := { program := "ytgllcdchhfcoiaa", sum := "aca71109a98fdc03a9944edc829fa81fe5e4af266344e2a44771f48ddd58d491", func := "strainer/strainerlaw27.PathsTaken", spec := "pathsTaken", unfollowed := true, recurses := true, apart := false, narrowed := true }
def PathsTakenUptoSaid : Prop := pathsTakenUptoRow.holds Try.pinned (OpenSpec.upto pathsTakenSpec)

/-- 'strainerlaw06.VmRuns', WHERE WHAT IT READS IS OF BULK AT MOST 1048576: true; the input reads as it did. -/
def vmRunsUptoRow : OpenClaim := { program := "ytgllcdchhfcoiaa", sum := "aca71109a98fdc03a9944edc829fa81fe5e4af266344e2a44771f48ddd58d491", func := "strainer/strainerlaw06.VmRuns", spec := "vmRuns", unfollowed := true, recurses := true, apart := false, narrowed := true }
def VmRunsUptoSaid : Prop := vmRunsUptoRow.holds Try.pinned (OpenSpec.upto vmRunsSpec)

/-- 'strainerlaw06.VmEnds', WHERE WHAT IT READS IS OF BULK AT MOST 1048576: true; the input reads as it did. -/
def vmEndsUptoRow : OpenClaim := { program := "ytgllcdchhfcoiaa", sum := "aca71109a98fdc03a9944edc829fa81fe5e4af266344e2a44771f48ddd58d491", func := "strainer/strainerlaw06.VmEnds", spec := "vmEnds", unfollowed := true, recurses := true, apart := false, narrowed := true }
def VmEndsUptoSaid : Prop := vmEndsUptoRow.holds Try.pinned (OpenSpec.upto vmEndsSpec)

/-- 'strainerlaw06.VmBlind', WHERE WHAT IT READS IS OF BULK AT MOST 1048576: true; the input reads as it did. -/
def vmBlindUptoRow : OpenClaim := { program := "ytgllcdchhfcoiaa", sum := "aca71109a98fdc03a9944edc829fa81fe5e4af266344e2a44771f48ddd58d491", func := "strainer/strainerlaw06.VmBlind", spec := "vmBlind", unfollowed := true, recurses := true, apart := false, narrowed := true }
def VmBlindUptoSaid : Prop := vmBlindUptoRow.holds Try.pinned (OpenSpec.upto vmBlindSpec)

/-- 'strainerlaw06.VmAgain', WHERE WHAT IT READS IS OF BULK AT MOST 1048576: true; the input reads as it did. -/
def vmAgainUptoRow : OpenClaim := { program := "ytgllcdchhfcoiaa", sum := "aca71109a98fdc03a9944edc829fa81fe5e4af266344e2a44771f48ddd58d491", func := "strainer/strainerlaw06.VmAgain", spec := "vmAgain", unfollowed := true, recurses := true, apart := false, narrowed := true }
def VmAgainUptoSaid : Prop := vmAgainUptoRow.holds Try.pinned (OpenSpec.upto vmAgainSpec)

/-- 'strainerlaw06.VmReckons', WHERE WHAT IT READS IS OF BULK AT MOST 1048576: true; the input reads as it did. -/
def vmReckonsUptoRow : OpenClaim := { program := "ytgllcdchhfcoiaa", sum := "aca71109a98fdc03a9944edc829fa81fe5e4af266344e2a44771f48ddd58d491", func := "strainer/strainerlaw06.VmReckons", spec := "vmReckons", unfollowed := true, recurses := true, apart := false, narrowed := true }
def VmReckonsUptoSaid : Prop := vmReckonsUptoRow.holds Try.pinned (OpenSpec.upto vmReckonsSpec)

/-- 'strainerlaw06.VmCells', WHERE WHAT IT READS IS OF BULK AT MOST 1048576: true; the input reads as it did. -/
def vmCellsUptoRow : OpenClaim := { program := "ytgllcdchhfcoiaa", sum := "aca71109a98fdc03a9944edc829fa81fe5e4af266344e2a44771f48ddd58d491", func := "strainer/strainerlaw06.VmCells", spec := "vmCells", unfollowed := true, recurses := true, apart := false, narrowed := true }
def VmCellsUptoSaid : Prop := vmCellsUptoRow.holds Try.pinned (OpenSpec.upto vmCellsSpec)

/-- 'strainerlaw07.FlowPrunes', WHERE WHAT IT READS IS OF BULK AT MOST 1048576: true; the input reads as it did. -/
def flowPrunesUptoRow : OpenClaim := { program := "ytgllcdchhfcoiaa", sum := "aca71109a98fdc03a9944edc829fa81fe5e4af266344e2a44771f48ddd58d491", func := "strainer/strainerlaw07.FlowPrunes", spec := "flowPrunes", unfollowed := true, recurses := true, apart := false, narrowed := true }
def FlowPrunesUptoSaid : Prop := flowPrunesUptoRow.holds Try.pinned (OpenSpec.upto flowPrunesSpec)

/-- 'strainerlaw27.PathsOne', WHERE WHAT IT READS IS OF BULK AT MOST 1048576: true; the input reads as it did. -/
def pathsOneUptoRow : OpenClaim := { program := "ytgllcdchhfcoiaa", sum := "aca71109a98fdc03a9944edc829fa81fe5e4af266344e2a44771f48ddd58d491", func := "strainer/strainerlaw27.PathsOne", spec := "pathsOne", unfollowed := true, recurses := true, apart := false, narrowed := true }
def PathsOneUptoSaid : Prop := pathsOneUptoRow.holds Try.pinned (OpenSpec.upto pathsOneSpec)

/-- 'strainerlaw07.FlowTells', WHERE WHAT IT READS IS OF BULK AT MOST 1048576: true; the input reads as it did. -/
def flowTellsUptoRow : OpenClaim := { program := "ytgllcdchhfcoiaa", sum := "aca71109a98fdc03a9944edc829fa81fe5e4af266344e2a44771f48ddd58d491", func := "strainer/strainerlaw07.FlowTells", spec := "flowTells", unfollowed := true, recurses := true, apart := false, narrowed := true }
def FlowTellsUptoSaid : Prop := flowTellsUptoRow.holds Try.pinned (OpenSpec.upto flowTellsSpec)

end Rows
end Go.Proofs.Ytgllcdchhfcoiaa
