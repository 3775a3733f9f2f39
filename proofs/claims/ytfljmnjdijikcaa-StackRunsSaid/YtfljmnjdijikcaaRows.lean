/-
  No cell of these rows narrows 'for every input' (looked for: loops, veiled, ifaces, maps, wideKeys, modest, calm, conditions, laid).
  DERIVED. THE GIVEN ROWS OF THIS SEAT. 4 by the template 'for every input the law returns true; each argument reads behind the call as it read before'; 0 by the template 'total and deterministic' (their statements: YtfljmnjdijikcaaTotals.lean).
  GIVEN WITH THE SEED: the statements are not yours to turn. If you find one false, say at which input.
  Laid BY PROGRAM, IN A SANDBOX (cutbox-rows.mjs): the forced cells as the released guide's own fill.sh prints them over the translation 2370ae3da7868fd2… (all of the seat's roots in one cut). By AI agents, Wed Nov 11 2026. No macro, syntax, notation, axiom, sorry.
-/
import Derived.Test.YtfljmnjdijikcaaChecked
import GoSem.Claim
import GoSem.ClaimJoined
import GoSem.ClaimMapViews
import Derived.JoinedTies
import Derived.KernelRfl
namespace Go.Proofs.Ytfljmnjdijikcaa
/- THE CELL 'sum', in the pinned program and in every row, IS THE sha256 OF THE DUMP (.gsa) THAT YtfljmnjdijikcaaProg.lean LOADS. Nothing in Lean hashes anything: it is a label: what it is worth is what the hold of that sum in a sandbox is worth. -/
noncomputable def Try.pinned : Pinned := { name := "ytfljmnjdijikcaa", sum := "2370ae3da7868fd2d11795f690bc60a40021b448a3c324317654edfde29a4928", checked := Try.checked }
namespace Rows
def none {H : Type} : Left H := { results := [], args := [] }

/-- 'strainerlaw25.StackRuns': WHATEVER THE INPUT: true; the input reads as it did. -/
def stackRunsSpec : ChangeSpec := { name := "stackRuns", fn := fun _ => fun
  | [d1, d2] => { results := [.lit (.bool true)], args := [d1, d2] }
  | _ => none }
def stackRunsRow : OpenClaim := { program := "ytfljmnjdijikcaa", sum := "2370ae3da7868fd2d11795f690bc60a40021b448a3c324317654edfde29a4928", func := "strainer/strainerlaw25.StackRuns", spec := "stackRuns", unfollowed := true, recurses := true, apart := false }
def StackRunsSaid : Prop := stackRunsRow.holds Try.pinned (OpenSpec.ofChange stackRunsSpec)

/-- ITS FALSE NEIGHBOUR: 'it returns false'. Refute it at one input. -/
def stackRunsWrong : ChangeSpec := { name := "stackRuns", fn := fun _ => fun
  | [d1, d2] => { results := [.lit (.bool false)], args := [d1, d2] }
  | _ => none }
def StackRunsWrongFalsely : Prop := stackRunsRow.holds Try.pinned (OpenSpec.ofChange stackRunsWrong)

/-- 'strainerlaw16.NormConds': WHATEVER THE INPUT: true; the input reads as it did. -/
def normCondsSpec : ChangeSpec := { name := "normConds", fn := fun _ => fun
  | [d] => { results := [.lit (.bool true)], args := [d] }
  | _ => none }
def normCondsRow : OpenClaim := { program := "ytfljmnjdijikcaa", sum := "2370ae3da7868fd2d11795f690bc60a40021b448a3c324317654edfde29a4928", func := "strainer/strainerlaw16.NormConds", spec := "normConds", unfollowed := true, recurses := true, apart := false }
def NormCondsSaid : Prop := normCondsRow.holds Try.pinned (OpenSpec.ofChange normCondsSpec)

/-- ITS FALSE NEIGHBOUR: 'it returns false'. Refute it at one input. -/
def normCondsWrong : ChangeSpec := { name := "normConds", fn := fun _ => fun
  | [d] => { results := [.lit (.bool false)], args := [d] }
  | _ => none }
def NormCondsWrongFalsely : Prop := normCondsRow.holds Try.pinned (OpenSpec.ofChange normCondsWrong)

/-- 'strainerlaw16.NormHolds': WHATEVER THE INPUT: true; the input reads as it did. -/
def normHoldsSpec : ChangeSpec := { name := "normHolds", fn := fun _ => fun
  | [d1, d2] => { results := [.lit (.bool true)], args := [d1, d2] }
  | _ => none }
def normHoldsRow : OpenClaim := { program := "ytfljmnjdijikcaa", sum := "2370ae3da7868fd2d11795f690bc60a40021b448a3c324317654edfde29a4928", func := "strainer/strainerlaw16.NormHolds", spec := "normHolds", unfollowed := true, recurses := true, apart := false }
def NormHoldsSaid : Prop := normHoldsRow.holds Try.pinned (OpenSpec.ofChange normHoldsSpec)

/-- ITS FALSE NEIGHBOUR: 'it returns false'. Refute it at one input. -/
def normHoldsWrong : ChangeSpec := { name := "normHolds", fn := fun _ => fun
  | [d1, d2] => { results := [.lit (.bool false)], args := [d1, d2] }
  | _ => none }
def NormHoldsWrongFalsely : Prop := normHoldsRow.holds Try.pinned (OpenSpec.ofChange normHoldsWrong)

/-- 'strainerlaw07.FlowTells': WHATEVER THE INPUT: true; the input reads as it did. -/
def flowTellsSpec : ChangeSpec := { name := "flowTells", fn := fun _ => fun
  | [d] => { results := [.lit (.bool true)], args := [d] }
  | _ => none }
def flowTellsRow : OpenClaim := { program := "ytfljmnjdijikcaa", sum := "2370ae3da7868fd2d11795f690bc60a40021b448a3c324317654edfde29a4928", func := "strainer/strainerlaw07.FlowTells", spec := "flowTells", unfollowed := true, recurses := true, apart := false }
def FlowTellsSaid : Prop := flowTellsRow.holds Try.pinned (OpenSpec.ofChange flowTellsSpec)

/-- ITS FALSE NEIGHBOUR: 'it returns false'. Refute it at one input. -/
def flowTellsWrong : ChangeSpec := { name := "flowTells", fn := fun _ => fun
  | [d] => { results := [.lit (.bool false)], args := [d] }
  | _ => none }
def FlowTellsWrongFalsely : Prop := flowTellsRow.holds Try.pinned (OpenSpec.ofChange flowTellsWrong)

/- THE SECOND FORM. 'bulk': how many values and letters a reading holds, each counted each time it is reached (what is shared counts as often as it is met; a slice's spare places count too). A statement '..UptoSaid' is the law's where the arguments, and the package variables that the reading takes, are together of bulk at most 1048576: NARROWER than '..Said'. Prove '..Said' where nothing that the law and all that it calls make is longer than what came in: it says more and counts as full. Else prove '..UptoSaid'. A law counts once. -/
mutual
def uptoBulk {H : Type} : DataW H → Nat
  | .lit (.string bytes) => bytes.length + 1
  | .lit _ => 1
  | .nil => 1
  | .ptr d => uptoBulk d + 1
  | .slice elems spare => uptoBulkAll elems + uptoBulkAll spare + 1
  | .agg parts => uptoBulkAll parts + 1
  | .iface _ d => uptoBulk d + 1
  | .map entries => uptoBulkEntries entries + 1
  | .held _ => 1
def uptoBulkAll {H : Type} : List (DataW H) → Nat
  | [] => 0
  | d :: r => uptoBulk d + uptoBulkAll r
def uptoBulkEntries {H : Type} : List (Lit × DataW H) → Nat
  | [] => 0
  | x :: r => uptoBulkEntry x + uptoBulkEntries r
def uptoBulkEntry {H : Type} : Lit × DataW H → Nat
  | (.string bytes, d) => bytes.length + uptoBulk d + 1
  | (_, d) => uptoBulk d + 1
 end
def uptoSmall : (H : Type) → List (DataW H) → Bool := fun _ ds => decide (uptoBulkAll ds ≤ 1048576)
def OpenSpec.upto (s : _root_.Go.ChangeSpec) : _root_.Go.OpenSpec := { _root_.Go.OpenSpec.ofChange s with cond := some uptoSmall }

/-- 'strainerlaw25.StackRuns', WHERE WHAT IT READS IS OF BULK AT MOST 1048576: true; the input reads as it did. -/
def stackRunsUptoRow : OpenClaim := { program := "ytfljmnjdijikcaa", sum := "2370ae3da7868fd2d11795f690bc60a40021b448a3c324317654edfde29a4928", func := "strainer/strainerlaw25.StackRuns", spec := "stackRuns", unfollowed := true, recurses := true, apart := false, narrowed := true }
def StackRunsUptoSaid : Prop := stackRunsUptoRow.holds Try.pinned (OpenSpec.upto stackRunsSpec)

/-- 'strainerlaw16.NormConds', WHERE WHAT IT READS IS OF BULK AT MOST 1048576: true; the input reads as it did. -/
def normCondsUptoRow : OpenClaim := { program := "ytfljmnjdijikcaa", sum := "2370ae3da7868fd2d11795f690bc60a40021b448a3c324317654edfde29a4928", func := "strainer/strainerlaw16.NormConds", spec := "normConds", unfollowed := true, recurses := true, apart := false, narrowed := true }
def NormCondsUptoSaid : Prop := normCondsUptoRow.holds Try.pinned (OpenSpec.upto normCondsSpec)

/-- 'strainerlaw16.NormHolds', WHERE WHAT IT READS IS OF BULK AT MOST 1048576: true; the input reads as it did. -/
def normHoldsUptoRow : OpenClaim := { program := "ytfljmnjdijikcaa", sum := "2370ae3da7868fd2d11795f690bc60a40021b448a3c324317654edfde29a4928", func := "strainer/strainerlaw16.NormHolds", spec := "normHolds", unfollowed := true, recurses := true, apart := false, narrowed := true }
def NormHoldsUptoSaid : Prop := normHoldsUptoRow.holds Try.pinned (OpenSpec.upto normHoldsSpec)

/-- 'strainerlaw07.FlowTells', WHERE WHAT IT READS IS OF BULK AT MOST 1048576: true; the input reads as it did. -/
def flowTellsUptoRow : OpenClaim := { program := "ytfljmnjdijikcaa", sum := "2370ae3da7868fd2d11795f690bc60a40021b448a3c324317654edfde29a4928", func := "strainer/strainerlaw07.FlowTells", spec := "flowTells", unfollowed := true, recurses := true, apart := false, narrowed := true }
def FlowTellsUptoSaid : Prop := flowTellsUptoRow.holds Try.pinned (OpenSpec.upto flowTellsSpec)

end Rows
end Go.Proofs.Ytfljmnjdijikcaa
