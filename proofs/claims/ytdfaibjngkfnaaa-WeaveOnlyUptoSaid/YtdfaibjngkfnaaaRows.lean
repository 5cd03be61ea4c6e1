/-
  No cell of these rows narrows 'for every input' (looked for: loops, veiled, ifaces, maps, wideKeys, modest, calm, conditions, laid).
  DERIVED. THE GIVEN ROWS OF THIS SEAT. 9 by the template 'for every input the law returns true; each argument reads behind the call as it read before'; 0 by the template 'total and deterministic' (their statements: YtdfaibjngkfnaaaTotals.lean).
  GIVEN WITH THE SEED: the statements are not yours to turn. If you find one false, say at which input.
  Laid BY PROGRAM, IN A SANDBOX (cutbox-rows.mjs): the forced cells as the released guide's own fill.sh prints them over the translation 316a7503b2cba7b4… (all of the seat's roots in one cut). By AI agents, Wed Nov 11 2026. No macro, syntax, notation, axiom, sorry.
-/
import Derived.Test.YtdfaibjngkfnaaaChecked
import GoSem.Claim
import GoSem.ClaimJoined
import GoSem.ClaimMapViews
import Derived.JoinedTies
import Derived.KernelRfl
namespace Go.Proofs.Ytdfaibjngkfnaaa
/- THE CELL 'sum', in the pinned program and in every row, IS THE sha256 OF THE DUMP (.gsa) THAT YtdfaibjngkfnaaaProg.lean LOADS. Nothing in Lean hashes anything: it is a label: what it is worth is what the hold of that sum in a sandbox is worth. -/
noncomputable def Try.pinned : Pinned := { name := "ytdfaibjngkfnaaa", sum := "316a7503b2cba7b43614f961d5435369fd1bb2232eb94f5c40c896cb1078595b", checked := Try.checked }
namespace Rows
def none {H : Type} : Left H := { results := [], args := [] }

/-- 'sextantlaw29.WeaveWeaves': WHATEVER THE INPUT: true; the input reads as it did. -/
def weaveWeavesSpec : ChangeSpec := { name := "weaveWeaves", fn := fun _ => fun
  | [d] => { results := [.lit (.bool true)], args := [d] }
  | _ => none }
def weaveWeavesRow : OpenClaim := { program := "ytdfaibjngkfnaaa", sum := "316a7503b2cba7b43614f961d5435369fd1bb2232eb94f5c40c896cb1078595b", func := "sextant/sextantlaw29.WeaveWeaves", spec := "weaveWeaves", unfollowed := true, recurses := true, apart := false }
def WeaveWeavesSaid : Prop := weaveWeavesRow.holds Try.pinned (OpenSpec.ofChange weaveWeavesSpec)

/-- ITS FALSE NEIGHBOUR: 'it returns false'. Refute it at one input. -/
def weaveWeavesWrong : ChangeSpec := { name := "weaveWeaves", fn := fun _ => fun
  | [d] => { results := [.lit (.bool false)], args := [d] }
  | _ => none }
def WeaveWeavesWrongFalsely : Prop := weaveWeavesRow.holds Try.pinned (OpenSpec.ofChange weaveWeavesWrong)

/-- 'sextantlaw29.WeaveEdges': WHATEVER THE INPUT: true; the input reads as it did. -/
def weaveEdgesSpec : ChangeSpec := { name := "weaveEdges", fn := fun _ => fun
  | [] => { results := [.lit (.bool true)], args := [] }
  | _ => none }
def weaveEdgesRow : OpenClaim := { program := "ytdfaibjngkfnaaa", sum := "316a7503b2cba7b43614f961d5435369fd1bb2232eb94f5c40c896cb1078595b", func := "sextant/sextantlaw29.WeaveEdges", spec := "weaveEdges", unfollowed := true, recurses := true, apart := false }
def WeaveEdgesSaid : Prop := weaveEdgesRow.holds Try.pinned (OpenSpec.ofChange weaveEdgesSpec)

/-- ITS FALSE NEIGHBOUR: 'it returns false'. Refute it at one input. -/
def weaveEdgesWrong : ChangeSpec := { name := "weaveEdges", fn := fun _ => fun
  | [] => { results := [.lit (.bool false)], args := [] }
  | _ => none }
def WeaveEdgesWrongFalsely : Prop := weaveEdgesRow.holds Try.pinned (OpenSpec.ofChange weaveEdgesWrong)

/-- 'sextantlaw29.WeaveChecks': WHATEVER THE INPUT: true; the input reads as it did. -/
def weaveChecksSpec : ChangeSpec := { name := "weaveChecks", fn := fun _ => fun
  | [d] => { results := [.lit (.bool true)], args := [d] }
  | _ => none }
def weaveChecksRow : OpenClaim := { program := "ytdfaibjngkfnaaa", sum := "316a7503b2cba7b43614f961d5435369fd1bb2232eb94f5c40c896cb1078595b", func := "sextant/sextantlaw29.WeaveChecks", spec := "weaveChecks", unfollowed := true, recurses := true, apart := false }
def WeaveChecksSaid : Prop := weaveChecksRow.holds Try.pinned (OpenSpec.ofChange weaveChecksSpec)

/-- ITS FALSE NEIGHBOUR: 'it returns false'. Refute it at one input. -/
def weaveChecksWrong : ChangeSpec := { name := "weaveChecks", fn := fun _ => fun
  | [d] => { results := [.lit (.bool false)], args := [d] }
  | _ => none }
def WeaveChecksWrongFalsely : Prop := weaveChecksRow.holds Try.pinned (OpenSpec.ofChange weaveChecksWrong)

/-- 'sextantlaw29.WeaveGraphs': WHATEVER THE INPUT: true; the input reads as it did. -/
def weaveGraphsSpec : ChangeSpec := { name := "weaveGraphs", fn := fun _ => fun
  | [d] => { results := [.lit (.bool true)], args := [d] }
  | _ => none }
def weaveGraphsRow : OpenClaim := { program := "ytdfaibjngkfnaaa", sum := "316a7503b2cba7b43614f961d5435369fd1bb2232eb94f5c40c896cb1078595b", func := "sextant/sextantlaw29.WeaveGraphs", spec := "weaveGraphs", unfollowed := true, recurses := true, apart := false }
def WeaveGraphsSaid : Prop := weaveGraphsRow.holds Try.pinned (OpenSpec.ofChange weaveGraphsSpec)

/-- ITS FALSE NEIGHBOUR: 'it returns false'. Refute it at one input. -/
def weaveGraphsWrong : ChangeSpec := { name := "weaveGraphs", fn := fun _ => fun
  | [d] => { results := [.lit (.bool false)], args := [d] }
  | _ => none }
def WeaveGraphsWrongFalsely : Prop := weaveGraphsRow.holds Try.pinned (OpenSpec.ofChange weaveGraphsWrong)

/-- 'sextantlaw29.WeaveKnown': WHATEVER THE INPUT: true; the input reads as it did. -/
def weaveKnownSpec : ChangeSpec := { name := "weaveKnown", fn := fun _ => fun
  | [] => { results := [.lit (.bool true)], args := [] }
  | _ => none }
def weaveKnownRow : OpenClaim := { program := "ytdfaibjngkfnaaa", sum := "316a7503b2cba7b43614f961d5435369fd1bb2232eb94f5c40c896cb1078595b", func := "sextant/sextantlaw29.WeaveKnown", spec := "weaveKnown", unfollowed := true, recurses := true, apart := false }
def WeaveKnownSaid : Prop := weaveKnownRow.holds Try.pinned (OpenSpec.ofChange weaveKnownSpec)

/-- ITS FALSE NEIGHBOUR: 'it returns false'. Refute it at one input. -/
def weaveKnownWrong : ChangeSpec := { name := "weaveKnown", fn := fun _ => fun
  | [] => { results := [.lit (.bool false)], args := [] }
  | _ => none }
def WeaveKnownWrongFalsely : Prop := weaveKnownRow.holds Try.pinned (OpenSpec.ofChange weaveKnownWrong)

/-- 'sextantlaw29.WeaveKept': WHATEVER THE INPUT: true; the input reads as it did. -/
def weaveKeptSpec : ChangeSpec := { name := "weaveKept", fn := fun _ => fun
  | [d] => { results := [.lit (.bool true)], args := [d] }
  | _ => none }
def weaveKeptRow : OpenClaim := { program := "ytdfaibjngkfnaaa", sum := "316a7503b2cba7b43614f961d5435369fd1bb2232eb94f5c40c896cb1078595b", func := "sextant/sextantlaw29.WeaveKept", spec := "weaveKept", unfollowed := true, recurses := true, apart := false }
def WeaveKeptSaid : Prop := weaveKeptRow.holds Try.pinned (OpenSpec.ofChange weaveKeptSpec)

/-- ITS FALSE NEIGHBOUR: 'it returns false'. Refute it at one input. -/
def weaveKeptWrong : ChangeSpec := { name := "weaveKept", fn := fun _ => fun
  | [d] => { results := [.lit (.bool false)], args := [d] }
  | _ => none }
def WeaveKeptWrongFalsely : Prop := weaveKeptRow.holds Try.pinned (OpenSpec.ofChange weaveKeptWrong)

/-- 'sextantlaw29.WeaveCanons': WHATEVER THE INPUT: true; the input reads as it did. -/
def weaveCanonsSpec : ChangeSpec := { name := "weaveCanons", fn := fun _ => fun
  | [d] => { results := [.lit (.bool true)], args := [d] }
  | _ => none }
def weaveCanonsRow : OpenClaim := { program := "ytdfaibjngkfnaaa", sum := "316a7503b2cba7b43614f961d5435369fd1bb2232eb94f5c40c896cb1078595b", func := "sextant/sextantlaw29.WeaveCanons", spec := "weaveCanons", unfollowed := true, recurses := true, apart := false }
def WeaveCanonsSaid : Prop := weaveCanonsRow.holds Try.pinned (OpenSpec.ofChange weaveCanonsSpec)

/-- ITS FALSE NEIGHBOUR: 'it returns false'. Refute it at one input. -/
def weaveCanonsWrong : ChangeSpec := { name := "weaveCanons", fn := fun _ => fun
  | [d] => { results := [.lit (.bool false)], args := [d] }
  | _ => none }
def WeaveCanonsWrongFalsely : Prop := weaveCanonsRow.holds Try.pinned (OpenSpec.ofChange weaveCanonsWrong)

/-- 'sextantlaw29.WeaveAlls': WHATEVER THE INPUT: true; the input reads as it did. -/
def weaveAllsSpec : ChangeSpec := { name := "weaveAlls", fn := fun _ => fun
  | [d] => { results := [.lit (.bool true)], args := [d] }
  | _ => none }
def weaveAllsRow : OpenClaim := { program := "ytdfaibjngkfnaaa", sum := "316a7503b2cba7b43614f961d5435369fd1bb2232eb94f5c40c896cb1078595b", func := "sextant/sextantlaw29.WeaveAlls", spec := "weaveAlls", unfollowed := true, recurses := true, apart := false }
def WeaveAllsSaid : Prop := weaveAllsRow.holds Try.pinned (OpenSpec.ofChange weaveAllsSpec)

/-- ITS FALSE NEIGHBOUR: 'it returns false'. Refute it at one input. -/
def weaveAllsWrong : ChangeSpec := { name := "weaveAlls", fn := fun _ => fun
  | [d] => { results := [.lit (.bool false)], args := [d] }
  | _ => none }
def WeaveAllsWrongFalsely : Prop := weaveAllsRow.holds Try.pinned (OpenSpec.ofChange weaveAllsWrong)

/-- 'sextantlaw29.WeaveOnly': WHATEVER THE INPUT: true; the input reads as it did. -/
def weaveOnlySpec : ChangeSpec := { name := "weaveOnly", fn := fun _ => fun
  | [d] => { results := [.lit (.bool true)], args := [d] }
  | _ => none }
def weaveOnlyRow : OpenClaim := { program := "ytdfaibjngkfnaaa", sum := "316a7503b2cba7b43614f961d5435369fd1bb2232eb94f5c40c896cb1078595b", func := "sextant/sextantlaw29.WeaveOnly", spec := "weaveOnly", unfollowed := true, recurses := true, apart := false }
def WeaveOnlySaid : Prop := weaveOnlyRow.holds Try.pinned (OpenSpec.ofChange weaveOnlySpec)

/-- ITS FALSE NEIGHBOUR: 'it returns false'. Refute it at one input. -/
def weaveOnlyWrong : ChangeSpec := { name := "weaveOnly", fn := fun _ => fun
  | [d] => { results := [.lit (.bool false)], args := [d] }
  | _ => none }
def WeaveOnlyWrongFalsely : Prop := weaveOnlyRow.holds Try.pinned (OpenSpec.ofChange weaveOnlyWrong)

/- THE SECOND FORM. 'bulk': how many values and letters a reading holds, each counted each time it is reached (what is shared counts as often as it is met; a slice's spare places count too). A statement '..UptoSaid' is the law's where the arguments, and the package variables that the reading takes, are together of bulk at most 1048576: NARROWER than '..Said'. Prove '..Said' where nothing that the law and all that it calls make is longer than what came in: it says more and counts as full. Else prove '..UptoSaid'. A law counts once. -/
mutual
def uptoBulk {H : Type} : DataW H → Nat
  | .lit (.string bytes) => bytes.length + 1
  | .lit _ => 1
  | .nil => 1
  | .ptr d => uptoBulk d + 1
  | .slice elems spare => uptoBulkAll elems + uptoBulkAll spare + 1
  | .agg parts => uptoBulkAll parts + 1
  | .iface _ d => uptoBulk d + 1
  | .map entries => uptoBulkEntries entries + 1
  | .held _ => 1
def uptoBulkAll {H : Type} : List (DataW H) → Nat
  | [] => 0
  | d :: r => uptoBulk d + uptoBulkAll r
def uptoBulkEntries {H : Type} : List (Lit × DataW H) → Nat
  | [] => 0
  | x :: r => uptoBulkEntry x + uptoBulkEntries r
def uptoBulkEntry {H : Type} : Lit × DataW H → Nat
  | (.string bytes, d) => bytes.length + uptoBulk d + 1
  | (_, d) => uptoBulk d + 1
 end
def uptoSmall : (H : Type) → List (DataW H) → Bool := fun _ ds => decide (uptoBulkAll ds ≤ 1048576)
def OpenSpec.upto (s : _root_.Go.ChangeSpec) : _root_.Go.OpenSpec := { _root_.Go.OpenSpec.ofChange s with cond := some uptoSmall }

/-- 'sextantlaw29.WeaveWeaves', WHERE WHAT IT READS IS OF BULK AT MOST 1048576: true; the input reads as it did. -/
def weaveWeavesUptoRow : OpenClaim := { program := "ytdfaibjngkfnaaa", sum := "316a7503b2cba7b43614f961d5435369fd1bb2232eb94f5c40c896cb1078595b", func := "sextant/sextantlaw29.WeaveWeaves", spec := "weaveWeaves", unfollowed := true, recurses := true, apart := false, narrowed := true }
def WeaveWeavesUptoSaid : Prop := weaveWeavesUptoRow.holds Try.pinned (OpenSpec.upto weaveWeavesSpec)

/-- 'sextantlaw29.WeaveEdges', WHERE WHAT IT READS IS OF BULK AT MOST 1048576: true; the input reads as it did. -/
def weaveEdgesUptoRow : OpenClaim := { program := "ytdfaibjngkfnaaa", sum := "316a7503b2cba7b43614f961d5435369fd1bb2232eb94f5c40c896cb1078595b", func := "sextant/sextantlaw29.WeaveEdges", spec := "weaveEdges", unfollowed := true, recurses := true, apart := false, narrowed := true }
def WeaveEdgesUptoSaid : Prop := weaveEdgesUptoRow.holds Try.pinned (OpenSpec.upto weaveEdgesSpec)

/-- 'sextantlaw29.WeaveChecks', WHERE WHAT IT READS IS OF BULK AT MOST 1048576: true; the input reads as it did. -/
def weaveChecksUptoRow : OpenClaim := { program := "ytdfaibjngkfnaaa", sum := "316a7503b2cba7b43614f961d5435369fd1bb2232eb94f5c40c896cb1078595b", func := "sextant/sextantlaw29.WeaveChecks", spec := "weaveChecks", unfollowed := true, recurses := true, apart := false, narrowed := true }
def WeaveChecksUptoSaid : Prop := weaveChecksUptoRow.holds Try.pinned (OpenSpec.upto weaveChecksSpec)

/-- 'sextantlaw29.WeaveGraphs', WHERE WHAT IT READS IS OF BULK AT MOST 1048576: true; the input reads as it did. -/
def weaveGraphsUptoRow : OpenClaim := { program := "ytdfaibjngkfnaaa", sum := "316a7503b2cba7b43614f961d5435369fd1bb2232eb94f5c40c896cb1078595b", func := "sextant/sextantlaw29.WeaveGraphs", spec := "weaveGraphs", unfollowed := true, recurses := true, apart := false, narrowed := true }
def WeaveGraphsUptoSaid : Prop := weaveGraphsUptoRow.holds Try.pinned (OpenSpec.upto weaveGraphsSpec)

/-- 'sextantlaw29.WeaveKnown', WHERE WHAT IT READS IS OF BULK AT MOST 1048576: true; the input reads as it did. -/
def weaveKnownUptoRow : OpenClaim := { program := "ytdfaibjngkfnaaa", sum := "316a7503b2cba7b43614f961d5435369fd1bb2232eb94f5c40c896cb1078595b", func := "sextant/sextantlaw29.WeaveKnown", spec := "weaveKnown", unfollowed := true, recurses := true, apart := false, narrowed := true }
def WeaveKnownUptoSaid : Prop := weaveKnownUptoRow.holds Try.pinned (OpenSpec.upto weaveKnownSpec)

/-- 'sextantlaw29.WeaveKept', WHERE WHAT IT READS IS OF BULK AT MOST 1048576: true; the input reads as it did. -/
def weaveKeptUptoRow : OpenClaim := { program := "ytdfaibjngkfnaaa", sum := "316a7503b2cba7b43614f961d5435369fd1bb2232eb94f5c40c896cb1078595b", func := "sextant/sextantlaw29.WeaveKept", spec := "weaveKept", unfollowed := true, recurses := true, apart := false, narrowed := true }
def WeaveKeptUptoSaid : Prop := weaveKeptUptoRow.holds Try.pinned (OpenSpec.upto weaveKeptSpec)

/-- 'sextantlaw29.WeaveCanons', WHERE WHAT IT READS IS OF BULK AT MOST 1048576: true; the input reads as it did. -/
def weaveCanonsUptoRow : OpenClaim := { program := "ytdfaibjngkfnaaa", sum := "316a7503b2cba7b43614f961d5435369fd1bb2232eb94f5c40c896cb1078595b", func := "sextant/sextantlaw29.WeaveCanons", spec := "weaveCanons", unfollowed := true, recurses := true, apart := false, narrowed := true }
def WeaveCanonsUptoSaid : Prop := weaveCanonsUptoRow.holds Try.pinned (OpenSpec.upto weaveCanonsSpec)

/-- 'sextantlaw29.WeaveAlls', WHERE WHAT IT READS IS OF BULK AT MOST 1048576: true; the input reads as it did. -/
def weaveAllsUptoRow : OpenClaim := { program := "ytdfaibjngkfnaaa", sum := "316a7503b2cba7b43614f961d5435369fd1bb2232eb94f5c40c896cb1078595b", func := "sextant/sextantlaw29.WeaveAlls", spec := "weaveAlls", unfollowed := true, recurses := true, apart := false, narrowed := true }
def WeaveAllsUptoSaid : Prop := weaveAllsUptoRow.holds Try.pinned (OpenSpec.upto weaveAllsSpec)

/-- 'sextantlaw29.WeaveOnly', WHERE WHAT IT READS IS OF BULK AT MOST 1048576: true; the input reads as it did. -/
def weaveOnlyUptoRow : OpenClaim := { program := "ytdfaibjngkfnaaa", sum := "316a7503b2cba7b43614f961d5435369fd1bb2232eb94f5c40c896cb1078595b", func := "sextant/sextantlaw29.WeaveOnly", spec := "weaveOnly", unfollowed := true, recurses := true, apart := false, narrowed := true }
def WeaveOnlyUptoSaid : Prop := weaveOnlyUptoRow.holds Try.pinned (OpenSpec.upto weaveOnlySpec)

end Rows
end Go.Proofs.Ytdfaibjngkfnaaa
