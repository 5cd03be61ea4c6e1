/-
  No cell of these rows narrows 'for every input' (looked for: loops, veiled, ifaces, maps, wideKeys, modest, calm, conditions, laid).
  DERIVED. THE GIVEN ROWS OF THIS SEAT. 3 by the template 'for every input the law returns true; each argument reads behind the call as it read before'; 0 by the template 'total and deterministic' (their statements: YtblkdbffpjlkaaaTotals.lean).
  GIVEN WITH THE SEED: the statements are not yours to turn. If you find one false, say at which input.
  Laid BY PROGRAM, IN A SANDBOX (cutbox-rows.mjs): the forced cells as the released guide's own fill.sh prints them over the translation 1e246c4bdb87f02a… (all of the seat's roots in one cut). By AI agents, Wed Nov 11 2026. No macro, syntax, notation, axiom, sorry.
-/
import Derived.Test.YtblkdbffpjlkaaaChecked
import GoSem.Claim
import GoSem.ClaimJoined
import GoSem.ClaimMapViews
import Derived.JoinedTies
import Derived.KernelRfl
namespace Go.Proofs.Ytblkdbffpjlkaaa
/- THE CELL 'sum', in the pinned program and in every row, IS THE sha256 OF THE DUMP (.gsa) THAT YtblkdbffpjlkaaaProg.lean LOADS. Nothing in Lean hashes anything: it is a label: what it is worth is what the hold of that sum in a sandbox is worth. -/
noncomputable def Try.pinned : Pinned := { name := "ytblkdbffpjlkaaa", sum := "1e246c4bdb87f02ad31dae453f75f5fbc795d243088dbc7b98721e55bd563331", checked := Try.checked }
namespace Rows
def none {H : Type} : Left H := { results := [], args := [] }

/-- 'sextantlaw13.SrcKnown': WHATEVER THE INPUT: true; the input reads as it did. -/
def srcKnownSpec : ChangeSpec := { name := "srcKnown", fn := fun _ => fun
  | [] => { results := [.lit (.bool true)], args := [] }
  | _ => none }
def srcKnownRow : OpenClaim := { program := "ytblkdbffpjlkaaa", sum := "1e246c4bdb87f02ad31dae453f75f5fbc795d243088dbc7b98721e55bd563331", func := "sextant/sextantlaw13.SrcKnown", spec := "srcKnown", unfollowed := true, recurses := true, apart := false }
def SrcKnownSaid : Prop := srcKnownRow.holds Try.pinned (OpenSpec.ofChange srcKnownSpec)

/-- ITS FALSE NEIGHBOUR: 'it returns false'. Refute it at one input. -/
def srcKnownWrong : ChangeSpec := { name := "srcKnown", fn := fun _ => fun
  | [] => { results := [.lit (.bool false)], args := [] }
  | _ => none }
def SrcKnownWrongFalsely : Prop := srcKnownRow.holds Try.pinned (OpenSpec.ofChange srcKnownWrong)

/-- 'sextantlaw13.SrcValues': WHATEVER THE INPUT: true; the input reads as it did. -/
def srcValuesSpec : ChangeSpec := { name := "srcValues", fn := fun _ => fun
  | [d1, d2] => { results := [.lit (.bool true)], args := [d1, d2] }
  | _ => none }
def srcValuesRow : OpenClaim := { program := "ytblkdbffpjlkaaa", sum := "1e246c4bdb87f02ad31dae453f75f5fbc795d243088dbc7b98721e55bd563331", func := "sextant/sextantlaw13.SrcValues", spec := "srcValues", unfollowed := true, recurses := true, apart := false }
def SrcValuesSaid : Prop := srcValuesRow.holds Try.pinned (OpenSpec.ofChange srcValuesSpec)

/-- ITS FALSE NEIGHBOUR: 'it returns false'. Refute it at one input. -/
def srcValuesWrong : ChangeSpec := { name := "srcValues", fn := fun _ => fun
  | [d1, d2] => { results := [.lit (.bool false)], args := [d1, d2] }
  | _ => none }
def SrcValuesWrongFalsely : Prop := srcValuesRow.holds Try.pinned (OpenSpec.ofChange srcValuesWrong)

/-- 'sextantlaw13.SrcMore': WHATEVER THE INPUT: true; the input reads as it did. -/
def srcMoreSpec : ChangeSpec := { name := "srcMore", fn := fun _ => fun
  | [d1, d2, d3, d4, d5] => { results := [.lit (.bool true)], args := [d1, d2, d3, d4, d5] }
  | _ => none }
def srcMoreRow : OpenClaim := { program := "ytblkdbffpjlkaaa", sum := "1e246c4bdb87f02ad31dae453f75f5fbc795d243088dbc7b98721e55bd563331", func := "sextant/sextantlaw13.SrcMore", spec := "srcMore", unfollowed := true, recurses := true, apart := false }
def SrcMoreSaid : Prop := srcMoreRow.holds Try.pinned (OpenSpec.ofChange srcMoreSpec)

/-- ITS FALSE NEIGHBOUR: 'it returns false'. Refute it at one input. -/
def srcMoreWrong : ChangeSpec := { name := "srcMore", fn := fun _ => fun
  | [d1, d2, d3, d4, d5] => { results := [.lit (.bool false)], args := [d1, d2, d3, d4, d5] }
  | _ => none }
def SrcMoreWrongFalsely : Prop := srcMoreRow.holds Try.pinned (OpenSpec.ofChange srcMoreWrong)

/- THE SECOND FORM. 'bulk': how many values and letters a reading holds, each counted each time it is reached (what is shared counts as often as it is met; a slice's spare places count too). A statement '..UptoSaid' is the law's where the arguments, and the package variables that the reading takes, are together of bulk at most 1048576: NARROWER than '..Said'. Prove '..Said' where nothing that the law and all that it calls make is longer than what came in: it says more and counts as full. Else prove '..UptoSaid'. A law counts once. -/
mutual
def uptoBulk {H : Type} : DataW H → Nat
  | .lit (.string bytes) => bytes.length + 1
  | .lit _ => 1
  | .nil => 1
  | .ptr d => uptoBulk d + 1
  | .slice elems spare => uptoBulkAll elems + uptoBulkAll spare + 1
  | .agg parts => uptoBulkAll parts + 1
  | .iface _ d => uptoBulk d + 1
  | .map entries => uptoBulkEntries entries + 1
  | .held _ => 1
def uptoBulkAll {H : Type} : List (DataW H) → Nat
  | [] => 0
  | d :: r => uptoBulk d + uptoBulkAll r
def uptoBulkEntries {H : Type} : List (Lit × DataW H) → Nat
  | [] => 0
  | x :: r => uptoBulkEntry x + uptoBulkEntries r
def uptoBulkEntry {H : Type} : Lit × DataW H → Nat
  | (.string bytes, d) => bytes.length + uptoBulk d + 1
  | (_, d) => uptoBulk d + 1
 end
def uptoSmall : (H : Type) → List (DataW H) → Bool := fun _ ds => decide (uptoBulkAll ds ≤ 1048576)
def OpenSpec.upto (s : _root_.Go.ChangeSpec) : _root_.Go.OpenSpec := { _root_.Go.OpenSpec.ofChange s with cond := some uptoSmall }

/-- 'sextantlaw13.SrcKnown', WHERE WHAT IT READS IS OF BULK AT MOST 1048576: true; the input reads as it did. -/
def srcKnownUptoRow : OpenClaim := { program := "ytblkdbffpjlkaaa", sum := "1e246c4bdb87f02ad31dae453f75f5fbc795d243088dbc7b98721e55bd563331", func := "sextant/sextantlaw13.SrcKnown", spec := "srcKnown", unfollowed := true, recurses := true, apart := false, narrowed := true }
def SrcKnownUptoSaid : Prop := srcKnownUptoRow.holds Try.pinned (OpenSpec.upto srcKnownSpec)

/-- 'sextantlaw13.SrcValues', WHERE WHAT IT READS IS OF BULK AT MOST 1048576: true; the input reads as it did. -/
def srcValuesUptoRow : OpenClaim := { program := "ytblkdbffpjlkaaa", sum := "1e246c4bdb87f02ad31dae453f75f5fbc795d243088dbc7b98721e55bd563331", func := "sextant/sextantlaw13.SrcValues", spec := "srcValues", unfollowed := true, recurses := true, apart := false, narrowed := true }
def SrcValuesUptoSaid : Prop := srcValuesUptoRow.holds Try.pinned (OpenSpec.upto srcValuesSpec)

/-- 'sextantlaw13.SrcMore', WHERE WHAT IT READS IS OF BULK AT MOST 1048576: true; the input reads as it did. -/
def srcMoreUptoRow : OpenClaim := { program := "ytblkdbffpjlkaaa", sum := "1e246c4bdb87f02ad31dae453f75f5fbc795d243088dbc7b98721e55bd563331", func := "sextant/sextantlaw13.SrcMore", spec := "srcMore", unfollowed := true, recurses := true, apart := false, narrowed := true }
def SrcMoreUptoSaid : Prop := srcMoreUptoRow.holds Try.pinned (OpenSpec.upto srcMoreSpec)

end Rows
end Go.Proofs.Ytblkdbffpjlkaaa
