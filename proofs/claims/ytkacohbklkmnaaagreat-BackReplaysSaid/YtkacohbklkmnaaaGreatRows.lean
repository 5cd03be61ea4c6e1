/-
  No cell of these rows narrows 'for every input' (looked for: loops, veiled, ifaces, maps, wideKeys, modest, calm, conditions, laid).
  DERIVED. THE GIVEN ROWS OF THIS SEAT. 3 by the template 'for every input the law returns true; each argument reads behind the call as it read before'; 0 by the template 'total and deterministic' (their statements: YtkacohbklkmnaaaGreatTotals.lean).
  GIVEN WITH THE SEED: the statements are not yours to turn. If you find one false, say at which input.
  Laid BY PROGRAM, IN A SANDBOX (cutbox-rows.mjs): the forced cells as the released guide's own fill.sh prints them over the translation 687ecb70fa6c1251… (all of the seat's roots in one cut). By AI agents, Wed Nov 11 2026. No macro, syntax, notation, axiom, sorry.
-/
import Derived.Test.YtkacohbklkmnaaaGreatChecked
import GoSem.Claim
import GoSem.ClaimJoined
import GoSem.ClaimMapViews
import Derived.JoinedTies
import Derived.KernelRfl
namespace Go.Proofs.YtkacohbklkmnaaaGreat
/- THE CELL 'sum', in the pinned program and in every row, IS THE sha256 OF THE DUMP (.gsa) THAT YtkacohbklkmnaaaGreatProg.lean LOADS. Nothing in Lean hashes anything: it is a label: what it is worth is what the hold of that sum in a sandbox is worth. -/
noncomputable def Tryz.pinned : Pinned := { name := "ytkacohbklkmnaaagreat", sum := "687ecb70fa6c125147f13f618fed3913e5c3f3a5d8d436bfe3f23b60a6ed454b", checked := Tryz.checked }
namespace Rows
def none {H : Type} : Left H := { results := [], args := [] }

/-- 'sextantlaw20.BackKnown': WHATEVER THE INPUT: true; the input reads as it did. -/
def backKnownSpec : ChangeSpec := { name := "backKnown", fn := fun _ => fun
  | [] => { results := [.lit (.bool true)], args := [] }
  | _ => none }
def backKnownRow : OpenClaim := { program := "ytkacohbklkmnaaagreat", sum := "687ecb70fa6c125147f13f618fed3913e5c3f3a5d8d436bfe3f23b60a6ed454b", func := "sextant/sextantlaw20.BackKnown", spec := "backKnown", unfollowed := true, recurses := true, apart := false }
def BackKnownSaid : Prop := backKnownRow.holds Tryz.pinned (OpenSpec.ofChange backKnownSpec)

/-- ITS FALSE NEIGHBOUR: 'it returns false'. Refute it at one input. -/
def backKnownWrong : ChangeSpec := { name := "backKnown", fn := fun _ => fun
  | [] => { results := [.lit (.bool false)], args := [] }
  | _ => none }
def BackKnownWrongFalsely : Prop := backKnownRow.holds Tryz.pinned (OpenSpec.ofChange backKnownWrong)

/-- 'sextantlaw20.BackReplays': WHATEVER THE INPUT: true; the input reads as it did. -/
def backReplaysSpec : ChangeSpec := { name := "backReplays", fn := fun _ => fun
  | [d1, d2] => { results := [.lit (.bool true)], args := [d1, d2] }
  | _ => none }
def backReplaysRow : OpenClaim := { program := "ytkacohbklkmnaaagreat", sum := "687ecb70fa6c125147f13f618fed3913e5c3f3a5d8d436bfe3f23b60a6ed454b", func := "sextant/sextantlaw20.BackReplays", spec := "backReplays", unfollowed := true, recurses := true, apart := false }
def BackReplaysSaid : Prop := backReplaysRow.holds Tryz.pinned (OpenSpec.ofChange backReplaysSpec)

/-- ITS FALSE NEIGHBOUR: 'it returns false'. Refute it at one input. -/
def backReplaysWrong : ChangeSpec := { name := "backReplays", fn := fun _ => fun
  | [d1, d2] => { results := [.lit (.bool false)], args := [d1, d2] }
  | _ => none }
def BackReplaysWrongFalsely : Prop := backReplaysRow.holds Tryz.pinned (OpenSpec.ofChange backReplaysWrong)

/-- 'sextantlaw20.BackKeeps': WHATEVER THE INPUT: true; the input reads as it did. -/
def backKeepsSpec : ChangeSpec := { name := "backKeeps", fn := fun _ => fun
  | [d1, d2] => { results := [.lit (.bool true)], args := [d1, d2] }
  | _ => none }
def backKeepsRow : OpenClaim := { program := "ytkacohbklkmnaaagreat", sum := "687ecb70fa6c125147f13f618fed3913e5c3f3a5d8d436bfe3f23b60a6ed454b", func := "sextant/sextantlaw20.BackKeeps", spec := "backKeeps", unfollowed := true, recurses := true, apart := false }
def BackKeepsSaid : Prop := backKeepsRow.holds Tryz.pinned (OpenSpec.ofChange backKeepsSpec)

/-- ITS FALSE NEIGHBOUR: 'it returns false'. Refute it at one input. -/
def backKeepsWrong : ChangeSpec := { name := "backKeeps", fn := fun _ => fun
  | [d1, d2] => { results := [.lit (.bool false)], args := [d1, d2] }
  | _ => none }
def BackKeepsWrongFalsely : Prop := backKeepsRow.holds Tryz.pinned (OpenSpec.ofChange backKeepsWrong)

/- THE SECOND FORM. 'bulk': how many values and letters a reading holds, each counted each time it is reached (what is shared counts as often as it is met; a slice's spare places count too). A statement '..UptoSaid' is the law's where the arguments, and the package variables that the reading takes, are together of bulk at most 1048576: NARROWER than '..Said'. Prove '..Said' where nothing that the law and all that it calls make is longer than what came in: it says more and counts as full. Else prove '..UptoSaid'. A law counts once. -/
mutual
def uptoBulk {H : Type} : DataW H → Nat
  | .lit (.string bytes) => bytes.length + 1
  | .lit _ => 1
  | .nil => 1
  | .ptr d => uptoBulk d + 1
  | .slice elems spare => uptoBulkAll elems + uptoBulkAll spare + 1
  | .agg parts => uptoBulkAll parts + 1
  | .iface _ d => uptoBulk d + 1
  | .map entries => uptoBulkEntries entries + 1
  | .held _ => 1
def uptoBulkAll {H : Type} : List (DataW H) → Nat
  | [] => 0
  | d :: r => uptoBulk d + uptoBulkAll r
def uptoBulkEntries {H : Type} : List (Lit × DataW H) → Nat
  | [] => 0
  | x :: r => uptoBulkEntry x + uptoBulkEntries r
def uptoBulkEntry {H : Type} : Lit × DataW H → Nat
  | (.string bytes, d) => bytes.length + uptoBulk d + 1
  | (_, d) => uptoBulk d + 1
 end
def uptoSmall : (H : Type) → List (DataW H) → Bool := fun _ ds => decide (uptoBulkAll ds ≤ 1048576)
def OpenSpec.upto (s : _root_.Go.ChangeSpec) : _root_.Go.OpenSpec := { _root_.Go.OpenSpec.ofChange s with cond := some uptoSmall }

/-- 'sextantlaw20.BackKnown', WHERE WHAT IT READS IS OF BULK AT MOST 1048576: true; the input reads as it did. -/
def backKnownUptoRow : OpenClaim := { program := "ytkacohbklkmnaaagreat", sum := "687ecb70fa6c125147f13f618fed3913e5c3f3a5d8d436bfe3f23b60a6ed454b", func := "sextant/sextantlaw20.BackKnown", spec := "backKnown", unfollowed := true, recurses := true, apart := false, narrowed := true }
def BackKnownUptoSaid : Prop := backKnownUptoRow.holds Tryz.pinned (OpenSpec.upto backKnownSpec)

/-- 'sextantlaw20.BackReplays', WHERE WHAT IT READS IS OF BULK AT MOST 1048576: true; the input reads as it did. -/
def backReplaysUptoRow : OpenClaim := { program := "ytkacohbklkmnaaagreat", sum := "687ecb70fa6c125147f13f618fed3913e5c3f3a5d8d436bfe3f23b60a6ed454b", func := "sextant/sextantlaw20.BackReplays", spec := "backReplays", unfollowed := true, recurses := true, apart := false, narrowed := true }
def BackReplaysUptoSaid : Prop := backReplaysUptoRow.holds Tryz.pinned (OpenSpec.upto backReplaysSpec)

/-- 'sextantlaw20.BackKeeps', WHERE WHAT IT READS IS OF BULK AT MOST 1048576: true; the input reads as it did. -/
def backKeepsUptoRow : OpenClaim := { program := "ytkacohbklkmnaaagreat", sum := "687ecb70fa6c125147f13f618fed3913e5c3f3a5d8d436bfe3f23b60a6ed454b", func := "sextant/sextantlaw20.BackKeeps", spec := "backKeeps", unfollowed := true, recurses := true, apart := false, narrowed := true }
def BackKeepsUptoSaid : Prop := backKeepsUptoRow.holds Tryz.pinned (OpenSpec.upto backKeepsSpec)

end Rows
end Go.Proofs.YtkacohbklkmnaaaGreat
