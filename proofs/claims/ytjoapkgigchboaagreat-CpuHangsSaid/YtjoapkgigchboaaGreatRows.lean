/-
  No cell of these rows narrows 'for every input' (looked for: loops, veiled, ifaces, maps, wideKeys, modest, calm, conditions, laid).
  DERIVED. THE GIVEN ROWS OF THIS SEAT. 5 by the template 'for every input the law returns true; each argument reads behind the call as it read before'; 0 by the template 'total and deterministic' (their statements: YtjoapkgigchboaaGreatTotals.lean).
  GIVEN WITH THE SEED: the statements are not yours to turn. If you find one false, say at which input.
  Laid BY PROGRAM, IN A SANDBOX (cutbox-rows.mjs): the forced cells as the released guide's own fill.sh prints them over the translation 2995e72b7946b10a… (all of the seat's roots in one cut). By AI agents, Wed Nov 11 2026. No macro, syntax, notation, axiom, sorry.
-/
import Derived.Test.YtjoapkgigchboaaGreatChecked
import GoSem.Claim
import GoSem.ClaimJoined
import GoSem.ClaimMapViews
import Derived.JoinedTies
import Derived.KernelRfl
namespace Go.Proofs.YtjoapkgigchboaaGreat
/- THE CELL 'sum', in the pinned program and in every row, IS THE sha256 OF THE DUMP (.gsa) THAT YtjoapkgigchboaaGreatProg.lean LOADS. Nothing in Lean hashes anything: it is a label: what it is worth is what the hold of that sum in a sandbox is worth. -/
noncomputable def Tryz.pinned : Pinned := { name := "ytjoapkgigchboaagreat", sum := "2995e72b7946b10a93769a1dfc454f56b5ca55b0c193f97fcaef8071c910728f", checked := Tryz.checked }
namespace Rows
def none {H : Type} : Left H := { results := [], args := [] }

/-- 'sextantlaw16.CpuClones': WHATEVER THE INPUT: true; the input reads as it did. -/
def cpuClonesSpec : ChangeSpec := { name := "cpuClones", fn := fun _ => fun
  | [d1, d2, d3, d4] => { results := [.lit (.bool true)], args := [d1, d2, d3, d4] }
  | _ => none }
def cpuClonesRow : OpenClaim := { program := "ytjoapkgigchboaagreat", sum := "2995e72b7946b10a93769a1dfc454f56b5ca55b0c193f97fcaef8071c910728f", func := "sextant/sextantlaw16.CpuClones", spec := "cpuClones", unfollowed := true, recurses := true, apart := false }
def CpuClonesSaid : Prop := cpuClonesRow.holds Tryz.pinned (OpenSpec.ofChange cpuClonesSpec)

/-- ITS FALSE NEIGHBOUR: 'it returns false'. Refute it at one input. -/
def cpuClonesWrong : ChangeSpec := { name := "cpuClones", fn := fun _ => fun
  | [d1, d2, d3, d4] => { results := [.lit (.bool false)], args := [d1, d2, d3, d4] }
  | _ => none }
def CpuClonesWrongFalsely : Prop := cpuClonesRow.holds Tryz.pinned (OpenSpec.ofChange cpuClonesWrong)

/-- 'sextantlaw16.CpuPrefix': WHATEVER THE INPUT: true; the input reads as it did. -/
def cpuPrefixSpec : ChangeSpec := { name := "cpuPrefix", fn := fun _ => fun
  | [d1, d2, d3, d4, d5, d6] => { results := [.lit (.bool true)], args := [d1, d2, d3, d4, d5, d6] }
  | _ => none }
def cpuPrefixRow : OpenClaim := { program := "ytjoapkgigchboaagreat", sum := "2995e72b7946b10a93769a1dfc454f56b5ca55b0c193f97fcaef8071c910728f", func := "sextant/sextantlaw16.CpuPrefix", spec := "cpuPrefix", unfollowed := true, recurses := true, apart := false }
def CpuPrefixSaid : Prop := cpuPrefixRow.holds Tryz.pinned (OpenSpec.ofChange cpuPrefixSpec)

/-- ITS FALSE NEIGHBOUR: 'it returns false'. Refute it at one input. -/
def cpuPrefixWrong : ChangeSpec := { name := "cpuPrefix", fn := fun _ => fun
  | [d1, d2, d3, d4, d5, d6] => { results := [.lit (.bool false)], args := [d1, d2, d3, d4, d5, d6] }
  | _ => none }
def CpuPrefixWrongFalsely : Prop := cpuPrefixRow.holds Tryz.pinned (OpenSpec.ofChange cpuPrefixWrong)

/-- 'sextantlaw16.CpuHangs': WHATEVER THE INPUT: true; the input reads as it did. -/
def cpuHangsSpec : ChangeSpec := { name := "cpuHangs", fn := fun _ => fun
  | [d1, d2, d3, d4] => { results := [.lit (.bool true)], args := [d1, d2, d3, d4] }
  | _ => none }
def cpuHangsRow : OpenClaim := { program := "ytjoapkgigchboaagreat", sum := "2995e72b7946b10a93769a1dfc454f56b5ca55b0c193f97fcaef8071c910728f", func := "sextant/sextantlaw16.CpuHangs", spec := "cpuHangs", unfollowed := true, recurses := true, apart := false }
def CpuHangsSaid : Prop := cpuHangsRow.holds Tryz.pinned (OpenSpec.ofChange cpuHangsSpec)

/-- ITS FALSE NEIGHBOUR: 'it returns false'. Refute it at one input. -/
def cpuHangsWrong : ChangeSpec := { name := "cpuHangs", fn := fun _ => fun
  | [d1, d2, d3, d4] => { results := [.lit (.bool false)], args := [d1, d2, d3, d4] }
  | _ => none }
def CpuHangsWrongFalsely : Prop := cpuHangsRow.holds Tryz.pinned (OpenSpec.ofChange cpuHangsWrong)

/-- 'sextantlaw16.CpuForm': WHATEVER THE INPUT: true; the input reads as it did. -/
def cpuFormSpec : ChangeSpec := { name := "cpuForm", fn := fun _ => fun
  | [d1, d2, d3, d4] => { results := [.lit (.bool true)], args := [d1, d2, d3, d4] }
  | _ => none }
def cpuFormRow : OpenClaim := { program := "ytjoapkgigchboaagreat", sum := "2995e72b7946b10a93769a1dfc454f56b5ca55b0c193f97fcaef8071c910728f", func := "sextant/sextantlaw16.CpuForm", spec := "cpuForm", unfollowed := true, recurses := true, apart := false }
def CpuFormSaid : Prop := cpuFormRow.holds Tryz.pinned (OpenSpec.ofChange cpuFormSpec)

/-- ITS FALSE NEIGHBOUR: 'it returns false'. Refute it at one input. -/
def cpuFormWrong : ChangeSpec := { name := "cpuForm", fn := fun _ => fun
  | [d1, d2, d3, d4] => { results := [.lit (.bool false)], args := [d1, d2, d3, d4] }
  | _ => none }
def CpuFormWrongFalsely : Prop := cpuFormRow.holds Tryz.pinned (OpenSpec.ofChange cpuFormWrong)

/-- 'sextantlaw16.CpuKept': WHATEVER THE INPUT: true; the input reads as it did. -/
def cpuKeptSpec : ChangeSpec := { name := "cpuKept", fn := fun _ => fun
  | [d1, d2, d3] => { results := [.lit (.bool true)], args := [d1, d2, d3] }
  | _ => none }
def cpuKeptRow : OpenClaim := { program := "ytjoapkgigchboaagreat", sum := "2995e72b7946b10a93769a1dfc454f56b5ca55b0c193f97fcaef8071c910728f", func := "sextant/sextantlaw16.CpuKept", spec := "cpuKept", unfollowed := true, recurses := true, apart := false }
def CpuKeptSaid : Prop := cpuKeptRow.holds Tryz.pinned (OpenSpec.ofChange cpuKeptSpec)

/-- ITS FALSE NEIGHBOUR: 'it returns false'. Refute it at one input. -/
def cpuKeptWrong : ChangeSpec := { name := "cpuKept", fn := fun _ => fun
  | [d1, d2, d3] => { results := [.lit (.bool false)], args := [d1, d2, d3] }
  | _ => none }
def CpuKeptWrongFalsely : Prop := cpuKeptRow.holds Tryz.pinned (OpenSpec.ofChange cpuKeptWrong)

/- THE SECOND FORM. 'bulk': how many values and letters a reading holds, each counted each time it is reached (what is shared counts as often as it is met; a slice's spare places count too). A statement '..UptoSaid' is the law's where the arguments, and the package variables that the reading takes, are together of bulk at most 1048576: NARROWER than '..Said'. Prove '..Said' where nothing that the law and all that it calls make is longer than what came in: it says more and counts as full. Else prove '..UptoSaid'. A law counts once. -/
mutual
def uptoBulk {H : Type} : DataW H → Nat
  | .lit (.string bytes) => bytes.length + 1
  | .lit _ => 1
  | .nil => 1
  | .ptr d => uptoBulk d + 1
  | .slice elems spare => uptoBulkAll elems + uptoBulkAll spare + 1
  | .agg parts => uptoBulkAll parts + 1
  | .iface _ d => uptoBulk d + 1
  | .map entries => uptoBulkEntries entries + 1
  | .held _ => 1
def uptoBulkAll {H : Type} : List (DataW H) → Nat
  | [] => 0
  | d :: r => uptoBulk d + uptoBulkAll r
def uptoBulkEntries {H : Type} : List (Lit × DataW H) → Nat
  | [] => 0
  | x :: r => uptoBulkEntry x + uptoBulkEntries r
def uptoBulkEntry {H : Type} : Lit × DataW H → Nat
  | (.string bytes, d) => bytes.length + uptoBulk d + 1
  | (_, d) => uptoBulk d + 1
 end
def uptoSmall : (H : Type) → List (DataW H) → Bool := fun _ ds => decide (uptoBulkAll ds ≤ 1048576)
def OpenSpec.upto (s : _root_.Go.ChangeSpec) : _root_.Go.OpenSpec := { _root_.Go.OpenSpec.ofChange s with cond := some uptoSmall }

/-- 'sextantlaw16.CpuClones', WHERE WHAT IT READS IS OF BULK AT MOST 1048576: true; the input reads as it did. -/
def cpuClonesUptoRow : OpenClaim := { program := "ytjoapkgigchboaagreat", sum := "2995e72b7946b10a93769a1dfc454f56b5ca55b0c193f97fcaef8071c910728f", func := "sextant/sextantlaw16.CpuClones", spec := "cpuClones", unfollowed := true, recurses := true, apart := false, narrowed := true }
def CpuClonesUptoSaid : Prop := cpuClonesUptoRow.holds Tryz.pinned (OpenSpec.upto cpuClonesSpec)

/-- 'sextantlaw16.CpuPrefix', WHERE WHAT IT READS IS OF BULK AT MOST 1048576: true; the input reads as it did. -/
def cpuPrefixUptoRow : OpenClaim := { program := "ytjoapkgigchboaagreat", sum := "2995e72b7946b10a93769a1dfc454f56b5ca55b0c193f97fcaef8071c910728f", func := "sextant/sextantlaw16.CpuPrefix", spec := "cpuPrefix", unfollowed := true, recurses := true, apart := false, narrowed := true }
def CpuPrefixUptoSaid : Prop := cpuPrefixUptoRow.holds Tryz.pinned (OpenSpec.upto cpuPrefixSpec)

/-- 'sextantlaw16.CpuHangs', WHERE WHAT IT READS IS OF BULK AT MOST 1048576: true; the input reads as it did. -/
def cpuHangsUptoRow : OpenClaim := { program := "ytjoapkgigchboaagreat", sum := "2995e72b7946b10a93769a1dfc454f56b5ca55b0c193f97fcaef8071c910728f", func := "sextant/sextantlaw16.CpuHangs", spec := "cpuHangs", unfollowed := true, recurses := true, apart := false, narrowed := true }
def CpuHangsUptoSaid : Prop := cpuHangsUptoRow.holds Tryz.pinned (OpenSpec.upto cpuHangsSpec)

/-- 'sextantlaw16.CpuForm', WHERE WHAT IT READS IS OF BULK AT MOST 1048576: true; the input reads as it did. -/
def cpuFormUptoRow : OpenClaim := { program := "ytjoapkgigchboaagreat", sum := "2995e72b7946b10a93769a1dfc454f56b5ca55b0c193f97fcaef8071c910728f", func := "sextant/sextantlaw16.CpuForm", spec := "cpuForm", unfollowed := true, recurses := true, apart := false, narrowed := true }
def CpuFormUptoSaid : Prop := cpuFormUptoRow.holds Tryz.pinned (OpenSpec.upto cpuFormSpec)

/-- 'sextantlaw16.CpuKept', WHERE WHAT IT READS IS OF BULK AT MOST 1048576: true; the input reads as it did. -/
def cpuKeptUptoRow : OpenClaim := { program := "ytjoapkgigchboaagreat", sum := "2995e72b7946b10a93769a1dfc454f56b5ca55b0c193f97fcaef8071c910728f", func := "sextant/sextantlaw16.CpuKept", spec := "cpuKept", unfollowed := true, recurses := true, apart := false, narrowed := true }
def CpuKeptUptoSaid : Prop := cpuKeptUptoRow.holds Tryz.pinned (OpenSpec.upto cpuKeptSpec)

end Rows
end Go.Proofs.YtjoapkgigchboaaGreat
