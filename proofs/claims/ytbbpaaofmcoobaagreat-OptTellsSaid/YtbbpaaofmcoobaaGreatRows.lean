/-
  No cell of these rows narrows 'for every input' (looked for: loops, veiled, ifaces, maps, wideKeys, modest, calm, conditions, laid).
  DERIVED. THE GIVEN ROWS OF THIS SEAT. 5 by the template 'for every input the law returns true; each argument reads behind the call as it read before'; 0 by the template 'total and deterministic' (their statements: YtbbpaaofmcoobaaGreatTotals.lean).
  GIVEN WITH THE SEED: the statements are not yours to turn. If you find one false, say at which input.
  Laid BY PROGRAM, IN A SANDBOX (cutbox-rows.mjs): the forced cells as the released guide's own fill.sh prints them over the translation 8ca485f52a34ad13… (all of the seat's roots in one cut). By AI agents, Wed Nov 11 2026. No macro, syntax, notation, axiom, sorry.
-/
import Derived.Test.YtbbpaaofmcoobaaGreatChecked
import GoSem.Claim
import GoSem.ClaimJoined
import GoSem.ClaimMapViews
import Derived.JoinedTies
import Derived.KernelRfl
namespace Go.Proofs.YtbbpaaofmcoobaaGreat
/- THE CELL 'sum', in the pinned program and in every row, IS THE sha256 OF THE DUMP (.gsa) THAT YtbbpaaofmcoobaaGreatProg.lean LOADS. Nothing in Lean hashes anything: it is a label: what it is worth is what the hold of that sum in a sandbox is worth. -/
noncomputable def Tryz.pinned : Pinned := { name := "ytbbpaaofmcoobaagreat", sum := "8ca485f52a34ad135d473838d1a6799634106ff7a0db5b246c3361fd398a1219", checked := Tryz.checked }
namespace Rows
def none {H : Type} : Left H := { results := [], args := [] }

/-- 'sextantlaw27.OptFolds': WHATEVER THE INPUT: true; the input reads as it did. -/
def optFoldsSpec : ChangeSpec := { name := "optFolds", fn := fun _ => fun
  | [d1, d2] => { results := [.lit (.bool true)], args := [d1, d2] }
  | _ => none }
def optFoldsRow : OpenClaim := { program := "ytbbpaaofmcoobaagreat", sum := "8ca485f52a34ad135d473838d1a6799634106ff7a0db5b246c3361fd398a1219", func := "sextant/sextantlaw27.OptFolds", spec := "optFolds", unfollowed := true, recurses := true, apart := false }
def OptFoldsSaid : Prop := optFoldsRow.holds Tryz.pinned (OpenSpec.ofChange optFoldsSpec)

/-- ITS FALSE NEIGHBOUR: 'it returns false'. Refute it at one input. -/
def optFoldsWrong : ChangeSpec := { name := "optFolds", fn := fun _ => fun
  | [d1, d2] => { results := [.lit (.bool false)], args := [d1, d2] }
  | _ => none }
def OptFoldsWrongFalsely : Prop := optFoldsRow.holds Tryz.pinned (OpenSpec.ofChange optFoldsWrong)

/-- 'sextantlaw27.OptTells': WHATEVER THE INPUT: true; the input reads as it did. -/
def optTellsSpec : ChangeSpec := { name := "optTells", fn := fun _ => fun
  | [d] => { results := [.lit (.bool true)], args := [d] }
  | _ => none }
def optTellsRow : OpenClaim := { program := "ytbbpaaofmcoobaagreat", sum := "8ca485f52a34ad135d473838d1a6799634106ff7a0db5b246c3361fd398a1219", func := "sextant/sextantlaw27.OptTells", spec := "optTells", unfollowed := true, recurses := true, apart := false }
def OptTellsSaid : Prop := optTellsRow.holds Tryz.pinned (OpenSpec.ofChange optTellsSpec)

/-- ITS FALSE NEIGHBOUR: 'it returns false'. Refute it at one input. -/
def optTellsWrong : ChangeSpec := { name := "optTells", fn := fun _ => fun
  | [d] => { results := [.lit (.bool false)], args := [d] }
  | _ => none }
def OptTellsWrongFalsely : Prop := optTellsRow.holds Tryz.pinned (OpenSpec.ofChange optTellsWrong)

/-- 'sextantlaw27.OptLess': WHATEVER THE INPUT: true; the input reads as it did. -/
def optLessSpec : ChangeSpec := { name := "optLess", fn := fun _ => fun
  | [d] => { results := [.lit (.bool true)], args := [d] }
  | _ => none }
def optLessRow : OpenClaim := { program := "ytbbpaaofmcoobaagreat", sum := "8ca485f52a34ad135d473838d1a6799634106ff7a0db5b246c3361fd398a1219", func := "sextant/sextantlaw27.OptLess", spec := "optLess", unfollowed := true, recurses := true, apart := false }
def OptLessSaid : Prop := optLessRow.holds Tryz.pinned (OpenSpec.ofChange optLessSpec)

/-- ITS FALSE NEIGHBOUR: 'it returns false'. Refute it at one input. -/
def optLessWrong : ChangeSpec := { name := "optLess", fn := fun _ => fun
  | [d] => { results := [.lit (.bool false)], args := [d] }
  | _ => none }
def OptLessWrongFalsely : Prop := optLessRow.holds Tryz.pinned (OpenSpec.ofChange optLessWrong)

/-- 'sextantlaw27.OptKeeps': WHATEVER THE INPUT: true; the input reads as it did. -/
def optKeepsSpec : ChangeSpec := { name := "optKeeps", fn := fun _ => fun
  | [d1, d2] => { results := [.lit (.bool true)], args := [d1, d2] }
  | _ => none }
def optKeepsRow : OpenClaim := { program := "ytbbpaaofmcoobaagreat", sum := "8ca485f52a34ad135d473838d1a6799634106ff7a0db5b246c3361fd398a1219", func := "sextant/sextantlaw27.OptKeeps", spec := "optKeeps", unfollowed := true, recurses := true, apart := false }
def OptKeepsSaid : Prop := optKeepsRow.holds Tryz.pinned (OpenSpec.ofChange optKeepsSpec)

/-- ITS FALSE NEIGHBOUR: 'it returns false'. Refute it at one input. -/
def optKeepsWrong : ChangeSpec := { name := "optKeeps", fn := fun _ => fun
  | [d1, d2] => { results := [.lit (.bool false)], args := [d1, d2] }
  | _ => none }
def OptKeepsWrongFalsely : Prop := optKeepsRow.holds Tryz.pinned (OpenSpec.ofChange optKeepsWrong)

/-- 'sextantlaw27.OptAlone': WHATEVER THE INPUT: true; the input reads as it did. -/
def optAloneSpec : ChangeSpec := { name := "optAlone", fn := fun _ => fun
  | [d1, d2, d3] => { results := [.lit (.bool true)], args := [d1, d2, d3] }
  | _ => none }
def optAloneRow : OpenClaim := { program := "ytbbpaaofmcoobaagreat", sum := "8ca485f52a34ad135d473838d1a6799634106ff7a0db5b246c3361fd398a1219", func := "sextant/sextantlaw27.OptAlone", spec := "optAlone", unfollowed := true, recurses := true, apart := false }
def OptAloneSaid : Prop := optAloneRow.holds Tryz.pinned (OpenSpec.ofChange optAloneSpec)

/-- ITS FALSE NEIGHBOUR: 'it returns false'. Refute it at one input. -/
def optAloneWrong : ChangeSpec := { name := "optAlone", fn := fun _ => fun
  | [d1, d2, d3] => { results := [.lit (.bool false)], args := [d1, d2, d3] }
  | _ => none }
def OptAloneWrongFalsely : Prop := optAloneRow.holds Tryz.pinned (OpenSpec.ofChange optAloneWrong)

/- THE SECOND FORM. 'bulk': how many values and letters a reading holds, each counted each time it is reached (what is shared counts as often as it is met; a slice's spare places count too). A statement '..UptoSaid' is the law's where the arguments, and the package variables that the reading takes, are together of bulk at most 1048576: NARROWER than '..Said'. Prove '..Said' where nothing that the law and all that it calls make is longer than what came in: it says more and counts as full. Else prove '..UptoSaid'. A law counts once. -/
mutual
def uptoBulk {H : Type} : DataW H → Nat
  | .lit (.string bytes) => bytes.length + 1
  | .lit _ => 1
  | .nil => 1
  | .ptr d => uptoBulk d + 1
  | .slice elems spare => uptoBulkAll elems + uptoBulkAll spare + 1
  | .agg parts => uptoBulkAll parts + 1
  | .iface _ d => uptoBulk d + 1
  | .map entries => uptoBulkEntries entries + 1
  | .held _ => 1
def uptoBulkAll {H : Type} : List (DataW H) → Nat
  | [] => 0
  | d :: r => uptoBulk d + uptoBulkAll r
def uptoBulkEntries {H : Type} : List (Lit × DataW H) → Nat
  | [] => 0
  | x :: r => uptoBulkEntry x + uptoBulkEntries r
def uptoBulkEntry {H : Type} : Lit × DataW H → Nat
  | (.string bytes, d) => bytes.length + uptoBulk d + 1
  | (_, d) => uptoBulk d + 1
 end
def uptoSmall : (H : Type) → List (DataW H) → Bool := fun _ ds => decide (uptoBulkAll ds ≤ 1048576)
def OpenSpec.upto (s : _root_.Go.ChangeSpec) : _root_.Go.OpenSpec := { _root_.Go.OpenSpec.ofChange s with cond := some uptoSmall }

/-- 'sextantlaw27.OptFolds', WHERE WHAT IT READS IS OF BULK AT MOST 1048576: true; the input reads as it did. -/
def optFoldsUptoRow : OpenClaim := { program := "ytbbpaaofmcoobaagreat", sum := "8ca485f52a34ad135d473838d1a6799634106ff7a0db5b246c3361fd398a1219", func := "sextant/sextantlaw27.OptFolds", spec := "optFolds", unfollowed := true, recurses := true, apart := false, narrowed := true }
def OptFoldsUptoSaid : Prop := optFoldsUptoRow.holds Tryz.pinned (OpenSpec.upto optFoldsSpec)

/-- 'sextantlaw27.OptTells', WHERE WHAT IT READS IS OF BULK AT MOST 1048576: true; the input reads as it did. -/
def optTellsUptoRow : OpenClaim := { program := "ytbbpaaofmcoobaagreat", sum := "8ca485f52a34ad135d473838d1a6799634106ff7a0db5b246c3361fd398a1219", func := "sextant/sextantlaw27.OptTells", spec := "optTells", unfollowed := true, recurses := true, apart := false, narrowed := true }
def OptTellsUptoSaid : Prop := optTellsUptoRow.holds Tryz.pinned (OpenSpec.upto optTellsSpec)

/-- 'sextantlaw27.OptLess', WHERE WHAT IT READS IS OF BULK AT MOST 1048576: true; the input reads as it did. -/
def optLessUptoRow : OpenClaim := { program := "ytbbpaaofmcoobaagreat", sum := "8ca485f52a34ad135d473838d1a6799634106ff7a0db5b246c3361fd398a1219", func := "sextant/sextantlaw27.OptLess", spec := "optLess", unfollowed := true, recurses := true, apart := false, narrowed := true }
def OptLessUptoSaid : Prop := optLessUptoRow.holds Tryz.pinned (OpenSpec.upto optLessSpec)

/-- 'sextantlaw27.OptKeeps', WHERE WHAT IT READS IS OF BULK AT MOST 1048576: true; the input reads as it did. -/
def optKeepsUptoRow : OpenClaim := { program := "ytbbpaaofmcoobaagreat", sum := "8ca485f52a34ad135d473838d1a6799634106ff7a0db5b246c3361fd398a1219", func := "sextant/sextantlaw27.OptKeeps", spec := "optKeeps", unfollowed := true, recurses := true, apart := false, narrowed := true }
def OptKeepsUptoSaid : Prop := optKeepsUptoRow.holds Tryz.pinned (OpenSpec.upto optKeepsSpec)

/-- 'sextantlaw27.OptAlone', WHERE WHAT IT READS IS OF BULK AT MOST 1048576: true; the input reads as it did. -/
def optAloneUptoRow : OpenClaim := { program := "ytbbpaaofmcoobaagreat", sum := "8ca485f52a34ad135d473838d1a6799634106ff7a0db5b246c3361fd398a1219", func := "sextant/sextantlaw27.OptAlone", spec := "optAlone", unfollowed := true, recurses := true, apart := false, narrowed := true }
def OptAloneUptoSaid : Prop := optAloneUptoRow.holds Tryz.pinned (OpenSpec.upto optAloneSpec)

end Rows
end Go.Proofs.YtbbpaaofmcoobaaGreat
