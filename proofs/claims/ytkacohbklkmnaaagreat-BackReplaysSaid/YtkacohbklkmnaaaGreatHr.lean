/-
  The row's own facts, each by the kernel: what the row says of the program.
-/
import Derived.Test.YtkacohbklkmnaaaGreatRows
import Derived.OpenShut
import Derived.ProofKit
import Derived.KernelRfl
set_option linter.unusedVariables false
namespace Go.Proofs.YtkacohbklkmnaaaGreat.backReplays
open Go.ChangeShapes Go.WideShapes Go.ChangeAt Go.RowKit
theorem named4 : Tryz.pinned.checked.prog.funcNamed Rows.backReplaysRow.func = some 4 := by kernel_rfl
theorem wrap4 : Tryz.f4.isWrapper Tryz.pinned.checked.prog Rows.backReplaysRow.wrapper Rows.backReplaysRow.mainSum := by (unfold Func.isWrapper; first | (rw [if_pos (by decide +kernel)]; kernel_rfl) | (rw [if_neg (by decide +kernel)]; exact ⟨rfl, rfl⟩))
theorem inst4 : Tryz.f4.isInstance Tryz.pinned.checked.prog Rows.backReplaysRow.origin Rows.backReplaysRow.targs := of_decide_eq_true (by kernel_rfl)
set_option maxHeartbeats 4000000 in
theorem joined4 : joinedFacts Tryz.pinned.checked.prog 4 Tryz.f4 Rows.backReplaysSpec Rows.backReplaysRow = true := by
  unfold joinedFacts
  simp only [Bool.and_eq_true]
  repeat' apply And.intro
  all_goals (as_aux_lemma => kernel_rfl)
end Go.Proofs.YtkacohbklkmnaaaGreat.backReplays
