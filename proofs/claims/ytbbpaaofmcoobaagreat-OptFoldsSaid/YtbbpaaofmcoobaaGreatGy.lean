/- Contracts. -/
import Derived.Test.YtbbpaaofmcoobaaGreatRows
import Derived.OpenShut
import Derived.ProofKit
import Derived.KernelRfl
set_option linter.unusedVariables false
set_option linter.unusedSimpArgs false
set_option linter.defProp false
/- The row's own facts, each by the kernel: what the row says of the program. -/
namespace Go.Proofs.YtbbpaaofmcoobaaGreat.optFolds
open Go.ChangeShapes Go.WideShapes Go.ChangeAt Go.RowKit
theorem named3 : Tryz.pinned.checked.prog.funcNamed Rows.optFoldsRow.func = some 3 := by kernel_rfl
theorem wrap3 : Tryz.f3.isWrapper Tryz.pinned.checked.prog Rows.optFoldsRow.wrapper Rows.optFoldsRow.mainSum := by (unfold Func.isWrapper; first | (rw [if_pos (by decide +kernel)]; kernel_rfl) | (rw [if_neg (by decide +kernel)]; exact ⟨rfl, rfl⟩))
theorem inst3 : Tryz.f3.isInstance Tryz.pinned.checked.prog Rows.optFoldsRow.origin Rows.optFoldsRow.targs := of_decide_eq_true (by kernel_rfl)
set_option maxHeartbeats 4000000 in
theorem joined3 : joinedFacts Tryz.pinned.checked.prog 3 Tryz.f3 Rows.optFoldsSpec Rows.optFoldsRow = true := by
  unfold joinedFacts
  simp only [Bool.and_eq_true]
  repeat' apply And.intro
  all_goals (as_aux_lemma => kernel_rfl)
end Go.Proofs.YtbbpaaofmcoobaaGreat.optFolds
