/- Contracts. -/
import Derived.Test.YtbbpaaofmcoobaaGreatRows
import Derived.OpenShut
import Derived.ProofKit
import Derived.KernelRfl
set_option linter.unusedVariables false
set_option linter.unusedSimpArgs false
set_option linter.defProp false
/- The row's own facts, each by the kernel: what the row says of the program. -/
namespace Go.Proofs.YtbbpaaofmcoobaaGreat.optLess
open Go.ChangeShapes Go.WideShapes Go.ChangeAt Go.RowKit
theorem named5 : Tryz.pinned.checked.prog.funcNamed Rows.optLessRow.func = some 5 := by kernel_rfl
theorem wrap5 : Tryz.f5.isWrapper Tryz.pinned.checked.prog Rows.optLessRow.wrapper Rows.optLessRow.mainSum := by (unfold Func.isWrapper; first | (rw [if_pos (by decide +kernel)]; kernel_rfl) | (rw [if_neg (by decide +kernel)]; exact ⟨rfl, rfl⟩))
theorem inst5 : Tryz.f5.isInstance Tryz.pinned.checked.prog Rows.optLessRow.origin Rows.optLessRow.targs := of_decide_eq_true (by kernel_rfl)
set_option maxHeartbeats 4000000 in
theorem joined5 : joinedFacts Tryz.pinned.checked.prog 5 Tryz.f5 Rows.optLessSpec Rows.optLessRow = true := by
  unfold joinedFacts
  simp only [Bool.and_eq_true]
  repeat' apply And.intro
  all_goals (as_aux_lemma => kernel_rfl)
end Go.Proofs.YtbbpaaofmcoobaaGreat.optLess
