/- Contracts. -/
import Derived.Test.YtbbpaaofmcoobaaGreatRows
import Derived.OpenShut
import Derived.ProofKit
import Derived.KernelRfl
set_option linter.unusedVariables false
set_option linter.unusedSimpArgs false
set_option linter.defProp false
namespace Go.Proofs.YtbbpaaofmcoobaaGreat.optTells
open Go.ChangeShapes Go.WideShapes Go.ChangeAt Go.RowKit
theorem named4 : Tryz.pinned.checked.prog.funcNamed Rows.optTellsRow.func = some 4 := by kernel_rfl
theorem wrap4 : Tryz.f4.isWrapper Tryz.pinned.checked.prog Rows.optTellsRow.wrapper Rows.optTellsRow.mainSum := by (unfold Func.isWrapper; first | (rw [if_pos (by decide +kernel)]; kernel_rfl) | (rw [if_neg (by decide +kernel)]; exact ⟨rfl, rfl⟩))
theorem inst4 : Tryz.f4.isInstance Tryz.pinned.checked.prog Rows.optTellsRow.origin Rows.optTellsRow.targs := of_decide_eq_true (by kernel_rfl)
set_option maxHeartbeats 4000000 in
theorem joined4 : joinedFacts Tryz.pinned.checked.prog 4 Tryz.f4 Rows.optTellsSpec Rows.optTellsRow = true := by
  unfold joinedFacts
  simp only [Bool.and_eq_true]
  repeat' apply And.intro
  all_goals (as_aux_lemma => kernel_rfl)
end Go.Proofs.YtbbpaaofmcoobaaGreat.optTells
