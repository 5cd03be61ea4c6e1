/- Contracts. -/
import Derived.Test.YtbbpaaofmcoobaaGreatGe
import Derived.Test.YtbbpaaofmcoobaaGreatProg
import Derived.KernelRfl
set_option linter.unusedVariables false
set_option linter.unusedSimpArgs false
set_option linter.defProp false
set_option maxRecDepth 100000
namespace Go.Sx
open Go.Dx Go.Proofs
theorem mixed27 : Tryz.prog.follows .mixedOrders = true := by kernel_rfl
theorem aw_ok1 : Dx.PreOK Tryz.prog aw := ⟨by kernel_rfl, 3000, by kernel_rfl⟩
theorem aw_ok : Dx.PreOK2 Tryz.prog aw := aw_ok1.two mixed27
end Go.Sx
