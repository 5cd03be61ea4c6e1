/- Closed calls, run once by the kernel: what they give and the memory that it reaches. -/
import Derived.Test.YtkacohbklkmnaaaGreatEe
import Derived.Test.YtkacohbklkmnaaaGreatProg
import Derived.KernelRfl
set_option linter.unusedVariables false
set_option linter.unusedSimpArgs false
set_option maxRecDepth 100000
namespace Go.Proofs.YtkacohbklkmnaaaGreat.Pre
open Go.Dx Go.Proofs
theorem mixed : Tryz.prog.follows .mixedOrders = true := by kernel_rfl
end Go.Proofs.YtkacohbklkmnaaaGreat.Pre
