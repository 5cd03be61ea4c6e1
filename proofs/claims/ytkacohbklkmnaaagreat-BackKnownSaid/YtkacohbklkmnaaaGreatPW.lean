/- Closed calls, run once by the kernel: what they give and the memory that it reaches. -/
import Derived.Test.YtkacohbklkmnaaaGreatPA3
import Derived.Test.YtkacohbklkmnaaaGreatPR
import Derived.Test.YtkacohbklkmnaaaGreatPB
import Derived.Test.YtkacohbklkmnaaaGreatPP
import Derived.Test.YtkacohbklkmnaaaGreatProg
import Derived.KernelRfl
set_option linter.unusedVariables false
set_option linter.unusedSimpArgs false
set_option maxRecDepth 100000
namespace Go.Proofs.YtkacohbklkmnaaaGreat.Pre
open Go.Dx Go.Proofs
def prAwake : Dx.PreM := ⟨6, [], [],
  .bool true, [
  ]⟩
theorem prAwake_ok : Dx.PreMOK Tryz.prog prAwake := by
  have := prSample_ok
  have := prRuns_ok
  have := prBack_ok
  have := prReplays_ok
  exact Dx.PreMOK.of mixed (l := []) (k := [prSample, prRuns, prBack, prReplays]) (n := 3000) (fun p hp => by cases hp) (fun p hp => by simp only [List.mem_cons, List.not_mem_nil, or_false] at hp; rcases hp with rfl | rfl | rfl | rfl <;> assumption) (by kernel_rfl)
end Go.Proofs.YtkacohbklkmnaaaGreat.Pre
