/- Contracts. -/
import Derived.Test.YtjoapkgigchboaaGe
import Derived.Test.YtjoapkgigchboaaPost
set_option linter.unusedVariables false
set_option linter.unusedSimpArgs false
set_option linter.defProp false
namespace Go.Sx
open Go.Dx Go.Proofs
set_option maxRecDepth 100000
theorem kpres : ∀ p ∈ [copyP, loopP, wholeP, lastP, regP], Dx.PreMOK Try.prog p := by
  intro p hp
  simp only [List.mem_cons, List.not_mem_nil, or_false] at hp
  rcases hp with rfl | rfl | rfl | rfl | rfl
  · exact copyP_ok
  · exact loopP_ok
  · exact wholeP_ok
  · exact lastP_ok
  · exact regP_ok
theorem known_run : Dx.okTrue ((Dx.exgm Try.prog (decsK.map decP) [copyP, loopP, wholeP, lastP, regP] 3000).f 4 [] Dx.M.empty) = true := by kernel_rfl
end Go.Sx
