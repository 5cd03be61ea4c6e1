/- Contracts. -/
import Derived.Test.YtjoapkgigchboaaGf
import Derived.Test.YtjoapkgigchboaaGd
import Derived.Test.YtjoapkgigchboaaProg
import Derived.KernelRfl
set_option linter.unusedVariables false
set_option linter.unusedSimpArgs false
set_option linter.defProp false
set_option maxRecDepth 100000
namespace Go.Sx
open Go.Dx Go.Proofs
def wordsP : Dx.PreM := ⟨12, [.slice (some ⟨0, 0, some 13⟩) 6 6], [[.int .i64 1, .int .i64 1, .int .i64 0, .int .i64 0, .int .i64 1, .int .i64 1, .int .i64 22, .int .i64 2, .int .i64 1, .int .i64 0, .int .i64 0, .int .i64 0, .int .i64 21, .int .i64 2, .int .i64 0, .int .i64 0, .int .i64 1, .int .i64 0, .int .i64 23, .int .i64 2, .int .i64 1, .int .i64 0, .int .i64 8, .int .i64 0, .int .i64 33, .int .i64 0, .int .i64 0, .int .i64 0, .int .i64 2, .int .i64 0, .int .i64 34, .int .i64 0, .int .i64 0, .int .i64 0, .int .i64 0, .int .i64 0]],
  .slice (some ⟨1, 0, some 2⟩) 6 6, [
  (155, [.int .u32 3533701153, .int .u32 4181721122, .int .u32 3036676130, .int .u32 4177527842, .int .u32 3556769857, .int .u32 3560964096])]⟩
theorem wordsP_ok : Dx.PreMOK Try.prog wordsP := by
  exact Dx.PreMOK.of mixed (l := []) (k := []) (n := 3000) (fun p hp => by cases hp) (fun p hp => by simp only [List.mem_cons, List.not_mem_nil, or_false] at hp) (by kernel_rfl)
def copyP : Dx.PreM := ⟨10, [], [],
  .slice (some ⟨0, 0, some 2⟩) 6 6, [
  (1, [.int .u32 3533701153, .int .u32 4181721122, .int .u32 3036676130, .int .u32 4177527842, .int .u32 3556769857, .int .u32 3560964096])]⟩
theorem copyP_ok : Dx.PreMOK Try.prog copyP := by
  have := wordsP_ok
  exact Dx.PreMOK.of mixed (l := []) (k := [wordsP]) (n := 3000) (fun p hp => by cases hp) (fun p hp => by simp only [List.mem_cons, List.not_mem_nil, or_false] at hp; rcases hp with rfl <;> assumption) (by kernel_rfl)
end Go.Sx
