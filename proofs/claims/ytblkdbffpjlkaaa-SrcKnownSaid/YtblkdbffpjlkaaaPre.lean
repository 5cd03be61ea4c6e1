/- Closed calls, run once by the kernel: what they give and the memory that it reaches. -/
import Derived.Test.YtblkdbffpjlkaaaEd
import Derived.Test.YtblkdbffpjlkaaaProg
import Derived.KernelRfl
set_option linter.unusedVariables false
set_option maxRecDepth 100000
namespace Go.Proofs.Ytblkdbffpjlkaaa.Pre
open Go.Dx
def sample : Dx.Pre := ⟨8, [], .agg ⟨[.int .i64 5, .slice (some ⟨0, 0, some 4⟩) 1 1]⟩, [
(1315, [.int .i64 1, .slice (some ⟨1, 0, some 22⟩) 5 5]),
  (1313, [.int .i64 2, .int .i64 0, .int .i64 0, .int .i64 0, .slice none 0 0, .slice none 0 0, .slice none 0 0, .int .i64 2, .int .i64 0, .int .i64 1, .int .i64 26, .int .i64 10, .int .i64 0, .int .i64 0, .int .i64 0, .slice none 0 0, .slice (some ⟨2, 0, some 8⟩) 1 1, .slice none 0 0, .int .i64 0, .int .i64 5, .int .i64 1, .int .i64 48, .int .i64 1, .int .i64 0, .int .i64 0, .int .i64 0, .slice none 0 0, .slice (some ⟨3, 0, some 8⟩) 3 3, .slice none 0 0, .int .i64 0, .int .i64 0, .int .i64 1, .int .i64 60, .int .i64 3, .int .i64 0, .int .i64 1, .int .i64 4, .slice (some ⟨4, 0, some 8⟩) 1 1, .slice (some ⟨5, 0, some 8⟩) 1 1, .slice none 0 0, .int .i64 3, .int .i64 0, .int .i64 1, .int .i64 71, .int .i64 9, .int .i64 0, .int .i64 0, .int .i64 0, .slice none 0 0, .slice none 0 0, .slice none 0 0, .int .i64 0, .int .i64 1, .int .i64 1, .int .i64 48]),
  (1278, [.int .i64 2, .int .u64 0, .int .i64 0, .int .i64 0]),
  (1295, [.int .i64 2, .int .u64 0, .int .i64 0, .int .i64 0, .int .i64 1, .int .u64 1, .int .i64 0, .int .i64 0, .int .i64 8, .int .u64 0, .int .i64 0, .int .i64 1]),
  (1304, [.int .i64 2, .int .u64 0, .int .i64 0, .int .i64 0]),
  (1308, [.int .i64 2, .int .u64 0, .int .i64 0, .int .i64 0])
]⟩
theorem sample_ok : Dx.PreOK Try.prog sample := ⟨by kernel_rfl, 3000, by kernel_rfl⟩
end Go.Proofs.Ytblkdbffpjlkaaa.Pre
