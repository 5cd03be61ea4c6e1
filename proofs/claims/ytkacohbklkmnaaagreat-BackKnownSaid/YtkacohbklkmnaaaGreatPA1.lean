/- Closed calls, run once by the kernel: what they give and the memory that it reaches. -/
import Derived.Test.YtkacohbklkmnaaaGreatPm
import Derived.Test.YtkacohbklkmnaaaGreatProg
import Derived.KernelRfl
set_option linter.unusedVariables false
set_option linter.unusedSimpArgs false
set_option maxRecDepth 100000
namespace Go.Proofs.YtkacohbklkmnaaaGreat.Pre
open Go.Dx Go.Proofs
def prOf : Dx.PreM := ⟨22, [.slice (some ⟨0, 0, some 3⟩) 55 55], [[.int .u8 115, .int .u8 104, .int .u8 97, .int .u8 114, .int .u8 101, .int .u8 100, .int .u8 32, .int .u8 120, .int .u8 59, .int .u8 32, .int .u8 116, .int .u8 104, .int .u8 114, .int .u8 101, .int .u8 97, .int .u8 100, .int .u8 32, .int .u8 123, .int .u8 32, .int .u8 108, .int .u8 101, .int .u8 116, .int .u8 32, .int .u8 114, .int .u8 32, .int .u8 61, .int .u8 32, .int .u8 102, .int .u8 97, .int .u8 100, .int .u8 100, .int .u8 40, .int .u8 120, .int .u8 44, .int .u8 32, .int .u8 49, .int .u8 44, .int .u8 32, .int .u8 114, .int .u8 108, .int .u8 120, .int .u8 41, .int .u8 59, .int .u8 32, .int .u8 112, .int .u8 114, .int .u8 105, .int .u8 110, .int .u8 116, .int .u8 40, .int .u8 114, .int .u8 41, .int .u8 59, .int .u8 32, .int .u8 125]],
  .tuple ⟨[.agg ⟨[.int .i64 1, .slice (some ⟨1, 0, some 4⟩) 1 1]⟩, .bool true]⟩, [
  (690, [.int .i64 1, .slice (some ⟨2, 0, some 22⟩) 2 2]),
  (688, [.int .i64 5, .int .i64 0, .int .i64 0, .int .i64 0, .slice none 0 0, .slice (some ⟨3, 0, some 8⟩) 1 1, .slice none 0 0, .int .i64 1, .int .i64 0, .int .i64 1, .int .i64 20, .int .i64 8, .int .i64 0, .int .i64 0, .int .i64 0, .slice none 0 0, .slice (some ⟨4, 0, some 8⟩) 1 1, .slice none 0 0, .int .i64 0, .int .i64 0, .int .i64 1, .int .i64 45]),
  (674, [.int .i64 1, .int .u64 1, .int .i64 0, .int .i64 0]),
  (685, [.int .i64 2, .int .u64 0, .int .i64 0, .int .i64 0])]⟩
theorem prOf_ok : Dx.PreMOK Tryz.prog prOf := by
  exact Dx.PreMOK.of mixed (l := []) (k := []) (n := 3000) (fun p hp => by cases hp) (fun p hp => by simp only [List.mem_cons, List.not_mem_nil, or_false] at hp) (by kernel_rfl)
end Go.Proofs.YtkacohbklkmnaaaGreat.Pre
