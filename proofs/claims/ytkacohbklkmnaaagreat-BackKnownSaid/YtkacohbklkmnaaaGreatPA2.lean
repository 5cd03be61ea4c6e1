/- Closed calls, run once by the kernel: what they give and the memory that it reaches. -/
import Derived.Test.YtkacohbklkmnaaaGreatPm
import Derived.Test.YtkacohbklkmnaaaGreatProg
import Derived.KernelRfl
set_option linter.unusedVariables false
set_option linter.unusedSimpArgs false
set_option maxRecDepth 100000
namespace Go.Proofs.YtkacohbklkmnaaaGreat.Pre
open Go.Dx Go.Proofs
def prWords : Dx.PreM := ⟨19, [.agg ⟨[.int .i64 1, .slice (some ⟨0, 0, some 4⟩) 1 1]⟩], [[.int .i64 1, .slice (some ⟨1, 0, some 22⟩) 2 2],
  [.int .i64 5, .int .i64 0, .int .i64 0, .int .i64 0, .slice none 0 0, .slice (some ⟨2, 0, some 8⟩) 1 1, .slice none 0 0, .int .i64 1, .int .i64 0, .int .i64 1, .int .i64 20, .int .i64 8, .int .i64 0, .int .i64 0, .int .i64 0, .slice none 0 0, .slice (some ⟨3, 0, some 8⟩) 1 1, .slice none 0 0, .int .i64 0, .int .i64 0, .int .i64 1, .int .i64 45],
  [.int .i64 1, .int .u64 1, .int .i64 0, .int .i64 0],
  [.int .i64 2, .int .u64 0, .int .i64 0, .int .i64 0]],
  .tuple ⟨[.slice (some ⟨4, 0, some 2⟩) 1 1, .bool true]⟩, [
  (439, [.slice (some ⟨5, 0, some 2⟩) 12 12]),
  (437, [.int .u32 3531604024, .int .u32 3531603997, .int .u32 4070572093, .int .u32 3361701817, .int .u32 3036676153, .int .u32 2333606714, .int .u32 3357441978, .int .u32 3053453214, .int .u32 2853766112, .int .u32 2852127736, .int .u32 3556770561, .int .u32 3560964096])]⟩
theorem prWords_ok : Dx.PreMOK Tryz.prog prWords := by
  exact Dx.PreMOK.of mixed (l := []) (k := []) (n := 3000) (fun p hp => by cases hp) (fun p hp => by simp only [List.mem_cons, List.not_mem_nil, or_false] at hp) (by kernel_rfl)
end Go.Proofs.YtkacohbklkmnaaaGreat.Pre
