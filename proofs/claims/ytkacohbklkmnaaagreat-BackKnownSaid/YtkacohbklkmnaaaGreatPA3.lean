/- Closed calls, run once by the kernel: what they give and the memory that it reaches. -/
import Derived.Test.YtkacohbklkmnaaaGreatPA1
import Derived.Test.YtkacohbklkmnaaaGreatPA2
import Derived.Test.YtkacohbklkmnaaaGreatProg
import Derived.KernelRfl
set_option linter.unusedVariables false
set_option linter.unusedSimpArgs false
set_option maxRecDepth 100000
namespace Go.Proofs.YtkacohbklkmnaaaGreat.Pre
open Go.Dx Go.Proofs
def prSample : Dx.PreM := ⟨7, [], [],
  .tuple ⟨[.agg ⟨[.int .i64 1, .slice (some ⟨0, 0, some 4⟩) 1 1]⟩, .slice (some ⟨1, 0, some 2⟩) 1 1, .agg ⟨[.int .i64 1, .slice (some ⟨2, 0, some 11⟩) 4 4, .slice (some ⟨3, 0, some 5⟩) 2 2, .slice (some ⟨4, 0, some 3⟩) 1 1, .slice (some ⟨5, 0, some 5⟩) 1 1, .slice none 0 0, .slice (some ⟨6, 0, some 5⟩) 1 1, .slice (some ⟨7, 0, some 5⟩) 3 3]⟩]⟩, [
  (3, [.int .i64 1, .slice (some ⟨8, 0, some 22⟩) 2 2]),
  (16, [.slice (some ⟨9, 0, some 2⟩) 12 12]),
  (8, [.int .i64 (-1), .int .i64 2, .int .i64 0, .int .u64 0, .int .i64 11, .int .i64 0, .int .i64 1, .int .i64 0, .int .u64 0, .int .i64 11, .int .i64 0, .int .i64 1, .int .i64 0, .int .u64 0, .int .i64 11, .int .i64 0, .int .i64 2, .int .i64 0, .int .u64 1, .int .i64 11]),
  (9, [.int .i64 0, .int .i64 1, .int .i64 0, .int .i64 2]),
  (11, [.slice (some ⟨10, 0, some 3⟩) 2 2]),
  (12, [.int .i64 2, .int .i64 3]),
  (13, [.int .i64 2, .int .i64 3]),
  (14, [.int .i64 1, .int .i64 2, .int .i64 1, .int .i64 3, .int .i64 2, .int .i64 3]),
  (4, [.int .i64 5, .int .i64 0, .int .i64 0, .int .i64 0, .slice none 0 0, .slice (some ⟨11, 0, some 8⟩) 1 1, .slice none 0 0, .int .i64 1, .int .i64 0, .int .i64 1, .int .i64 20, .int .i64 8, .int .i64 0, .int .i64 0, .int .i64 0, .slice none 0 0, .slice (some ⟨12, 0, some 8⟩) 1 1, .slice none 0 0, .int .i64 0, .int .i64 0, .int .i64 1, .int .i64 45]),
  (17, [.int .u32 3531604024, .int .u32 3531603997, .int .u32 4070572093, .int .u32 3361701817, .int .u32 3036676153, .int .u32 2333606714, .int .u32 3357441978, .int .u32 3053453214, .int .u32 2853766112, .int .u32 2852127736, .int .u32 3556770561, .int .u32 3560964096]),
  (10, [.int .i64 0, .int .i64 3]),
  (5, [.int .i64 1, .int .u64 1, .int .i64 0, .int .i64 0]),
  (6, [.int .i64 2, .int .u64 0, .int .i64 0, .int .i64 0])]⟩
theorem prSample_ok : Dx.PreMOK Tryz.prog prSample := by
  have := prOf_ok
  have := prWords_ok
  exact Dx.PreMOK.of mixed (l := []) (k := [prOf, prWords]) (n := 3000) (fun p hp => by cases hp) (fun p hp => by simp only [List.mem_cons, List.not_mem_nil, or_false] at hp; rcases hp with rfl | rfl <;> assumption) (by kernel_rfl)
end Go.Proofs.YtkacohbklkmnaaaGreat.Pre
