/- Closed calls, run once by the kernel: what they give and the memory that it reaches. -/
import Derived.Test.YtkacohbklkmnaaaGreatPD1
import Derived.Test.YtkacohbklkmnaaaGreatPD2
import Derived.Test.YtkacohbklkmnaaaGreatPD3
import Derived.Test.YtkacohbklkmnaaaGreatPD4
import Derived.Test.YtkacohbklkmnaaaGreatProg
import Derived.KernelRfl
set_option linter.unusedVariables false
set_option linter.unusedSimpArgs false
set_option maxRecDepth 100000
namespace Go.Proofs.YtkacohbklkmnaaaGreat.Pre
open Go.Dx Go.Proofs
def prNew : Dx.PreM := ⟨54, [.slice (some ⟨0, 0, some 2⟩) 12 12], [[.int .u32 3531604024, .int .u32 3531603997, .int .u32 4070572093, .int .u32 3361701817, .int .u32 3036676153, .int .u32 2333606714, .int .u32 3357441978, .int .u32 3053453214, .int .u32 2853766112, .int .u32 2852127736, .int .u32 3556770561, .int .u32 3560964096]],
  .tuple ⟨[.pointer (some ⟨1, 0, none⟩), .int .i64 0]⟩, [
  (37, [.slice (some ⟨2, 0, some 12⟩) 12 12, .int .i64 0, .int .u64 0, .int .u64 0, .int .u64 0, .int .u64 0, .int .u64 0, .int .u64 0, .int .u64 0, .int .u64 0, .int .u64 0, .int .u64 0, .int .u64 0, .int .u64 0, .int .u64 0, .int .u64 0, .int .u64 0, .int .u64 0, .int .u64 0, .int .u64 0, .int .u64 0, .int .u64 0, .int .u64 0, .int .u64 0, .int .u64 0, .int .u64 0, .int .u64 0, .int .u64 0, .int .u64 0, .int .u64 0, .int .u64 0, .int .u64 0, .int .u64 0, .int .u64 0, .slice none 0 0, .slice none 0 0, .slice none 0 0, .slice none 0 0, .slice none 0 0, .slice none 0 0, .slice none 0 0, .slice none 0 0, .slice none 0 0, .slice none 0 0, .slice none 0 0, .slice none 0 0, .slice none 0 0, .slice none 0 0, .slice none 0 0, .slice none 0 0, .slice none 0 0, .slice none 0 0, .slice none 0 0, .slice none 0 0, .slice none 0 0, .slice none 0 0, .slice none 0 0, .slice none 0 0, .slice none 0 0, .slice none 0 0, .slice none 0 0, .slice none 0 0, .slice none 0 0, .slice none 0 0, .slice none 0 0, .slice none 0 0, .bool false, .bool false, .bool false, .bool false, .slice none 0 0, .slice none 0 0, .bool false, .int .i64 0, .int .i64 0, .pointer none, .int .i64 0, .int .i64 0, .slice none 0 0, .slice none 0 0, .slice none 0 0, .slice none 0 0, .slice none 0 0, .slice none 0 0, .int .i64 0, .int .i64 0, .int .i64 0, .int .i64 (-1)]),
  (36, [.int .i64 1, .int .i64 24, .int .i64 0, .int .i64 0, .int .i64 1, .int .i64 0, .int .i64 1, .int .i64 29, .int .i64 0, .int .i64 0, .int .i64 0, .int .i64 0, .int .i64 2, .int .i64 29, .int .i64 0, .int .i64 0, .int .i64 1, .int .i64 1, .int .i64 26, .int .i64 25, .int .i64 29, .int .i64 0, .int .i64 0, .int .i64 0, .int .i64 21, .int .i64 25, .int .i64 0, .int .i64 0, .int .i64 1, .int .i64 0, .int .i64 3, .int .i64 26, .int .i64 25, .int .i64 24, .int .i64 0, .int .i64 0, .int .i64 28, .int .i64 26, .int .i64 29, .int .i64 30, .int .i64 0, .int .i64 0, .int .i64 21, .int .i64 30, .int .i64 0, .int .i64 0, .int .i64 (-4), .int .i64 0, .int .i64 6, .int .i64 0, .int .i64 31, .int .i64 25, .int .i64 0, .int .i64 0, .int .i64 6, .int .i64 24, .int .i64 31, .int .i64 0, .int .i64 0, .int .i64 0, .int .i64 33, .int .i64 0, .int .i64 0, .int .i64 0, .int .i64 24, .int .i64 0, .int .i64 34, .int .i64 0, .int .i64 0, .int .i64 0, .int .i64 0, .int .i64 0])]⟩
theorem prNew_ok : Dx.PreMOK Tryz.prog prNew := by
  have := prD1_ok
  have := prD2_ok
  have := prD3_ok
  have := prD4_ok
  have := prD5_ok
  have := prD6_ok
  have := prD7_ok
  have := prD8_ok
  have := prD9_ok
  have := prD10_ok
  have := prD11_ok
  have := prD12_ok
  exact Dx.PreMOK.of mixed (l := []) (k := [prD1, prD2, prD3, prD4, prD5, prD6, prD7, prD8, prD9, prD10, prD11, prD12]) (n := 3000) (fun p hp => by cases hp) (fun p hp => by simp only [List.mem_cons, List.not_mem_nil, or_false] at hp; rcases hp with rfl | rfl | rfl | rfl | rfl | rfl | rfl | rfl | rfl | rfl | rfl | rfl <;> assumption) (by kernel_rfl)
end Go.Proofs.YtkacohbklkmnaaaGreat.Pre
