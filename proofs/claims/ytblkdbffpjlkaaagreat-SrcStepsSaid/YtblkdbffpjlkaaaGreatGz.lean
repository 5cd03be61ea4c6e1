/- Contracts. -/
import Derived.Test.YtblkdbffpjlkaaaGreatGe
import Derived.Test.YtblkdbffpjlkaaaGreatProg
import Derived.KernelRfl
set_option linter.unusedVariables false
set_option linter.unusedSimpArgs false
set_option linter.defProp false
/- awake, of chapter 13, run beforehand by the kernel; so is sample, which it calls. -/
set_option maxRecDepth 100000
namespace Go.Sx
open Go.Dx Go.Proofs
def preSample : Dx.Pre := ⟨32, [], .agg ⟨[.int .i64 5, .slice (some ⟨0, 0, some 4⟩) 1 1]⟩, [
(1315, [.int .i64 1, .slice (some ⟨1, 0, some 22⟩) 5 5]),
  (1313, [.int .i64 2, .int .i64 0, .int .i64 0, .int .i64 0, .slice none 0 0, .slice none 0 0, .slice none 0 0, .int .i64 2, .int .i64 0, .int .i64 1, .int .i64 26, .int .i64 10, .int .i64 0, .int .i64 0, .int .i64 0, .slice none 0 0, .slice (some ⟨2, 0, some 8⟩) 1 1, .slice none 0 0, .int .i64 0, .int .i64 5, .int .i64 1, .int .i64 48, .int .i64 1, .int .i64 0, .int .i64 0, .int .i64 0, .slice none 0 0, .slice (some ⟨3, 0, some 8⟩) 3 3, .slice none 0 0, .int .i64 0, .int .i64 0, .int .i64 1, .int .i64 60, .int .i64 3, .int .i64 0, .int .i64 1, .int .i64 4, .slice (some ⟨4, 0, some 8⟩) 1 1, .slice (some ⟨5, 0, some 8⟩) 1 1, .slice none 0 0, .int .i64 3, .int .i64 0, .int .i64 1, .int .i64 71, .int .i64 9, .int .i64 0, .int .i64 0, .int .i64 0, .slice none 0 0, .slice none 0 0, .slice none 0 0, .int .i64 0, .int .i64 1, .int .i64 1, .int .i64 48]),
  (1278, [.int .i64 2, .int .u64 0, .int .i64 0, .int .i64 0]),
  (1295, [.int .i64 2, .int .u64 0, .int .i64 0, .int .i64 0, .int .i64 1, .int .u64 1, .int .i64 0, .int .i64 0, .int .i64 8, .int .u64 0, .int .i64 0, .int .i64 1]),
  (1304, [.int .i64 2, .int .u64 0, .int .i64 0, .int .i64 0]),
  (1308, [.int .i64 2, .int .u64 0, .int .i64 0, .int .i64 0])
]⟩
theorem preSample_ok : Dx.PreOK Tryz.prog preSample := ⟨by kernel_rfl, 3000, by kernel_rfl⟩
theorem mixed13 : Tryz.prog.follows .mixedOrders = true := by kernel_rfl
theorem aw_ok : Dx.PreOK2 Tryz.prog aw := ⟨by kernel_rfl, exg Tryz.prog [preSample] 3000, exg_ok mixed13 (fun p hp => by rw [List.mem_singleton.1 hp]; exact preSample_ok) 3000, by kernel_rfl⟩
end Go.Sx
