/- Closed calls, run once by the kernel: what they give and the memory that it reaches. -/
import Derived.Test.YtdfaibjngkfnaaaEd
import Derived.Test.YtdfaibjngkfnaaaProg
import Derived.KernelRfl
set_option linter.unusedVariables false
set_option maxRecDepth 100000
namespace Go.Proofs.Ytdfaibjngkfnaaa.Pre
open Go.Dx
def aw : Dx.Pre := ⟨15, [], .bool true, [

]⟩
theorem aw_ok : Dx.PreOK Try.prog aw := ⟨by kernel_rfl, 3000, by kernel_rfl⟩
def r2 : Dx.Pre := ⟨20, [.int .i64 2], .agg ⟨[.slice (some ⟨0, 0, some 4⟩) 4 4, .slice (some ⟨1, 0, some 2⟩) 4 4]⟩, [
(7, [.int .i64 6, .int .i64 0, .int .i64 2, .int .i64 0, .int .i64 6, .int .i64 0, .int .i64 2, .int .i64 0]),
  (9, [.int .i64 1, .int .i64 1, .int .i64 1, .int .i64 1])
]⟩
theorem r2_ok : Dx.PreOK Try.prog r2 := ⟨by kernel_rfl, 3000, by kernel_rfl⟩
def r8 : Dx.Pre := ⟨20, [.int .i64 8], .agg ⟨[.slice (some ⟨0, 0, some 4⟩) 16 16, .slice (some ⟨1, 0, some 2⟩) 16 16]⟩, [
(31, [.int .i64 6, .int .i64 0, .int .i64 2, .int .i64 0, .int .i64 6, .int .i64 0, .int .i64 2, .int .i64 0, .int .i64 6, .int .i64 0, .int .i64 2, .int .i64 0, .int .i64 6, .int .i64 0, .int .i64 2, .int .i64 0, .int .i64 6, .int .i64 0, .int .i64 2, .int .i64 0, .int .i64 6, .int .i64 0, .int .i64 2, .int .i64 0, .int .i64 6, .int .i64 0, .int .i64 2, .int .i64 0, .int .i64 6, .int .i64 0, .int .i64 2, .int .i64 0]),
  (33, [.int .i64 1, .int .i64 1, .int .i64 1, .int .i64 1, .int .i64 1, .int .i64 1, .int .i64 1, .int .i64 1, .int .i64 1, .int .i64 1, .int .i64 1, .int .i64 1, .int .i64 1, .int .i64 1, .int .i64 1, .int .i64 1])
]⟩
theorem r8_ok : Dx.PreOK Try.prog r8 := ⟨by kernel_rfl, 3000, by kernel_rfl⟩
end Go.Proofs.Ytdfaibjngkfnaaa.Pre
