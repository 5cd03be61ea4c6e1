/- Closed calls, run once by the kernel: what they give and the memory that it reaches. -/
import Derived.Test.YtkacohbklkmnaaaGreatPm
import Derived.Test.YtkacohbklkmnaaaGreatProg
import Derived.KernelRfl
set_option linter.unusedVariables false
set_option linter.unusedSimpArgs false
set_option maxRecDepth 100000
namespace Go.Proofs.YtkacohbklkmnaaaGreat.Pre
open Go.Dx Go.Proofs
def prD1 : Dx.PreM := ⟨150, [.int .u32 3531604024], [],
  .tuple ⟨[.agg ⟨[.int .i64 1, .int .i64 24, .int .i64 0, .int .i64 0, .int .i64 1, .int .i64 0]⟩, .int .i64 0]⟩, [
  ]⟩
theorem prD1_ok : Dx.PreMOK Tryz.prog prD1 := by
  exact Dx.PreMOK.of mixed (l := []) (k := []) (n := 3000) (fun p hp => by cases hp) (fun p hp => by simp only [List.mem_cons, List.not_mem_nil, or_false] at hp) (by kernel_rfl)
def prD2 : Dx.PreM := ⟨150, [.int .u32 3531603997], [],
  .tuple ⟨[.agg ⟨[.int .i64 1, .int .i64 29, .int .i64 0, .int .i64 0, .int .i64 0, .int .i64 0]⟩, .int .i64 0]⟩, [
  ]⟩
theorem prD2_ok : Dx.PreMOK Tryz.prog prD2 := by
  exact Dx.PreMOK.of mixed (l := []) (k := []) (n := 3000) (fun p hp => by cases hp) (fun p hp => by simp only [List.mem_cons, List.not_mem_nil, or_false] at hp) (by kernel_rfl)
def prD3 : Dx.PreM := ⟨150, [.int .u32 4070572093], [],
  .tuple ⟨[.agg ⟨[.int .i64 2, .int .i64 29, .int .i64 0, .int .i64 0, .int .i64 1, .int .i64 1]⟩, .int .i64 0]⟩, [
  ]⟩
theorem prD3_ok : Dx.PreMOK Tryz.prog prD3 := by
  exact Dx.PreMOK.of mixed (l := []) (k := []) (n := 3000) (fun p hp => by cases hp) (fun p hp => by simp only [List.mem_cons, List.not_mem_nil, or_false] at hp) (by kernel_rfl)
end Go.Proofs.YtkacohbklkmnaaaGreat.Pre
