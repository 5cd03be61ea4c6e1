/- Closed calls, run once by the kernel: what they give and the memory that it reaches. -/
import Derived.Test.YtkacohbklkmnaaaGreatPm
import Derived.Test.YtkacohbklkmnaaaGreatProg
import Derived.KernelRfl
set_option linter.unusedVariables false
set_option linter.unusedSimpArgs false
set_option maxRecDepth 100000
namespace Go.Proofs.YtkacohbklkmnaaaGreat.Pre
open Go.Dx Go.Proofs
def prD7 : Dx.PreM := ⟨150, [.int .u32 3357441978], [],
  .tuple ⟨[.agg ⟨[.int .i64 28, .int .i64 26, .int .i64 29, .int .i64 30, .int .i64 0, .int .i64 0]⟩, .int .i64 0]⟩, [
  ]⟩
theorem prD7_ok : Dx.PreMOK Tryz.prog prD7 := by
  exact Dx.PreMOK.of mixed (l := []) (k := []) (n := 3000) (fun p hp => by cases hp) (fun p hp => by simp only [List.mem_cons, List.not_mem_nil, or_false] at hp) (by kernel_rfl)
def prD8 : Dx.PreM := ⟨150, [.int .u32 3053453214], [],
  .tuple ⟨[.agg ⟨[.int .i64 21, .int .i64 30, .int .i64 0, .int .i64 0, .int .i64 (-4), .int .i64 0]⟩, .int .i64 0]⟩, [
  ]⟩
theorem prD8_ok : Dx.PreMOK Tryz.prog prD8 := by
  exact Dx.PreMOK.of mixed (l := []) (k := []) (n := 3000) (fun p hp => by cases hp) (fun p hp => by simp only [List.mem_cons, List.not_mem_nil, or_false] at hp) (by kernel_rfl)
def prD9 : Dx.PreM := ⟨150, [.int .u32 2853766112], [],
  .tuple ⟨[.agg ⟨[.int .i64 6, .int .i64 0, .int .i64 31, .int .i64 25, .int .i64 0, .int .i64 0]⟩, .int .i64 0]⟩, [
  ]⟩
theorem prD9_ok : Dx.PreMOK Tryz.prog prD9 := by
  exact Dx.PreMOK.of mixed (l := []) (k := []) (n := 3000) (fun p hp => by cases hp) (fun p hp => by simp only [List.mem_cons, List.not_mem_nil, or_false] at hp) (by kernel_rfl)
end Go.Proofs.YtkacohbklkmnaaaGreat.Pre
