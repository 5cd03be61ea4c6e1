/- Closed calls, run once by the kernel: what they give and the memory that it reaches. -/
import Derived.Test.YtkacohbklkmnaaaGreatPm
import Derived.Test.YtkacohbklkmnaaaGreatProg
import Derived.KernelRfl
set_option linter.unusedVariables false
set_option linter.unusedSimpArgs false
set_option maxRecDepth 100000
namespace Go.Proofs.YtkacohbklkmnaaaGreat.Pre
open Go.Dx Go.Proofs
def prD10 : Dx.PreM := ⟨150, [.int .u32 2852127736], [],
  .tuple ⟨[.agg ⟨[.int .i64 6, .int .i64 24, .int .i64 31, .int .i64 0, .int .i64 0, .int .i64 0]⟩, .int .i64 0]⟩, [
  ]⟩
theorem prD10_ok : Dx.PreMOK Tryz.prog prD10 := by
  exact Dx.PreMOK.of mixed (l := []) (k := []) (n := 3000) (fun p hp => by cases hp) (fun p hp => by simp only [List.mem_cons, List.not_mem_nil, or_false] at hp) (by kernel_rfl)
def prD11 : Dx.PreM := ⟨150, [.int .u32 3556770561], [],
  .tuple ⟨[.agg ⟨[.int .i64 33, .int .i64 0, .int .i64 0, .int .i64 0, .int .i64 24, .int .i64 0]⟩, .int .i64 0]⟩, [
  ]⟩
theorem prD11_ok : Dx.PreMOK Tryz.prog prD11 := by
  exact Dx.PreMOK.of mixed (l := []) (k := []) (n := 3000) (fun p hp => by cases hp) (fun p hp => by simp only [List.mem_cons, List.not_mem_nil, or_false] at hp) (by kernel_rfl)
def prD12 : Dx.PreM := ⟨150, [.int .u32 3560964096], [],
  .tuple ⟨[.agg ⟨[.int .i64 34, .int .i64 0, .int .i64 0, .int .i64 0, .int .i64 0, .int .i64 0]⟩, .int .i64 0]⟩, [
  ]⟩
theorem prD12_ok : Dx.PreMOK Tryz.prog prD12 := by
  exact Dx.PreMOK.of mixed (l := []) (k := []) (n := 3000) (fun p hp => by cases hp) (fun p hp => by simp only [List.mem_cons, List.not_mem_nil, or_false] at hp) (by kernel_rfl)
end Go.Proofs.YtkacohbklkmnaaaGreat.Pre
