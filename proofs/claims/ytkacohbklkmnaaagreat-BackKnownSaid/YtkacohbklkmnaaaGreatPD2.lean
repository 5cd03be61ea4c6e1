/- Closed calls, run once by the kernel: what they give and the memory that it reaches. -/
import Derived.Test.YtkacohbklkmnaaaGreatPm
import Derived.Test.YtkacohbklkmnaaaGreatProg
import Derived.KernelRfl
set_option linter.unusedVariables false
set_option linter.unusedSimpArgs false
set_option maxRecDepth 100000
namespace Go.Proofs.YtkacohbklkmnaaaGreat.Pre
open Go.Dx Go.Proofs
def prD4 : Dx.PreM := ⟨150, [.int .u32 3361701817], [],
  .tuple ⟨[.agg ⟨[.int .i64 26, .int .i64 25, .int .i64 29, .int .i64 0, .int .i64 0, .int .i64 0]⟩, .int .i64 0]⟩, [
  ]⟩
theorem prD4_ok : Dx.PreMOK Tryz.prog prD4 := by
  exact Dx.PreMOK.of mixed (l := []) (k := []) (n := 3000) (fun p hp => by cases hp) (fun p hp => by simp only [List.mem_cons, List.not_mem_nil, or_false] at hp) (by kernel_rfl)
def prD5 : Dx.PreM := ⟨150, [.int .u32 3036676153], [],
  .tuple ⟨[.agg ⟨[.int .i64 21, .int .i64 25, .int .i64 0, .int .i64 0, .int .i64 1, .int .i64 0]⟩, .int .i64 0]⟩, [
  ]⟩
theorem prD5_ok : Dx.PreMOK Tryz.prog prD5 := by
  exact Dx.PreMOK.of mixed (l := []) (k := []) (n := 3000) (fun p hp => by cases hp) (fun p hp => by simp only [List.mem_cons, List.not_mem_nil, or_false] at hp) (by kernel_rfl)
def prD6 : Dx.PreM := ⟨150, [.int .u32 2333606714], [],
  .tuple ⟨[.agg ⟨[.int .i64 3, .int .i64 26, .int .i64 25, .int .i64 24, .int .i64 0, .int .i64 0]⟩, .int .i64 0]⟩, [
  ]⟩
theorem prD6_ok : Dx.PreMOK Tryz.prog prD6 := by
  exact Dx.PreMOK.of mixed (l := []) (k := []) (n := 3000) (fun p hp => by cases hp) (fun p hp => by simp only [List.mem_cons, List.not_mem_nil, or_false] at hp) (by kernel_rfl)
end Go.Proofs.YtkacohbklkmnaaaGreat.Pre
