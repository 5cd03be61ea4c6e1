/- Closed calls, run once by the kernel: what they give and the memory that it reaches. -/
import Derived.Test.YtkacohbklkmnaaaGreatPC
import Derived.Test.YtkacohbklkmnaaaGreatProg
import Derived.KernelRfl
set_option linter.unusedVariables false
set_option linter.unusedSimpArgs false
set_option maxRecDepth 100000
namespace Go.Proofs.YtkacohbklkmnaaaGreat.Pre
open Go.Dx Go.Proofs
def prReplays : Dx.PreM := ⟨14, [.agg ⟨[.int .i64 1, .slice (some ⟨0, 0, some 4⟩) 1 1]⟩, .agg ⟨[.int .i64 1, .slice (some ⟨1, 0, some 10⟩) 3 3, .slice (some ⟨2, 0, some 4⟩) 1 1, .slice (some ⟨3, 0, some 2⟩) 1 1, .slice (some ⟨4, 0, some 4⟩) 1 1, .slice none 0 0, .slice none 0 0, .slice none 0 0]⟩], [[.int .i64 1, .slice (some ⟨5, 0, some 22⟩) 2 2],
  [.int .i64 (-1), .int .i64 2, .int .i64 0, .int .u64 0, .int .i64 1, .int .i64 0, .int .i64 1, .int .i64 0, .int .u64 0, .int .i64 1, .int .i64 0, .int .i64 2, .int .i64 0, .int .u64 1, .int .i64 1],
  [.int .i64 0, .int .i64 1],
  [.slice (some ⟨6, 0, some 2⟩) 2 2],
  [.int .i64 1, .int .i64 2],
  [.int .i64 5, .int .i64 0, .int .i64 0, .int .i64 0, .slice none 0 0, .slice (some ⟨7, 0, some 8⟩) 1 1, .slice none 0 0, .int .i64 1, .int .i64 0, .int .i64 1, .int .i64 20, .int .i64 8, .int .i64 0, .int .i64 0, .int .i64 0, .slice none 0 0, .slice (some ⟨8, 0, some 8⟩) 1 1, .slice none 0 0, .int .i64 0, .int .i64 0, .int .i64 1, .int .i64 45],
  [.int .i64 0, .int .i64 2],
  [.int .i64 1, .int .u64 1, .int .i64 0, .int .i64 0],
  [.int .i64 2, .int .u64 0, .int .i64 0, .int .i64 0]],
  .tuple ⟨[.slice (some ⟨9, 0, some 2⟩) 1 1, .int .i64 0, .int .i64 0]⟩, [
  (164, [.slice (some ⟨10, 0, some 2⟩) 1 1]),
  (155, [.int .u64 0])]⟩
theorem prReplays_ok : Dx.PreMOK Tryz.prog prReplays := by
  have := prCoC_ok
  exact Dx.PreMOK.of mixed (l := []) (k := [prCoC]) (n := 3000) (fun p hp => by cases hp) (fun p hp => by simp only [List.mem_cons, List.not_mem_nil, or_false] at hp; rcases hp with rfl <;> assumption) (by kernel_rfl)
end Go.Proofs.YtkacohbklkmnaaaGreat.Pre
