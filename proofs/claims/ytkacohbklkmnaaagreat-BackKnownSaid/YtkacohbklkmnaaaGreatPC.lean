/- Closed calls, run once by the kernel: what they give and the memory that it reaches. -/
import Derived.Test.YtkacohbklkmnaaaGreatPm
import Derived.Test.YtkacohbklkmnaaaGreatProg
import Derived.KernelRfl
set_option linter.unusedVariables false
set_option linter.unusedSimpArgs false
set_option maxRecDepth 100000
namespace Go.Proofs.YtkacohbklkmnaaaGreat.Pre
open Go.Dx Go.Proofs
def prCoA : Dx.PreM := ⟨50, [.pointer (some ⟨0, 0, none⟩)], [[.int .i64 1, .slice (some ⟨1, 0, some 11⟩) 4 4, .slice (some ⟨2, 0, some 5⟩) 2 2, .slice (some ⟨3, 0, some 3⟩) 1 1, .slice (some ⟨4, 0, some 5⟩) 1 1, .slice none 0 0, .slice (some ⟨5, 0, some 5⟩) 1 1, .slice (some ⟨6, 0, some 5⟩) 3 3, .bool true, .slice (some ⟨7, 0, some 3⟩) 4 4],
  [.int .i64 (-1), .int .i64 2, .int .i64 0, .int .u64 0, .int .i64 11, .int .i64 0, .int .i64 1, .int .i64 0, .int .u64 0, .int .i64 11, .int .i64 0, .int .i64 1, .int .i64 0, .int .u64 0, .int .i64 11, .int .i64 0, .int .i64 2, .int .i64 0, .int .u64 1, .int .i64 11],
  [.int .i64 0, .int .i64 1, .int .i64 0, .int .i64 2],
  [.slice (some ⟨8, 0, some 3⟩) 2 2],
  [.int .i64 2, .int .i64 3],
  [.int .i64 2, .int .i64 3],
  [.int .i64 1, .int .i64 2, .int .i64 1, .int .i64 3, .int .i64 2, .int .i64 3],
  [.int .i64 (-1), .int .i64 2, .int .i64 3, .int .i64 (-1)],
  [.int .i64 0, .int .i64 3]],
  .int .i64 (-1), [
  ]⟩
theorem prCoA_ok : Dx.PreMOK Tryz.prog prCoA := by
  exact Dx.PreMOK.of mixed (l := []) (k := []) (n := 3000) (fun p hp => by cases hp) (fun p hp => by simp only [List.mem_cons, List.not_mem_nil, or_false] at hp) (by kernel_rfl)
def prCoC : Dx.PreM := ⟨50, [.pointer (some ⟨0, 0, none⟩)], [[.int .i64 1, .slice (some ⟨1, 0, some 10⟩) 3 3, .slice (some ⟨2, 0, some 4⟩) 1 1, .slice (some ⟨3, 0, some 2⟩) 1 1, .slice (some ⟨4, 0, some 4⟩) 1 1, .slice none 0 0, .slice none 0 0, .slice none 0 0, .bool false, .slice (some ⟨5, 0, some 3⟩) 3 3],
  [.int .i64 (-1), .int .i64 2, .int .i64 0, .int .u64 0, .int .i64 1, .int .i64 0, .int .i64 1, .int .i64 0, .int .u64 0, .int .i64 1, .int .i64 0, .int .i64 2, .int .i64 0, .int .u64 1, .int .i64 1],
  [.int .i64 0, .int .i64 1],
  [.slice (some ⟨6, 0, some 2⟩) 2 2],
  [.int .i64 1, .int .i64 2],
  [.int .i64 (-1), .int .i64 2, .int .i64 (-1)],
  [.int .i64 0, .int .i64 2]],
  .int .i64 (-1), [
  ]⟩
theorem prCoC_ok : Dx.PreMOK Tryz.prog prCoC := by
  exact Dx.PreMOK.of mixed (l := []) (k := []) (n := 3000) (fun p hp => by cases hp) (fun p hp => by simp only [List.mem_cons, List.not_mem_nil, or_false] at hp) (by kernel_rfl)
def prCoD : Dx.PreM := ⟨50, [.pointer (some ⟨0, 0, none⟩)], [[.int .i64 1, .slice (some ⟨1, 0, some 10⟩) 4 4, .slice (some ⟨2, 0, some 4⟩) 2 2, .slice (some ⟨3, 0, some 2⟩) 1 1, .slice (some ⟨4, 0, some 4⟩) 1 1, .slice none 0 0, .slice (some ⟨5, 0, some 4⟩) 1 1, .slice (some ⟨6, 0, some 5⟩) 2 2, .bool true, .slice (some ⟨7, 0, some 3⟩) 4 4],
  [.int .i64 (-1), .int .i64 2, .int .i64 0, .int .u64 0, .int .i64 11, .int .i64 0, .int .i64 1, .int .i64 0, .int .u64 0, .int .i64 11, .int .i64 0, .int .i64 1, .int .i64 0, .int .u64 0, .int .i64 11, .int .i64 0, .int .i64 2, .int .i64 0, .int .u64 1, .int .i64 11],
  [.int .i64 0, .int .i64 1, .int .i64 0, .int .i64 2],
  [.slice (some ⟨8, 0, some 2⟩) 2 2],
  [.int .i64 2, .int .i64 3],
  [.int .i64 2, .int .i64 3],
  [.int .i64 1, .int .i64 2, .int .i64 2, .int .i64 3],
  [.int .i64 (-1), .int .i64 2, .int .i64 3, .int .i64 (-1)],
  [.int .i64 0, .int .i64 3]],
  .int .i64 (-1), [
  ]⟩
theorem prCoD_ok : Dx.PreMOK Tryz.prog prCoD := by
  exact Dx.PreMOK.of mixed (l := []) (k := []) (n := 3000) (fun p hp => by cases hp) (fun p hp => by simp only [List.mem_cons, List.not_mem_nil, or_false] at hp) (by kernel_rfl)
end Go.Proofs.YtkacohbklkmnaaaGreat.Pre
