/- Closed calls, run once by the kernel: what they give and the memory that it reaches. -/
import Derived.Test.YtbbpaaofmcoobaaPm
import Derived.Test.YtbbpaaofmcoobaaProg
import Derived.KernelRfl
set_option linter.unusedVariables false
set_option linter.unusedSimpArgs false
set_option maxRecDepth 100000
namespace Go.Proofs.Ytbbpaaofmcoobaa.Pre
open Go.Dx Go.Proofs
def runesC : Dx.PreM := ⟨52, [.slice (some ⟨0, 0, some 2⟩) 24 24], [[.int .u8 116, .int .u8 104, .int .u8 114, .int .u8 101, .int .u8 97, .int .u8 100, .int .u8 32, .int .u8 123, .int .u8 32, .int .u8 119, .int .u8 104, .int .u8 105, .int .u8 108, .int .u8 101, .int .u8 32, .int .u8 40, .int .u8 49, .int .u8 41, .int .u8 32, .int .u8 123, .int .u8 32, .int .u8 125, .int .u8 32, .int .u8 125]],
  .slice (some ⟨1, 0, some 10⟩) 25 25, [
  (51, [.int .i64 116, .int .i64 0, .int .i64 1, .int .i64 1, .int .i64 1, .int .i64 104, .int .i64 1, .int .i64 1, .int .i64 1, .int .i64 2, .int .i64 114, .int .i64 2, .int .i64 1, .int .i64 1, .int .i64 3, .int .i64 101, .int .i64 3, .int .i64 1, .int .i64 1, .int .i64 4, .int .i64 97, .int .i64 4, .int .i64 1, .int .i64 1, .int .i64 5, .int .i64 100, .int .i64 5, .int .i64 1, .int .i64 1, .int .i64 6, .int .i64 32, .int .i64 6, .int .i64 1, .int .i64 1, .int .i64 7, .int .i64 123, .int .i64 7, .int .i64 1, .int .i64 1, .int .i64 8, .int .i64 32, .int .i64 8, .int .i64 1, .int .i64 1, .int .i64 9, .int .i64 119, .int .i64 9, .int .i64 1, .int .i64 1, .int .i64 10, .int .i64 104, .int .i64 10, .int .i64 1, .int .i64 1, .int .i64 11, .int .i64 105, .int .i64 11, .int .i64 1, .int .i64 1, .int .i64 12, .int .i64 108, .int .i64 12, .int .i64 1, .int .i64 1, .int .i64 13, .int .i64 101, .int .i64 13, .int .i64 1, .int .i64 1, .int .i64 14, .int .i64 32, .int .i64 14, .int .i64 1, .int .i64 1, .int .i64 15, .int .i64 40, .int .i64 15, .int .i64 1, .int .i64 1, .int .i64 16, .int .i64 49, .int .i64 16, .int .i64 1, .int .i64 1, .int .i64 17, .int .i64 41, .int .i64 17, .int .i64 1, .int .i64 1, .int .i64 18, .int .i64 32, .int .i64 18, .int .i64 1, .int .i64 1, .int .i64 19, .int .i64 123, .int .i64 19, .int .i64 1, .int .i64 1, .int .i64 20, .int .i64 32, .int .i64 20, .int .i64 1, .int .i64 1, .int .i64 21, .int .i64 125, .int .i64 21, .int .i64 1, .int .i64 1, .int .i64 22, .int .i64 32, .int .i64 22, .int .i64 1, .int .i64 1, .int .i64 23, .int .i64 125, .int .i64 23, .int .i64 1, .int .i64 1, .int .i64 24, .int .i64 0, .int .i64 24, .int .i64 0, .int .i64 1, .int .i64 25])]⟩
theorem runesC_ok : Dx.PreMOK Try.prog runesC := by
  exact Dx.PreMOK.of mixed (l := []) (k := []) (n := 3000) (fun p hp => by cases hp) (fun p hp => by simp only [List.mem_cons, List.not_mem_nil, or_false] at hp) (by kernel_rfl)
def lexC : Dx.PreM := ⟨21, [.slice (some ⟨0, 0, some 2⟩) 24 24], [[.int .u8 116, .int .u8 104, .int .u8 114, .int .u8 101, .int .u8 97, .int .u8 100, .int .u8 32, .int .u8 123, .int .u8 32, .int .u8 119, .int .u8 104, .int .u8 105, .int .u8 108, .int .u8 101, .int .u8 32, .int .u8 40, .int .u8 49, .int .u8 41, .int .u8 32, .int .u8 123, .int .u8 32, .int .u8 125, .int .u8 32, .int .u8 125]],
  .tuple ⟨[.slice (some ⟨1, 0, some 10⟩) 10 10, .agg ⟨[.int .i64 0, .int .i64 0, .int .i64 0]⟩]⟩, [
  (109, [.int .i64 3, .string ⟨⟨[116, 104, 114, 101, 97, 100]⟩⟩, .int .u64 0, .int .i64 1, .int .i64 1, .int .i64 4, .string ⟨⟨[123]⟩⟩, .int .u64 0, .int .i64 1, .int .i64 8, .int .i64 3, .string ⟨⟨[119, 104, 105, 108, 101]⟩⟩, .int .u64 0, .int .i64 1, .int .i64 10, .int .i64 4, .string ⟨⟨[40]⟩⟩, .int .u64 0, .int .i64 1, .int .i64 16, .int .i64 2, .string ⟨⟨[49]⟩⟩, .int .u64 1, .int .i64 1, .int .i64 17, .int .i64 4, .string ⟨⟨[41]⟩⟩, .int .u64 0, .int .i64 1, .int .i64 18, .int .i64 4, .string ⟨⟨[123]⟩⟩, .int .u64 0, .int .i64 1, .int .i64 20, .int .i64 4, .string ⟨⟨[125]⟩⟩, .int .u64 0, .int .i64 1, .int .i64 22, .int .i64 4, .string ⟨⟨[125]⟩⟩, .int .u64 0, .int .i64 1, .int .i64 24, .int .i64 5, .string ⟨⟨[]⟩⟩, .int .u64 0, .int .i64 1, .int .i64 25])]⟩
theorem lexC_ok : Dx.PreMOK Try.prog lexC := by
  have := runesC_ok
  exact Dx.PreMOK.of mixed (l := []) (k := [runesC]) (n := 3000) (fun p hp => by cases hp) (fun p hp => by simp only [List.mem_cons, List.not_mem_nil, or_false] at hp; rcases hp with rfl <;> assumption) (by kernel_rfl)
def OfC : Dx.PreM := ⟨8, [.slice (some ⟨0, 0, some 2⟩) 24 24], [[.int .u8 116, .int .u8 104, .int .u8 114, .int .u8 101, .int .u8 97, .int .u8 100, .int .u8 32, .int .u8 123, .int .u8 32, .int .u8 119, .int .u8 104, .int .u8 105, .int .u8 108, .int .u8 101, .int .u8 32, .int .u8 40, .int .u8 49, .int .u8 41, .int .u8 32, .int .u8 123, .int .u8 32, .int .u8 125, .int .u8 32, .int .u8 125]],
  .tuple ⟨[.agg ⟨[.int .i64 0, .slice (some ⟨1, 0, some 4⟩) 1 1]⟩, .bool true]⟩, [
  (138, [.int .i64 0, .slice (some ⟨2, 0, some 22⟩) 2 2]),
  (136, [.int .i64 10, .int .i64 0, .int .i64 0, .int .i64 0, .slice none 0 0, .slice (some ⟨3, 0, some 8⟩) 1 1, .slice none 0 0, .int .i64 0, .int .i64 2, .int .i64 1, .int .i64 10, .int .i64 9, .int .i64 0, .int .i64 0, .int .i64 0, .slice none 0 0, .slice none 0 0, .slice none 0 0, .int .i64 0, .int .i64 0, .int .i64 1, .int .i64 10]),
  (131, [.int .i64 1, .int .u64 1, .int .i64 0, .int .i64 0])]⟩
theorem OfC_ok : Dx.PreMOK Try.prog OfC := by
  have := lexC_ok
  exact Dx.PreMOK.of mixed (l := []) (k := [lexC]) (n := 3000) (fun p hp => by cases hp) (fun p hp => by simp only [List.mem_cons, List.not_mem_nil, or_false] at hp; rcases hp with rfl <;> assumption) (by kernel_rfl)
def OptC : Dx.PreM := ⟨9, [.agg ⟨[.int .i64 0, .slice (some ⟨0, 0, some 4⟩) 1 1]⟩], [[.int .i64 0, .slice (some ⟨1, 0, some 22⟩) 2 2],
  [.int .i64 10, .int .i64 0, .int .i64 0, .int .i64 0, .slice none 0 0, .slice (some ⟨2, 0, some 8⟩) 1 1, .slice none 0 0, .int .i64 0, .int .i64 2, .int .i64 1, .int .i64 10, .int .i64 9, .int .i64 0, .int .i64 0, .int .i64 0, .slice none 0 0, .slice none 0 0, .slice none 0 0, .int .i64 0, .int .i64 0, .int .i64 1, .int .i64 10],
  [.int .i64 1, .int .u64 1, .int .i64 0, .int .i64 0]],
  .tuple ⟨[.agg ⟨[.int .i64 0, .slice (some ⟨3, 0, some 4⟩) 1 1]⟩, .int .i64 1, .int .i64 0]⟩, [
  (136, [.int .i64 0, .slice (some ⟨4, 0, some 22⟩) 1 1]),
  (133, [.int .i64 9, .int .i64 0, .int .i64 0, .int .i64 0, .slice none 0 0, .slice none 0 0, .slice none 0 0, .int .i64 0, .int .i64 0, .int .i64 1, .int .i64 10])]⟩
theorem OptC_ok : Dx.PreMOK Try.prog OptC := by
  exact Dx.PreMOK.of mixed (l := []) (k := []) (n := 3000) (fun p hp => by cases hp) (fun p hp => by simp only [List.mem_cons, List.not_mem_nil, or_false] at hp) (by kernel_rfl)
def ofC : Dx.PreM := ⟨5, [.string ⟨⟨[116, 104, 114, 101, 97, 100, 32, 123, 32, 119, 104, 105, 108, 101, 32, 40, 49, 41, 32, 123, 32, 125, 32, 125]⟩⟩], [],
  .tuple ⟨[.agg ⟨[.int .i64 0, .slice (some ⟨0, 0, some 4⟩) 1 1]⟩, .int .i64 1]⟩, [
  (6, [.int .i64 0, .slice (some ⟨1, 0, some 22⟩) 1 1]),
  (7, [.int .i64 9, .int .i64 0, .int .i64 0, .int .i64 0, .slice none 0 0, .slice none 0 0, .slice none 0 0, .int .i64 0, .int .i64 0, .int .i64 1, .int .i64 10])]⟩
theorem ofC_ok : Dx.PreMOK Try.prog ofC := by
  have := OfC_ok
  have := OptC_ok
  exact Dx.PreMOK.of mixed (l := []) (k := [OfC, OptC]) (n := 3000) (fun p hp => by cases hp) (fun p hp => by simp only [List.mem_cons, List.not_mem_nil, or_false] at hp; rcases hp with rfl | rfl <;> assumption) (by kernel_rfl)
end Go.Proofs.Ytbbpaaofmcoobaa.Pre
