/- Contracts. -/
import Derived.Test.YtkacohbklkmnaaaGreatPa
import Derived.Test.YtkacohbklkmnaaaGreatProg
import Derived.KernelRfl
set_option linter.unusedVariables false
set_option linter.unusedSimpArgs false
set_option linter.defProp false
set_option maxRecDepth 100000
namespace Go.Sx
open Go.Dx Go.Proofs
def prD1:Dx.PreM:=⟨150,[.int .u32 3531604024],[],
 .tuple ⟨[.agg ⟨[.int .i64 1,.int .i64 24,zI,zI,.int .i64 1,zI]⟩,zI]⟩,[
 ]⟩
theorem qff:Dx.PreMOK Tryz.prog prD1:=by
 exact Dx.PreMOK.of mixed (l:=[]) (k:=[]) (n:=3000) (λp hp=>by cases hp) (λp hp=>by simp only[List.mem_cons,List.not_mem_nil,or_false]at hp) (by kernel_rfl)
def prD2:Dx.PreM:=⟨150,[.int .u32 3531603997],[],
 .tuple ⟨[.agg ⟨[.int .i64 1,.int .i64 29,zI,zI,zI,zI]⟩,zI]⟩,[
 ]⟩
theorem qfg:Dx.PreMOK Tryz.prog prD2:=by
 exact Dx.PreMOK.of mixed (l:=[]) (k:=[]) (n:=3000) (λp hp=>by cases hp) (λp hp=>by simp only[List.mem_cons,List.not_mem_nil,or_false]at hp) (by kernel_rfl)
def prD3:Dx.PreM:=⟨150,[.int .u32 4070572093],[],
 .tuple ⟨[.agg ⟨[.int .i64 2,.int .i64 29,zI,zI,.int .i64 1,.int .i64 1]⟩,zI]⟩,[
 ]⟩
theorem qfh:Dx.PreMOK Tryz.prog prD3:=by
 exact Dx.PreMOK.of mixed (l:=[]) (k:=[]) (n:=3000) (λp hp=>by cases hp) (λp hp=>by simp only[List.mem_cons,List.not_mem_nil,or_false]at hp) (by kernel_rfl)
end Go.Sx
set_option maxRecDepth 100000
namespace Go.Sx
open Go.Dx Go.Proofs
def prD4:Dx.PreM:=⟨150,[.int .u32 3361701817],[],
 .tuple ⟨[.agg ⟨[.int .i64 26,.int .i64 25,.int .i64 29,zI,zI,zI]⟩,zI]⟩,[
 ]⟩
theorem qfi:Dx.PreMOK Tryz.prog prD4:=by
 exact Dx.PreMOK.of mixed (l:=[]) (k:=[]) (n:=3000) (λp hp=>by cases hp) (λp hp=>by simp only[List.mem_cons,List.not_mem_nil,or_false]at hp) (by kernel_rfl)
def prD5:Dx.PreM:=⟨150,[.int .u32 3036676153],[],
 .tuple ⟨[.agg ⟨[.int .i64 21,.int .i64 25,zI,zI,.int .i64 1,zI]⟩,zI]⟩,[
 ]⟩
theorem qfj:Dx.PreMOK Tryz.prog prD5:=by
 exact Dx.PreMOK.of mixed (l:=[]) (k:=[]) (n:=3000) (λp hp=>by cases hp) (λp hp=>by simp only[List.mem_cons,List.not_mem_nil,or_false]at hp) (by kernel_rfl)
def prD6:Dx.PreM:=⟨150,[.int .u32 2333606714],[],
 .tuple ⟨[.agg ⟨[.int .i64 3,.int .i64 26,.int .i64 25,.int .i64 24,zI,zI]⟩,zI]⟩,[
 ]⟩
theorem qfk:Dx.PreMOK Tryz.prog prD6:=by
 exact Dx.PreMOK.of mixed (l:=[]) (k:=[]) (n:=3000) (λp hp=>by cases hp) (λp hp=>by simp only[List.mem_cons,List.not_mem_nil,or_false]at hp) (by kernel_rfl)
end Go.Sx
set_option maxRecDepth 100000
namespace Go.Sx
open Go.Dx Go.Proofs
def prD7:Dx.PreM:=⟨150,[.int .u32 3357441978],[],
 .tuple ⟨[.agg ⟨[.int .i64 28,.int .i64 26,.int .i64 29,.int .i64 30,zI,zI]⟩,zI]⟩,[
 ]⟩
theorem qfl:Dx.PreMOK Tryz.prog prD7:=by
 exact Dx.PreMOK.of mixed (l:=[]) (k:=[]) (n:=3000) (λp hp=>by cases hp) (λp hp=>by simp only[List.mem_cons,List.not_mem_nil,or_false]at hp) (by kernel_rfl)
def prD8:Dx.PreM:=⟨150,[.int .u32 3053453214],[],
 .tuple ⟨[.agg ⟨[.int .i64 21,.int .i64 30,zI,zI,.int .i64 (-4),zI]⟩,zI]⟩,[
 ]⟩
theorem qfm:Dx.PreMOK Tryz.prog prD8:=by
 exact Dx.PreMOK.of mixed (l:=[]) (k:=[]) (n:=3000) (λp hp=>by cases hp) (λp hp=>by simp only[List.mem_cons,List.not_mem_nil,or_false]at hp) (by kernel_rfl)
def prD9:Dx.PreM:=⟨150,[.int .u32 2853766112],[],
 .tuple ⟨[.agg ⟨[.int .i64 6,zI,.int .i64 31,.int .i64 25,zI,zI]⟩,zI]⟩,[
 ]⟩
theorem qfn:Dx.PreMOK Tryz.prog prD9:=by
 exact Dx.PreMOK.of mixed (l:=[]) (k:=[]) (n:=3000) (λp hp=>by cases hp) (λp hp=>by simp only[List.mem_cons,List.not_mem_nil,or_false]at hp) (by kernel_rfl)
end Go.Sx
set_option maxRecDepth 100000
namespace Go.Sx
open Go.Dx Go.Proofs
def prD10:Dx.PreM:=⟨150,[.int .u32 2852127736],[],
 .tuple ⟨[.agg ⟨[.int .i64 6,.int .i64 24,.int .i64 31,zI,zI,zI]⟩,zI]⟩,[
 ]⟩
theorem qcn:Dx.PreMOK Tryz.prog prD10:=by
 exact Dx.PreMOK.of mixed (l:=[]) (k:=[]) (n:=3000) (λp hp=>by cases hp) (λp hp=>by simp only[List.mem_cons,List.not_mem_nil,or_false]at hp) (by kernel_rfl)
def prD11:Dx.PreM:=⟨150,[.int .u32 3556770561],[],
 .tuple ⟨[.agg ⟨[.int .i64 33,zI,zI,zI,.int .i64 24,zI]⟩,zI]⟩,[
 ]⟩
theorem qco:Dx.PreMOK Tryz.prog prD11:=by
 exact Dx.PreMOK.of mixed (l:=[]) (k:=[]) (n:=3000) (λp hp=>by cases hp) (λp hp=>by simp only[List.mem_cons,List.not_mem_nil,or_false]at hp) (by kernel_rfl)
def prD12:Dx.PreM:=⟨150,[.int .u32 3560964096],[],
 .tuple ⟨[.agg ⟨[.int .i64 34,zI,zI,zI,zI,zI]⟩,zI]⟩,[
 ]⟩
theorem qcp:Dx.PreMOK Tryz.prog prD12:=by
 exact Dx.PreMOK.of mixed (l:=[]) (k:=[]) (n:=3000) (λp hp=>by cases hp) (λp hp=>by simp only[List.mem_cons,List.not_mem_nil,or_false]at hp) (by kernel_rfl)
end Go.Sx
set_option maxRecDepth 100000
namespace Go.Sx
open Go.Dx Go.Proofs
def qcq:Dx.PreM:=⟨54,[.slice (some ⟨0,0,some 2⟩) 12 12],[[.int .u32 3531604024,.int .u32 3531603997,.int .u32 4070572093,.int .u32 3361701817,.int .u32 3036676153,.int .u32 2333606714,.int .u32 3357441978,.int .u32 3053453214,.int .u32 2853766112,.int .u32 2852127736,.int .u32 3556770561,.int .u32 3560964096]],
 .tuple ⟨[.pointer (some ⟨1,0,none⟩),zI]⟩,[
 (37,[.slice (some ⟨2,0,some 12⟩) 12 12,zI,zU,zU,zU,zU,zU,zU,zU,zU,zU,zU,zU,zU,zU,zU,zU,zU,zU,zU,zU,zU,zU,zU,zU,zU,zU,zU,zU,zU,zU,zU,zU,zU,zS,zS,zS,zS,zS,zS,zS,zS,zS,zS,zS,zS,zS,zS,zS,zS,zS,zS,zS,zS,zS,zS,zS,zS,zS,zS,zS,zS,zS,zS,zS,zS,zF,zF,zF,zF,zS,zS,zF,zI,zI,.pointer none,zI,zI,zS,zS,zS,zS,zS,zS,zI,zI,zI,.int .i64 (-1)]),
 (36,[.int .i64 1,.int .i64 24,zI,zI,.int .i64 1,zI,.int .i64 1,.int .i64 29,zI,zI,zI,zI,.int .i64 2,.int .i64 29,zI,zI,.int .i64 1,.int .i64 1,.int .i64 26,.int .i64 25,.int .i64 29,zI,zI,zI,.int .i64 21,.int .i64 25,zI,zI,.int .i64 1,zI,.int .i64 3,.int .i64 26,.int .i64 25,.int .i64 24,zI,zI,.int .i64 28,.int .i64 26,.int .i64 29,.int .i64 30,zI,zI,.int .i64 21,.int .i64 30,zI,zI,.int .i64 (-4),zI,.int .i64 6,zI,.int .i64 31,.int .i64 25,zI,zI,.int .i64 6,.int .i64 24,.int .i64 31,zI,zI,zI,.int .i64 33,zI,zI,zI,.int .i64 24,zI,.int .i64 34,zI,zI,zI,zI,zI])]⟩
theorem JX:Dx.PreMOK Tryz.prog qcq:=by
 have:=qff;have:=qfg;have:=qfh;have:=qfi;have:=qfj;have:=qfk;have:=qfl;have:=qfm;have:=qfn;have:=qcn;have:=qco;have:=qcp;exact Dx.PreMOK.of mixed (l:=[]) (k:=[prD1,prD2,prD3,prD4,prD5,prD6,prD7,prD8,prD9,prD10,prD11,prD12]) (n:=3000) (λp hp=>by cases hp) (λp hp=>by simp only[List.mem_cons,List.not_mem_nil,or_false]at hp;rcases hp with rfl | rfl | rfl | rfl | rfl | rfl | rfl | rfl | rfl | rfl | rfl | rfl<;>assumption) (by kernel_rfl)
end Go.Sx
set_option maxRecDepth 100000
namespace Go.Sx
open Go.Dx Go.Proofs
def qcl:Dx.PreM:=⟨50,[.pointer (some ⟨0,0,none⟩)],[[.int .i64 1,.slice (some ⟨1,0,some 11⟩) 4 4,.slice (some ⟨2,0,some 5⟩) 2 2,.slice (some ⟨3,0,some 3⟩) 1 1,.slice (some ⟨4,0,some 5⟩) 1 1,zS,.slice (some ⟨5,0,some 5⟩) 1 1,.slice (some ⟨6,0,some 5⟩) 3 3,zT,.slice (some ⟨7,0,some 3⟩) 4 4],
 [.int .i64 (-1),.int .i64 2,zI,zU,.int .i64 11,zI,.int .i64 1,zI,zU,.int .i64 11,zI,.int .i64 1,zI,zU,.int .i64 11,zI,.int .i64 2,zI,.int .u64 1,.int .i64 11],
 [zI,.int .i64 1,zI,.int .i64 2],
 [.slice (some ⟨8,0,some 3⟩) 2 2],
 [.int .i64 2,.int .i64 3],
 [.int .i64 2,.int .i64 3],
 [.int .i64 1,.int .i64 2,.int .i64 1,.int .i64 3,.int .i64 2,.int .i64 3],
 [.int .i64 (-1),.int .i64 2,.int .i64 3,.int .i64 (-1)],
 [zI,.int .i64 3]],
 .int .i64 (-1),[
 ]⟩
theorem JW:Dx.PreMOK Tryz.prog qcl:=by
 exact Dx.PreMOK.of mixed (l:=[]) (k:=[]) (n:=3000) (λp hp=>by cases hp) (λp hp=>by simp only[List.mem_cons,List.not_mem_nil,or_false]at hp) (by kernel_rfl)
def prCoC:Dx.PreM:=⟨50,[.pointer (some ⟨0,0,none⟩)],[[.int .i64 1,.slice (some ⟨1,0,some 10⟩) 3 3,.slice (some ⟨2,0,some 4⟩) 1 1,.slice (some ⟨3,0,some 2⟩) 1 1,.slice (some ⟨4,0,some 4⟩) 1 1,zS,zS,zS,zF,.slice (some ⟨5,0,some 3⟩) 3 3],
 [.int .i64 (-1),.int .i64 2,zI,zU,.int .i64 1,zI,.int .i64 1,zI,zU,.int .i64 1,zI,.int .i64 2,zI,.int .u64 1,.int .i64 1],
 [zI,.int .i64 1],
 [.slice (some ⟨6,0,some 2⟩) 2 2],
 [.int .i64 1,.int .i64 2],
 [.int .i64 (-1),.int .i64 2,.int .i64 (-1)],
 [zI,.int .i64 2]],
 .int .i64 (-1),[
 ]⟩
theorem qcm:Dx.PreMOK Tryz.prog prCoC:=by
 exact Dx.PreMOK.of mixed (l:=[]) (k:=[]) (n:=3000) (λp hp=>by cases hp) (λp hp=>by simp only[List.mem_cons,List.not_mem_nil,or_false]at hp) (by kernel_rfl)
end Go.Sx
