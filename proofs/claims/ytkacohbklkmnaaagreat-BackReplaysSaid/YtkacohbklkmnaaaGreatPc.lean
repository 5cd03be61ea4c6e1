/- Contracts. -/
import Derived.Test.YtkacohbklkmnaaaGreatPb
import Derived.Test.YtkacohbklkmnaaaGreatProg
import Derived.KernelRfl
import Derived.Test.YtkacohbklkmnaaaGreatPa
import Derived.Test.YtkacohbklkmnaaaGreatGf
set_option linter.unusedVariables false
set_option linter.unusedSimpArgs false
set_option linter.defProp false
set_option maxRecDepth 100000
namespace Go.Sx
open Go.Dx Go.Proofs
def qcr:Dx.PreM:=⟨11,[.slice (some ⟨0,0,some 2⟩) 1 1,.agg ⟨[.int .i64 1,.slice (some ⟨1,0,some 11⟩) 4 4,.slice (some ⟨2,0,some 5⟩) 2 2,.slice (some ⟨3,0,some 3⟩) 1 1,.slice (some ⟨4,0,some 5⟩) 1 1,zS,.slice (some ⟨5,0,some 5⟩) 1 1,.slice (some ⟨6,0,some 5⟩) 3 3]⟩],[[.slice (some ⟨7,0,some 2⟩) 12 12],
 [.int .i64 (-1),.int .i64 2,zI,zU,.int .i64 11,zI,.int .i64 1,zI,zU,.int .i64 11,zI,.int .i64 1,zI,zU,.int .i64 11,zI,.int .i64 2,zI,.int .u64 1,.int .i64 11],
 [zI,.int .i64 1,zI,.int .i64 2],
 [.slice (some ⟨8,0,some 3⟩) 2 2],
 [.int .i64 2,.int .i64 3],
 [.int .i64 2,.int .i64 3],
 [.int .i64 1,.int .i64 2,.int .i64 1,.int .i64 3,.int .i64 2,.int .i64 3],
 [.int .u32 3531604024,.int .u32 3531603997,.int .u32 4070572093,.int .u32 3361701817,.int .u32 3036676153,.int .u32 2333606714,.int .u32 3357441978,.int .u32 3053453214,.int .u32 2853766112,.int .u32 2852127736,.int .u32 3556770561,.int .u32 3560964096],
 [zI,.int .i64 3]],
 .tuple ⟨[.slice (some ⟨9,0,some 2⟩) 1 1,zI,zI]⟩,[
 (345,[.slice (some ⟨10,0,some 2⟩) 1 1]),
 (251,[zU])]⟩
theorem Bl:Dx.PreMOK Tryz.prog qcr:=by
 have:=JX;have:=JW;exact Dx.PreMOK.of mixed (l:=[]) (k:=[qcq,qcl]) (n:=3000) (λp hp=>by cases hp) (λp hp=>by simp only[List.mem_cons,List.not_mem_nil,or_false]at hp;rcases hp with rfl | rfl<;>assumption) (by kernel_rfl)
end Go.Sx
set_option maxRecDepth 100000
namespace Go.Sx
open Go.Dx Go.Proofs
def qck:Dx.PreM:=⟨8,[.agg ⟨[.int .i64 1,.slice (some ⟨0,0,some 4⟩) 1 1]⟩,.slice (some ⟨1,0,some 2⟩) 1 1,.agg ⟨[.int .i64 1,.slice (some ⟨2,0,some 11⟩) 4 4,.slice (some ⟨3,0,some 5⟩) 2 2,.slice (some ⟨4,0,some 3⟩) 1 1,.slice (some ⟨5,0,some 5⟩) 1 1,zS,.slice (some ⟨6,0,some 5⟩) 1 1,.slice (some ⟨7,0,some 5⟩) 3 3]⟩],[[.int .i64 1,.slice (some ⟨8,0,some 22⟩) 2 2],
 [.slice (some ⟨9,0,some 2⟩) 12 12],
 [.int .i64 (-1),.int .i64 2,zI,zU,.int .i64 11,zI,.int .i64 1,zI,zU,.int .i64 11,zI,.int .i64 1,zI,zU,.int .i64 11,zI,.int .i64 2,zI,.int .u64 1,.int .i64 11],
 [zI,.int .i64 1,zI,.int .i64 2],
 [.slice (some ⟨10,0,some 3⟩) 2 2],
 [.int .i64 2,.int .i64 3],
 [.int .i64 2,.int .i64 3],
 [.int .i64 1,.int .i64 2,.int .i64 1,.int .i64 3,.int .i64 2,.int .i64 3],
 [.int .i64 5,zI,zI,zI,zS,.slice (some ⟨11,0,some 8⟩) 1 1,zS,.int .i64 1,zI,.int .i64 1,.int .i64 20,.int .i64 8,zI,zI,zI,zS,.slice (some ⟨12,0,some 8⟩) 1 1,zS,zI,zI,.int .i64 1,.int .i64 45],
 [.int .u32 3531604024,.int .u32 3531603997,.int .u32 4070572093,.int .u32 3361701817,.int .u32 3036676153,.int .u32 2333606714,.int .u32 3357441978,.int .u32 3053453214,.int .u32 2853766112,.int .u32 2852127736,.int .u32 3556770561,.int .u32 3560964096],
 [zI,.int .i64 3],
 [.int .i64 1,.int .u64 1,zI,zI],
 [.int .i64 2,zU,zI,zI]],
 .tuple ⟨[.agg ⟨[.int .i64 1,.slice (some ⟨13,0,some 10⟩) 3 3,.slice (some ⟨14,0,some 4⟩) 1 1,.slice (some ⟨15,0,some 2⟩) 1 1,.slice (some ⟨16,0,some 4⟩) 1 1,zS,zS,zS]⟩,.slice (some ⟨17,0,some 3⟩) 4 4,zI]⟩,[
 (781,[.int .i64 (-1),.int .i64 2,zI,zU,.int .i64 1,zI,.int .i64 1,zI,zU,.int .i64 1,zI,.int .i64 2,zI,.int .u64 1,.int .i64 1]),
 (805,[zI,.int .i64 1]),
 (812,[.slice (some ⟨18,0,some 2⟩) 2 2]),
 (779,[.int .i64 1,.int .i64 2]),
 (689,[zI,.int .i64 (-1),.int .i64 1,.int .i64 2]),
 (810,[zI,.int .i64 2])]⟩
theorem Bj:Dx.PreMOK Tryz.prog qck:=by
 have:=JX;have:=JW;exact Dx.PreMOK.of mixed (l:=[]) (k:=[qcq,qcl]) (n:=3000) (λp hp=>by cases hp) (λp hp=>by simp only[List.mem_cons,List.not_mem_nil,or_false]at hp;rcases hp with rfl | rfl<;>assumption) (by kernel_rfl)
end Go.Sx
set_option maxRecDepth 100000
namespace Go.Sx
open Go.Dx Go.Proofs
def Kf:Dx.PreM:=⟨14,[.agg ⟨[.int .i64 1,.slice (some ⟨0,0,some 4⟩) 1 1]⟩,.agg ⟨[.int .i64 1,.slice (some ⟨1,0,some 10⟩) 3 3,.slice (some ⟨2,0,some 4⟩) 1 1,.slice (some ⟨3,0,some 2⟩) 1 1,.slice (some ⟨4,0,some 4⟩) 1 1,zS,zS,zS]⟩],[[.int .i64 1,.slice (some ⟨5,0,some 22⟩) 2 2],
 [.int .i64 (-1),.int .i64 2,zI,zU,.int .i64 1,zI,.int .i64 1,zI,zU,.int .i64 1,zI,.int .i64 2,zI,.int .u64 1,.int .i64 1],
 [zI,.int .i64 1],
 [.slice (some ⟨6,0,some 2⟩) 2 2],
 [.int .i64 1,.int .i64 2],
 [.int .i64 5,zI,zI,zI,zS,.slice (some ⟨7,0,some 8⟩) 1 1,zS,.int .i64 1,zI,.int .i64 1,.int .i64 20,.int .i64 8,zI,zI,zI,zS,.slice (some ⟨8,0,some 8⟩) 1 1,zS,zI,zI,.int .i64 1,.int .i64 45],
 [zI,.int .i64 2],
 [.int .i64 1,.int .u64 1,zI,zI],
 [.int .i64 2,zU,zI,zI]],
 .tuple ⟨[.slice (some ⟨9,0,some 2⟩) 1 1,zI,zI]⟩,[
 (164,[.slice (some ⟨10,0,some 2⟩) 1 1]),
 (155,[zU])]⟩
theorem Zn:Dx.PreMOK Tryz.prog Kf:=by
 have:=qcm;exact Dx.PreMOK.of mixed (l:=[]) (k:=[prCoC]) (n:=3000) (λp hp=>by cases hp) (λp hp=>by simp only[List.mem_cons,List.not_mem_nil,or_false]at hp;rcases hp with rfl<;>assumption) (by kernel_rfl)
end Go.Sx
set_option maxRecDepth 100000
namespace Go.Sx
open Go.Dx Go.Proofs
def Ff:Dx.PreM:=⟨6,[],[],
 zT,[
 ]⟩
theorem Yb:Dx.PreMOK Tryz.prog Ff:=by
 have:=JZ;have:=Bl;have:=Bj;have:=Zn;exact Dx.PreMOK.of mixed (l:=[]) (k:=[JY,qcr,qck,Kf]) (n:=3000) (λp hp=>by cases hp) (λp hp=>by simp only[List.mem_cons,List.not_mem_nil,or_false]at hp;rcases hp with rfl | rfl | rfl | rfl<;>assumption) (by kernel_rfl)
end Go.Sx
set_option maxRecDepth 100000
namespace Go.Sx
open Go.Dx Go.Proofs
theorem aw_ok:Dx.PreOK2 Tryz.prog aw:=Dx.PreOK2.of mixed (l:=[]) (k:=[Ff]) (n:=3000) (λp hp=>by cases hp) (λp hp=>by rw[qhc.1 hp];exact Yb) (by kernel_rfl) (by kernel_rfl)
end Go.Sx
