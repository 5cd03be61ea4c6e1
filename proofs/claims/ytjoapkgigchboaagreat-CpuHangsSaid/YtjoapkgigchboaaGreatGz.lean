/- Contracts. -/
import Derived.Test.YtjoapkgigchboaaGreatGi
import Derived.Test.YtjoapkgigchboaaGreatGh
import Derived.Test.YtjoapkgigchboaaGreatPost
set_option linter.unusedVariables false
set_option linter.unusedSimpArgs false
set_option linter.defProp false
namespace Go.Dx
open Go.RowKit
end Go.Dx
namespace Go.Sx
open Go.Dx Go.Proofs
set_option maxRecDepth 100000
theorem mixed:Tryz.prog.follows .mixedOrders=true:=by kernel_rfl
def decV (i:Ins)(e:Int):Value:=.tuple ⟨[.agg ⟨qv i⟩,iv e]⟩
def decP (x:Nat × Ins × Int):Dx.Pre:=⟨41,[.int .u32 x.1],decV x.2.1 x.2.2,[]⟩
noncomputable def decC (x:Nat × Ins × Int):Bool:=decide (je x.1=(x.2.1,x.2.2))&&Dx.chk [] (decV x.2.1 x.2.2) (some (decV x.2.1 x.2.2,M.empty))
theorem qdm {x:Nat × Ins × Int}(h:decC x=true):Dx.PreOK2 Tryz.prog (decP x):=by
 unfold decC at h
 rw[qgj]at h
 obtain⟨h1,h2⟩:=h
 have h1:=of_decide_eq_true h1
 obtain⟨v,m',a1,a2,rfl⟩:=Jt 0 x.1 M.empty (qgg _)
 refine⟨rfl,ex Tryz.prog 3,JO mixed 3,?_⟩
 rw[h1]at a1
 show Dx.chk [] (decV x.2.1 x.2.2) ((ex Tryz.prog 3).f 41 [wv x.1] M.empty)=true
 rw[show (0+3)=3 from rfl]at a1
 rw[a1]
 exact h2
theorem qdn {l:List (Nat × Ins × Int)}(h:l.all decC=true):∀p∈l.map decP,Dx.PreOK2 Tryz.prog p:=by
 intro p hp
 obtain⟨x,hx,rfl⟩:=List.mem_map.1 hp
 exact qdm (List.all_eq_true.1 h x hx)
def decsK:List (Nat × Ins × Int):=[
 (3036676130,⟨21,2,0,0,1,0⟩,0),
 (3533701153,⟨1,1,0,0,1,1⟩,0),
 (3556769857,⟨33,0,0,0,2,0⟩,0),
 (3560964096,⟨34,0,0,0,0,0⟩,0),
 (4177527842,⟨23,2,1,0,8,0⟩,0),
 (4181721122,⟨22,2,1,0,0,0⟩,0)]
theorem Gl:decsK.all decC=true:=by kernel_rfl
theorem qa6:∀p∈decsK.map decP,Dx.PreOK2 Tryz.prog p:=qdn Gl
def qdh:Dx.PreM:=⟨34,[.slice (some ⟨0,0,some 13⟩) 6 6],[[.int .i64 1,.int .i64 1,zI,zI,.int .i64 1,.int .i64 1,.int .i64 22,.int .i64 2,.int .i64 1,zI,zI,zI,.int .i64 21,.int .i64 2,zI,zI,.int .i64 1,zI,.int .i64 23,.int .i64 2,.int .i64 1,zI,.int .i64 8,zI,.int .i64 33,zI,zI,zI,.int .i64 2,zI,.int .i64 34,zI,zI,zI,zI,zI]],
 .slice (some ⟨1,0,some 2⟩) 6 6,[
 (155,[.int .u32 3533701153,.int .u32 4181721122,.int .u32 3036676130,.int .u32 4177527842,.int .u32 3556769857,.int .u32 3560964096])]⟩
theorem Bt:Dx.PreMOK Tryz.prog qdh:=by
 exact Dx.PreMOK.of mixed (l:=[]) (k:=[]) (n:=3000) (λp hp=>by cases hp) (λp hp=>by simp only[List.mem_cons,List.not_mem_nil,or_false]at hp) (by kernel_rfl)
def DZ:Dx.PreM:=⟨22,[],[],
 .slice (some ⟨0,0,some 2⟩) 6 6,[
 (1,[.int .u32 3533701153,.int .u32 4181721122,.int .u32 3036676130,.int .u32 4177527842,.int .u32 3556769857,.int .u32 3560964096])]⟩
theorem qa0:Dx.PreMOK Tryz.prog DZ:=by
 have:=Bt
 exact Dx.PreMOK.of mixed (l:=[]) (k:=[qdh]) (n:=3000) (λp hp=>by cases hp) (λp hp=>by simp only[List.mem_cons,List.not_mem_nil,or_false]at hp;rcases hp with rfl<;>assumption) (by kernel_rfl)
theorem Gj:∀p∈[DZ],Dx.PreMOK Tryz.prog p:=by
 intro p hp
 rw[qgk.1 hp]
 exact qa0
theorem aw_ok:Dx.PreOK2 Tryz.prog aw:=Dx.PreOK2.of mixed (l:=decsK.map decP) (k:=[DZ]) (n:=3000) qa6 Gj rfl (by kernel_rfl)
end Go.Sx
