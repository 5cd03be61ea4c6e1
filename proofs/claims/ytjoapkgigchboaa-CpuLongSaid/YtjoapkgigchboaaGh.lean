/- Contracts. -/
import Derived.Test.YtjoapkgigchboaaGg
import Derived.Test.YtjoapkgigchboaaGf
import Derived.Test.YtjoapkgigchboaaPost
set_option linter.unusedVariables false
set_option linter.unusedSimpArgs false
set_option linter.defProp false
namespace Go.Dx
open Go.RowKit
theorem ex_true {P : Program} {x : Ex} (hx : ExOK P x) {g : Nat} {m : M} (h : x.f g [] M.empty = some (.bool true, m)) (w : World) :
    Calls P g #[] w fun e w' => e = .returned (.bool true) ∧ Below w.heap.size w w' := by
  obtain ⟨_, _, h3⟩ := hx.f _ _ _ _ _ h
  refine (h3 (fun _ => none) w #[] (R.empty w) .nil (fun _ _ _ => rfl)).mono ?_
  rintro e w' ⟨φ', v', rfl, _, hs, hr⟩
  refine ⟨by rw [hr.bool_inv], hs.os, hs.tape, hs.output, hs.size, fun k hk => hs.frame k hk fun _ _ h => by cases h⟩
end Go.Dx
namespace Go.Sx
open Go.Dx Go.Proofs
set_option maxRecDepth 100000
theorem copyP_mem : ∀ p ∈ [copyP], Dx.PreMOK Try.prog p := by
  intro p hp
  rw [List.mem_singleton.1 hp]
  exact copyP_ok
theorem aw_ok : Dx.PreOK2 Try.prog aw := Dx.PreOK2.of mixed (l := decsK.map decP) (k := [copyP]) (n := 3000) decsK_ok copyP_mem rfl (by kernel_rfl)
end Go.Sx
