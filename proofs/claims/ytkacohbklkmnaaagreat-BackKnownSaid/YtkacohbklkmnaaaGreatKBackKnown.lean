/-
  'sextant/sextantlaw20.BackKnown' returns true: proved by running it, with a verified evaluator over an abstract memory, in the kernel; calls within it were run beforehand. No conditions.
-/
import Derived.Test.YtkacohbklkmnaaaGreatRows
import Derived.WalkKit
import Derived.ProofKit
import Derived.OpenShut
import Derived.Test.YtkacohbklkmnaaaGreatPost
import Derived.Test.YtkacohbklkmnaaaGreatPm
import Derived.Test.YtkacohbklkmnaaaGreatPA1
import Derived.Test.YtkacohbklkmnaaaGreatPA2
import Derived.Test.YtkacohbklkmnaaaGreatPA3
import Derived.Test.YtkacohbklkmnaaaGreatPD1
import Derived.Test.YtkacohbklkmnaaaGreatPD2
import Derived.Test.YtkacohbklkmnaaaGreatPD3
import Derived.Test.YtkacohbklkmnaaaGreatPD4
import Derived.Test.YtkacohbklkmnaaaGreatPN
import Derived.Test.YtkacohbklkmnaaaGreatPC
import Derived.Test.YtkacohbklkmnaaaGreatPR
import Derived.Test.YtkacohbklkmnaaaGreatPB
import Derived.Test.YtkacohbklkmnaaaGreatPP
import Derived.Test.YtkacohbklkmnaaaGreatPW
import Derived.Test.YtkacohbklkmnaaaGreatPK
import Derived.KernelRfl
namespace Go.Proofs.YtkacohbklkmnaaaGreat.backKnown
open Go.ChangeShapes Go.WideShapes Go.ChangeAt Go.RowKit
set_option linter.unusedVariables false

theorem own : ownKnob Tryz.prog.godebug = none := by kernel_rfl

theorem pres : ∀ p ∈ [Pre.prAwake, Pre.prSample, Pre.prBack, Pre.prRuns2, Pre.prCoA], Dx.PreMOK Tryz.prog p := by
  intro p hp
  simp only [List.mem_cons, List.not_mem_nil, or_false] at hp
  rcases hp with rfl | rfl | rfl | rfl | rfl
  · exact Pre.prAwake_ok
  · exact Pre.prSample_ok
  · exact Pre.prBack_ok
  · exact Pre.prRuns2_ok
  · exact Pre.prCoA_ok

theorem run : Dx.okTrue ((Dx.exgm Tryz.prog [] [Pre.prAwake, Pre.prSample, Pre.prBack, Pre.prRuns2, Pre.prCoA] 3000).f 3 [] Dx.M.empty) = true := by kernel_rfl
theorem walk (w : World) :
    Calls Tryz.prog 3 #[] w fun e w' => e = .returned (.bool true) ∧ Below w.heap.size w w' := by
  obtain ⟨m, hm⟩ := Dx.okTrue_some run
  exact Dx.exgm_true (by kernel_rfl) (fun p hp => by cases hp) pres hm w

/-! ### THE ROW's STEP: WRITTEN OUT: LEAVE IT -/
set_option maxRecDepth 100000 in
theorem lifted (os : Os) (started : os.Started) (H : Type) (enc : TypeId × Value → H) :
    ReturnsInHanded {} Tryz.checked os 3 .any (Rows.backKnownSpec.pre6 enc Tryz.prog Tryz.f3 Rows.backKnownRow.domain false) (Rows.backKnownSpec.post enc Tryz.prog Tryz.f3 false true false false) := by
  refine returnsInHanded_of_change (C := Tryz.checked) own started (by kernel_rfl) Tryz.func3
    (ChangeSpec.witness6 (enc := enc) (C := Tryz.checked) false ⟨#[], #[], []⟩ 8 (by kernel_rfl) (by kernel_rfl) (by kernel_rfl) (by kernel_rfl)) ?_
  intro W base args ds gs before hval0 hW hcnd _
  have hval : ∀ (j : Nat) t v, Tryz.f3.params[j]? = some t → args[j]? = some v → Value.okWide Tryz.prog W .any base t v := hval0
  have hW' := hW
  obtain ⟨p, q, hA0, hV, rfl, hfz, hnd⟩ := hW
  have hA : DataW.TrodAll enc Tryz.prog W 0 (fun _ => true) true Tryz.f3.params.toList args.toList ds p := hA0
  rw [Tryz.params3] at hA hval
  obtain ⟨rfl, rfl, rfl⟩ := trodAll_none hA
  obtain ⟨rfl, rfl⟩ := trodVars_none hV
  clear hA0 hval0
  simp only [List.append_nil] at hW'
  refine (walk  W).mono fun e W' ⟨he, hg⟩ => ?_
  subst he
  exact ⟨_, rfl, Dx.post_of_below (pa := []) (pv := []) hW' (fun _ _ _ => (trodAll_cons_mk (shut_bool Tryz.underlying4 _) trodAll_mk0)) (fun sp _ => rfl) (fun _ _ => rfl) rfl
    hg (ok_one (by kernel_rfl) rfl (okWide_bool_mk Tryz.underlying4 _))⟩

theorem over : Rows.backKnownRow.holds Tryz.pinned (OpenSpec.ofChange Rows.backKnownSpec) :=
  OpenClaim.holds_of_wide 3 Tryz.f3 rfl rfl rfl rfl rfl rfl rfl ⟨rfl, rfl, rfl, rfl, rfl⟩ rfl rfl rfl rfl rfl (by kernel_rfl) Tryz.func3 (by kernel_rfl)
    (of_decide_eq_true (by kernel_rfl)) (by unfold Func.isWrapper; first | (rw [if_pos (by decide +kernel)]; kernel_rfl) | (rw [if_neg (by decide +kernel)]; exact ⟨rfl, rfl⟩))
    (fun os started H enc _ => lifted os started H enc)

/-- ████ THE STATEMENT ████ -/
theorem proved : Rows.BackKnownSaid :=
  over
#print axioms proved
end Go.Proofs.YtkacohbklkmnaaaGreat.backKnown
