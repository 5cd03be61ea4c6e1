/-
  'sextant/sextantlaw29.WeaveAlls' returns true, whatever the cycle that is handed in: by contracts of the functions it calls, over a verified evaluator, and a plain law. No conditions.
-/
import Derived.Test.YtdfaibjngkfnaaaRows
import Derived.WalkKit
import Derived.ProofKit
import Derived.OpenShut
import Derived.SizedLaws
import Derived.Lib.SmallJoins
import Derived.KernelRfl
import Derived.Test.YtdfaibjngkfnaaaPost
import Derived.Test.YtdfaibjngkfnaaaGa
import Derived.Test.YtdfaibjngkfnaaaGh
set_option linter.unusedVariables false
namespace Go.Proofs.Ytdfaibjngkfnaaa.weaveAlls
open Go.ChangeShapes Go.WideShapes Go.ChangeAt Go.RowKit Go.Dx Go.Sx

theorem own : ownKnob Try.prog.godebug = none := by kernel_rfl
theorem laid : laidOutB Try.prog = true := by kernel_rfl
theorem mixed : Try.prog.follows .mixedOrders = true := by kernel_rfl
theorem aw_ok : PreOK Try.prog aw := ⟨by kernel_rfl, 3000, by kernel_rfl⟩
set_option maxRecDepth 100000 in
theorem lifted (os : Os) (started : os.Started) (H : Type) (enc : TypeId × Value → H) :
    ReturnsInHanded {} Try.checked os 10 .any (Rows.weaveAllsSpec.pre6 enc Try.prog Try.f10 Rows.weaveAllsRow.domain false) (Rows.weaveAllsSpec.post enc Try.prog Try.f10 false true false false) := by
  refine returnsInHanded_of_change_sized (C := Try.checked) own started (by kernel_rfl) Try.func10
    (ChangeSpec.witness6 (enc := enc) (C := Try.checked) false ⟨#[], #[.int .i64 0], []⟩ 8 (by kernel_rfl) (by kernel_rfl) (by kernel_rfl) (by kernel_rfl)) ?_
  intro W base args ds gs before hval0 hW hcnd hwt _
  have hval : ∀ (j : Nat) t v, Try.f10.params[j]? = some t → args[j]? = some v → Value.okWide Try.prog W .any base t v := hval0
  have hW' := hW
  obtain ⟨p, q, hA0, hV, rfl, hfz, hnd⟩ := hW
  have hA : DataW.TrodAll enc Try.prog W 0 (fun _ => true) true Try.f10.params.toList args.toList ds p := hA0
  rw [Try.params10] at hA hval
  obtain ⟨v, d, rfl, rfl, hd⟩ := trodAll_one hA
  obtain ⟨rfl, rfl⟩ := trodVars_none hV
  clear hA0 hval0
  simp only [List.append_nil] at hW' hfz
  obtain ⟨z, rfl, rfl, rfl, hz⟩ := open_int Try.underlying3 (hval 0 3 v rfl rfl) hd
  obtain ⟨f1, f2, f3, f4⟩ := snap_facts W
  refine (snap_call (Ex.step_ok (xA_ok mixed aw_ok 17) mixed) (WeaveAlls_c z (snapM W) (by rw [f1, f2]; exact Nat.le_refl _)) #[.int .i64 z] (.cons _ _ _ _ (.int .i64 z) .nil)).mono fun e W' ⟨he, hg⟩ => ?_
  subst he
  have hlt : ∀ x ∈ ([] : List MemPlace), x.block < W.heap.size := fun x hx => hW'.lt x hx
  exact ⟨_, rfl, Dx.post_of_below (ds := [.lit (.int .i64 z)]) (gs := []) (before := []) (pa := []) (pv := []) hW' (fun _ _ _ => (trodAll_cons_mk (shut_bool Try.underlying4 _) trodAll_mk0)) (fun sp hsp => trodAll_mk1 (WideElems.Trod_stays laid (by kernel_rfl) (of_decide_eq_true (by kernel_rfl)) hd (fun x hx => hg.same (hlt x hx)) (fun x hx => hsp x hx))) (fun _ _ => rfl) (by simp)
    hg (ok_one (by kernel_rfl) rfl (okWide_bool_mk Try.underlying4 _))⟩

theorem over : Rows.weaveAllsRow.holds Try.pinned (OpenSpec.ofChange Rows.weaveAllsSpec) :=
  OpenClaim.holds_of_wide 10 Try.f10 rfl rfl rfl rfl rfl rfl rfl ⟨rfl, rfl, rfl, rfl, rfl⟩ rfl rfl rfl rfl rfl (by kernel_rfl) Try.func10 (by kernel_rfl)
    (of_decide_eq_true (by kernel_rfl)) (by unfold Func.isWrapper; first | (rw [if_pos (by decide +kernel)]; kernel_rfl) | (rw [if_neg (by decide +kernel)]; exact ⟨rfl, rfl⟩))
    (fun os started H enc _ => lifted os started H enc)

/-- ████ THE STATEMENT ████ -/
theorem proved : Rows.WeaveAllsSaid :=
  over
#print axioms proved
end Go.Proofs.Ytdfaibjngkfnaaa.weaveAlls
