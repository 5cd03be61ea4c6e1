/-
  'OptTells' returns true, whatever is handed in: by contracts of the functions it calls, over a verified evaluator, and a plain law. No conditions.
-/
import Derived.Test.YtbbpaaofmcoobaaGreatRows
import Derived.WalkKit
import Derived.ProofKit
import Derived.OpenShut
import Derived.SizedLaws
import Derived.KernelRfl
import Derived.Test.YtbbpaaofmcoobaaGreatPost
import Derived.Test.YtbbpaaofmcoobaaGreatGk
import Derived.Test.YtbbpaaofmcoobaaGreatGl
import Derived.Test.YtbbpaaofmcoobaaGreatGz
import Derived.Test.YtbbpaaofmcoobaaGreatGy
set_option linter.unusedVariables false
namespace Go.Proofs.YtbbpaaofmcoobaaGreat.optTells
open Go.ChangeShapes Go.WideShapes Go.ChangeAt Go.RowKit Go.Dx Go.Sx

theorem own : ownKnob Tryz.prog.godebug = none := by kernel_rfl
theorem laid : laidOutB Tryz.prog = true := by kernel_rfl
theorem pt : PT Tryz.prog 37 35 52 50 85 22 31 3 29 := ⟨⟨_, Tryz.underlying37, rfl⟩, by kernel_rfl, Tryz.underlying35, by kernel_rfl, ⟨_, Tryz.underlying52, rfl⟩, by kernel_rfl, Tryz.underlying50, by kernel_rfl, ⟨_, Tryz.underlying85, rfl⟩, by kernel_rfl, Tryz.underlying22, by kernel_rfl, ⟨_, Tryz.underlying31, rfl⟩, by kernel_rfl, Tryz.underlying3, by kernel_rfl, Tryz.underlying29, by kernel_rfl⟩
theorem pz : PZ Tryz.prog 52 85 31 := ⟨by kernel_rfl, by kernel_rfl, by kernel_rfl⟩
set_option maxRecDepth 100000 in
theorem lifted (os : Os) (started : os.Started) (H : Type) (enc : TypeId × Value → H) :
    ReturnsInHanded {} Tryz.checked os 4 .any (Rows.optTellsSpec.pre6 enc Tryz.prog Tryz.f4 Rows.optTellsRow.domain false) (Rows.optTellsSpec.post enc Tryz.prog Tryz.f4 false true false false) := by
  refine returnsInHanded_of_change_sized (C := Tryz.checked) own started (by kernel_rfl) Tryz.func4
    (ChangeSpec.witness6 (enc := enc) (C := Tryz.checked) false ⟨#[], #[.agg #[.int .i64 0, .slice none 0 0]], []⟩ 8 (by kernel_rfl) (by kernel_rfl) (by kernel_rfl) (by kernel_rfl)) ?_
  intro W base args ds gs before hval0 hW hcnd hwt _
  have hval : ∀ (j : Nat) t v, Tryz.f4.params[j]? = some t → args[j]? = some v → Value.okWide Tryz.prog W .any base t v := hval0
  have hW' := hW
  obtain ⟨p, q, hA0, hV, rfl, hfz, hnd⟩ := hW
  have hA : DataW.TrodAll enc Tryz.prog W 0 (fun _ => true) true Tryz.f4.params.toList args.toList ds p := hA0
  have hstay := fun W' : World => args_stay (W := W) (W' := W') (enc := enc) laid Tryz.f4.params.toList args.toList ds p (by kernel_rfl) hA
  rw [Tryz.params4] at hA hval
  obtain ⟨v0, vs0, d0, ds0, p0, q0, hargs, rfl, rfl, h0, r0⟩ := trodAll_cons hA
  obtain ⟨rfl, rfl, rfl⟩ := trodAll_nil r0
  obtain rfl : args = #[v0] := by cases args; simp_all
  obtain ⟨rfl, rfl⟩ := trodVars_none hV
  have hwt' : (DataW.weightsEach Tryz.prog [37] [d0]).all (· ≤ reachBytes) = true := hwt
  have wg : ∀ n ∈ d0.weights Tryz.prog 37, n ≤ reachBytes := fun n hn => by
    have := List.all_eq_true.1 hwt' n (DataW.weights_mem_each (show ([37] : List TypeId)[0]? = some 37 from rfl) (show [d0][0]? = some d0 from rfl) n hn)
    simpa using this
  clear hA0 hval0 hA r0
  simp only [List.append_nil] at hW' hfz hstay
  obtain ⟨pg, a1, a2, a3⟩ := prog_argW pz pt (hval 0 37 v0 rfl rfl) (by kernel_rfl) h0 (fun b off hb => hfz b off hb) wg
  obtain ⟨f1, f2, f3, f4⟩ := snap_facts2 W
  obtain ⟨N, hN⟩ : ∃ N, 131100 ≤ N := ⟨_, Nat.le_refl _⟩
  refine (snap_call2 (Ex.step_ok (xA_ok mixed27 aw_ok N) mixed27) (OptTells_c pg a3 N hN (snapM2 W) (by rw [f1, f2]; exact Nat.le_refl _) a2) #[v0]
    (.cons _ _ _ _ a1 .nil)).mono fun e W' ⟨he, hg⟩ => ?_
  subst he
  exact ⟨_, rfl, Dx.post_of_below (ds := [d0]) (gs := []) (pv := []) hW' (fun _ _ _ => (trodAll_cons_mk (shut_bool Tryz.underlying4 _) trodAll_mk0))
    (fun sp hsp => hstay W' (fun x hx => hg.same (hW'.lt x hx)) sp hsp) (fun _ _ => rfl) (by simp)
    hg (ok_one (by kernel_rfl) rfl (okWide_bool_mk Tryz.underlying4 _))⟩

theorem over : Rows.optTellsRow.holds Tryz.pinned (OpenSpec.ofChange Rows.optTellsSpec) :=
  OpenClaim.holds_of_wide 4 Tryz.f4 rfl rfl rfl rfl rfl rfl rfl ⟨rfl, rfl, rfl, rfl, rfl⟩ rfl rfl rfl rfl rfl named4 Tryz.func4 joined4
    inst4 wrap4
    (fun os started H enc _ => lifted os started H enc)

/-- ████ THE STATEMENT ████ -/
theorem proved : Rows.OptTellsSaid :=
  over
#print axioms proved
end Go.Proofs.YtbbpaaofmcoobaaGreat.optTells
