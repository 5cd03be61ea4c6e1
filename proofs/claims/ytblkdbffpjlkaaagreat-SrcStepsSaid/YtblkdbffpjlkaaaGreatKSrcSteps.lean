/-
  'SrcSteps' returns true, whatever is handed in: by contracts of the functions it calls, over a verified evaluator, and a plain law. No conditions.
-/
import Derived.Test.YtblkdbffpjlkaaaGreatRows
import Derived.WalkKit
import Derived.ProofKit
import Derived.OpenShut
import Derived.SizedLaws
import Derived.KernelRfl
import Derived.Test.YtblkdbffpjlkaaaGreatPost
import Derived.Test.YtblkdbffpjlkaaaGreatGk
import Derived.Test.YtblkdbffpjlkaaaGreatGm
import Derived.Test.YtblkdbffpjlkaaaGreatGz
set_option linter.unusedVariables false
namespace Go.Proofs.YtblkdbffpjlkaaaGreat.srcSteps
open Go.ChangeShapes Go.WideShapes Go.ChangeAt Go.RowKit Go.Dx Go.Sx

theorem own : ownKnob Tryz.prog.godebug = none := by kernel_rfl
theorem laid : laidOutB Tryz.prog = true := by kernel_rfl
theorem pt : PT Tryz.prog 24 22 54 52 73 71 88 3 33 := ⟨⟨_, Tryz.underlying24, rfl⟩, by kernel_rfl, Tryz.underlying22, by kernel_rfl, ⟨_, Tryz.underlying54, rfl⟩, by kernel_rfl, Tryz.underlying52, by kernel_rfl, ⟨_, Tryz.underlying73, rfl⟩, by kernel_rfl, Tryz.underlying71, by kernel_rfl, ⟨_, Tryz.underlying88, rfl⟩, by kernel_rfl, Tryz.underlying3, by kernel_rfl, Tryz.underlying33, by kernel_rfl⟩
theorem pz : PZ Tryz.prog 54 73 88 := ⟨by kernel_rfl, by kernel_rfl, by kernel_rfl⟩
set_option maxRecDepth 100000 in
theorem lifted (os : Os) (started : os.Started) (H : Type) (enc : TypeId × Value → H) :
    ReturnsInHanded {} Tryz.checked os 4 .any (Rows.srcStepsSpec.pre6 enc Tryz.prog Tryz.f4 Rows.srcStepsRow.domain false) (Rows.srcStepsSpec.post enc Tryz.prog Tryz.f4 false true false false) := by
  refine returnsInHanded_of_change_sized (C := Tryz.checked) own started (by kernel_rfl) Tryz.func4
    (ChangeSpec.witness6 (enc := enc) (C := Tryz.checked) false ⟨#[], #[.agg #[.int .i64 0, .slice none 0 0], .int .i64 0, .slice none 0 0], []⟩ 8 (by kernel_rfl) (by kernel_rfl) (by kernel_rfl) (by kernel_rfl)) ?_
  intro W base args ds gs before hval0 hW hcnd hwt _
  have hval : ∀ (j : Nat) t v, Tryz.f4.params[j]? = some t → args[j]? = some v → Value.okWide Tryz.prog W .any base t v := hval0
  have hW' := hW
  obtain ⟨p, q, hA0, hV, rfl, hfz, hnd⟩ := hW
  have hA : DataW.TrodAll enc Tryz.prog W 0 (fun _ => true) true Tryz.f4.params.toList args.toList ds p := hA0
  have hstay := fun W' : World => args_stay (W := W) (W' := W') (enc := enc) laid Tryz.f4.params.toList args.toList ds p (by kernel_rfl) hA
  rw [Tryz.params4] at hA hval
  obtain ⟨v0, vs0, d0, ds0, p0, q0, hargs, rfl, rfl, h0, r0⟩ := trodAll_cons hA
  obtain ⟨v1, vs1, d1, ds1, p1, q1, rfl, rfl, rfl, h1, r1⟩ := trodAll_cons r0
  obtain ⟨v2, vs2, d2, ds2, p2, q2, rfl, rfl, rfl, h2, r2⟩ := trodAll_cons r1
  obtain ⟨rfl, rfl, rfl⟩ := trodAll_nil r2
  obtain rfl : args = #[v0, v1, v2] := by cases args; simp_all
  obtain ⟨rfl, rfl⟩ := trodVars_none hV
  have hwt' : (DataW.weightsEach Tryz.prog [24, 3, 25] [d0, d1, d2]).all (· ≤ reachBytes) = true := hwt
  have wg : ∀ (j : Nat) (t : TypeId) (d : DataW H), [24, 3, 25][j]? = some t → [d0, d1, d2][j]? = some d → ∀ n ∈ d.weights Tryz.prog t, n ≤ reachBytes := fun j t d ht hd n hn => by
    have := List.all_eq_true.1 hwt' n (DataW.weights_mem_each ht hd n hn)
    simpa using this
  clear hA0 hval0 hA r0 r1 r2
  simp only [List.append_nil] at hW' hfz hstay
  have z : ∀ {pl : List MemPlace}, (∀ x ∈ pl, x ∈ p0 ++ (p1 ++ p2)) → W.noneFrozen pl := fun hs b off hb => hfz b off (hs _ hb)
  obtain ⟨pg, a1, a2, a3⟩ := prog_argW pz pt (hval 0 24 v0 rfl rfl) (by kernel_rfl) h0 (z fun x hx => List.mem_append_left _ hx) (wg 0 24 d0 rfl rfl)
  obtain ⟨th, rfl, rfl, rfl, -⟩ := open_int Tryz.underlying3 (hval 1 3 v1 rfl rfl) h1
  obtain ⟨rl, reads, b1, b2, b3, b4⟩ := words_arg Tryz.underlying25 Tryz.underlying33 (by kernel_rfl) (hval 2 25 v2 rfl rfl) h2 (z fun x hx => by simp [hx])
  obtain ⟨f1, f2, f3, f4⟩ := snap_facts2 W
  obtain ⟨N, hN⟩ : ∃ N : Nat, N = 65550 := ⟨_, rfl⟩
  refine (snap_call2 (Ex.step_ok (xA_ok mixed13 aw_ok (N + 65543)) mixed13) (SrcSteps_c pg th rl reads b3 a3 N (snapM2 W) (by rw [f1, f2]; exact Nat.le_refl _) a2 b2) #[v0, .int .i64 th, v2]
    (.cons _ _ _ _ a1 (.cons _ _ _ _ (.int _ _) (.cons _ _ _ _ b1 .nil)))).mono fun e W' ⟨he, hg⟩ => ?_
  subst he
  exact ⟨_, rfl, Dx.post_of_below (ds := [d0, .lit (.int .i64 th), d2]) (gs := []) (pv := []) hW' (fun _ _ _ => (trodAll_cons_mk (shut_bool Tryz.underlying4 _) trodAll_mk0))
    (fun sp hsp => hstay W' (fun x hx => hg.same (hW'.lt x hx)) sp hsp) (fun _ _ => rfl) (by simp)
    hg (ok_one (by kernel_rfl) rfl (okWide_bool_mk Tryz.underlying4 _))⟩

theorem over : Rows.srcStepsRow.holds Tryz.pinned (OpenSpec.ofChange Rows.srcStepsSpec) :=
  OpenClaim.holds_of_wide 4 Tryz.f4 rfl rfl rfl rfl rfl rfl rfl ⟨rfl, rfl, rfl, rfl, rfl⟩ rfl rfl rfl rfl rfl (by kernel_rfl) Tryz.func4 (by kernel_rfl)
    (of_decide_eq_true (by kernel_rfl)) (by unfold Func.isWrapper; first | (rw [if_pos (by decide +kernel)]; kernel_rfl) | (rw [if_neg (by decide +kernel)]; exact ⟨rfl, rfl⟩))
    (fun os started H enc _ => lifted os started H enc)

/-- ████ THE STATEMENT ████ -/
theorem proved : Rows.SrcStepsSaid :=
  over
#print axioms proved
end Go.Proofs.YtblkdbffpjlkaaaGreat.srcSteps
