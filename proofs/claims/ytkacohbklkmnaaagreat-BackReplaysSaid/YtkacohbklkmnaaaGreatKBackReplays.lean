/-
  'BackReplays' returns true, whatever is handed in: by contracts of the functions it calls, over a verified evaluator, and a plain law. No conditions.
-/
import Derived.Test.YtkacohbklkmnaaaGreatPc
import Derived.Test.YtkacohbklkmnaaaGreatHr
import Derived.Test.YtkacohbklkmnaaaGreatRows
import Derived.WalkKit
import Derived.ProofKit
import Derived.OpenShut
import Derived.SizedLaws
import Derived.KernelRfl
import Derived.Test.YtkacohbklkmnaaaGreatPost
import Derived.Test.YtkacohbklkmnaaaGreatGo
import Derived.Test.YtkacohbklkmnaaaGreatGp
set_option linter.unusedVariables false
namespace Go.Proofs.YtkacohbklkmnaaaGreat.backReplays
open Go.ChangeShapes Go.WideShapes Go.ChangeAt Go.RowKit Go.Dx Go.Sx

theorem own : ownKnob Tryz.prog.godebug = none := by kernel_rfl
theorem laid : laidOutB Tryz.prog = true := by kernel_rfl
theorem pt : PT Tryz.prog 25 23 86 84 89 87 149 3 39 := ⟨⟨_, Tryz.underlying25, rfl⟩, by kernel_rfl, Tryz.underlying23, by kernel_rfl, ⟨_, Tryz.underlying86, rfl⟩, by kernel_rfl, Tryz.underlying84, by kernel_rfl, ⟨_, Tryz.underlying89, rfl⟩, by kernel_rfl, Tryz.underlying87, by kernel_rfl, ⟨_, Tryz.underlying149, rfl⟩, by kernel_rfl, Tryz.underlying3, by kernel_rfl, Tryz.underlying39, by kernel_rfl⟩
theorem pz : PZ Tryz.prog 86 89 149 := ⟨by kernel_rfl, by kernel_rfl, by kernel_rfl⟩
theorem gt : GT Tryz.prog 31 27 41 28 43 29 34 3 39 := ⟨⟨_, Tryz.underlying31, rfl⟩, by kernel_rfl, Tryz.underlying27, by kernel_rfl, ⟨_, Tryz.underlying41, rfl⟩, by kernel_rfl, Tryz.underlying28, by kernel_rfl, ⟨_, Tryz.underlying43, rfl⟩, by kernel_rfl, Tryz.underlying29, by kernel_rfl, Tryz.underlying34, by kernel_rfl, Tryz.underlying3, by kernel_rfl, Tryz.underlying39, by kernel_rfl, by kernel_rfl, by kernel_rfl, by kernel_rfl, by kernel_rfl, by kernel_rfl⟩
theorem res4 : Tryz.f4.resultTypes = #[4] := by kernel_rfl
theorem called {W : World} {v0 v1 : Value} {pg : Pg} {gh : Gh} {gp : Gp} (a1 : VRel (km W) (pgV pg) v0) (a2 : PgOK (snapM2 W) pg) (a3 : PgSz pg) (b1 : VRel (km W) (.agg ⟨ghL gh⟩) v1) (b2 : GOK (snapM2 W) gh gp) (b3 : GCp gp) (b4 : GLe gp 4611686018427387904) :
    Calls Tryz.prog 4 #[v0, v1] W fun e w' => e = .returned (.bool true) ∧ Below W.heap.size W w' := by
  obtain ⟨f1, f2, f3, f4⟩ := snap_facts2 W
  obtain ⟨N, hN⟩ : ∃ N : Nat, N = 65550 := ⟨_, rfl⟩
  exact snap_call2 (Ex.step_ok (xA_ok mixed aw_ok (N + 65545)) mixed) (BackReplays_c pg a3 b3 b4 N (snapM2 W) (by rw [f1, f2]; exact Nat.le_refl _) a2 b2) #[v0, v1] (.cons _ _ _ _ a1 (.cons _ _ _ _ b1 .nil))
set_option maxRecDepth 100000 in
theorem lifted (os : Os) (started : os.Started) (H : Type) (enc : TypeId × Value → H) :
    ReturnsInHanded {} Tryz.checked os 4 .any (Rows.backReplaysSpec.pre6 enc Tryz.prog Tryz.f4 Rows.backReplaysRow.domain false) (Rows.backReplaysSpec.post enc Tryz.prog Tryz.f4 false true false false) := by
  refine returnsInHanded_of_change_sized (C := Tryz.checked) own started (by kernel_rfl) Tryz.func4
    (ChangeSpec.witness6 (enc := enc) (C := Tryz.checked) false ⟨#[], #[.agg #[.int .i64 0, .slice none 0 0], .agg #[.int .i64 0, .slice none 0 0, .slice none 0 0, .slice none 0 0, .slice none 0 0, .slice none 0 0, .slice none 0 0, .slice none 0 0]], []⟩ 8 (by kernel_rfl) (by kernel_rfl) (by kernel_rfl) (by kernel_rfl)) ?_
  intro W base args ds gs before hval0 hW hcnd hwt _
  have hval : ∀ (j : Nat) t v, Tryz.f4.params[j]? = some t → args[j]? = some v → Value.okWide Tryz.prog W .any base t v := hval0
  have hW' := hW
  obtain ⟨p, q, hA0, hV, rfl, hfz, hnd⟩ := hW
  have hA : DataW.TrodAll enc Tryz.prog W 0 (fun _ => true) true Tryz.f4.params.toList args.toList ds p := hA0
  have hstay := fun W' : World => args_stay (W := W) (W' := W') (enc := enc) laid Tryz.f4.params.toList args.toList ds p (by kernel_rfl) hA
  rw [Tryz.params4] at hA hval
  obtain ⟨v0, vs0, d0, ds0, p0, q0, hargs, rfl, rfl, h0, r0⟩ := trodAll_cons hA
  obtain ⟨v1, vs1, d1, ds1, p1, q1, rfl, rfl, rfl, h1, r1⟩ := trodAll_cons r0
  obtain ⟨rfl, rfl, rfl⟩ := trodAll_nil r1
  obtain rfl : args = #[v0, v1] := by cases args; simp_all
  obtain ⟨rfl, rfl⟩ := trodVars_none hV
  have hwt' : (DataW.weightsEach Tryz.prog [25, 31] [d0, d1]).all (· ≤ reachBytes) = true := hwt
  have wg : ∀ (j : Nat) (t : TypeId) (d : DataW H), [25, 31][j]? = some t → [d0, d1][j]? = some d → ∀ n ∈ d.weights Tryz.prog t, n ≤ reachBytes := fun j t d ht hd n hn => by
    have := List.all_eq_true.1 hwt' n (DataW.weights_mem_each ht hd n hn)
    simpa using this
  clear hA0 hval0 hA r0 r1
  simp only [List.append_nil] at hW' hfz hstay
  have z : ∀ {pl : List MemPlace}, (∀ x ∈ pl, x ∈ p0 ++ p1) → W.noneFrozen pl := fun hs b off hb => hfz b off (hs _ hb)
  obtain ⟨pg, a1, a2, a3⟩ := prog_argW pz pt (hval 0 25 v0 rfl rfl) (by kernel_rfl) h0 (z fun x hx => List.mem_append_left _ hx) (wg 0 25 d0 rfl rfl)
  obtain ⟨gh, gp, b1, b2, b3, b4⟩ := graph_argW gt (hval 1 31 v1 rfl rfl) h1 (z fun x hx => List.mem_append_right _ hx) (wg 1 31 d1 rfl rfl)
  refine (called a1 a2 a3 b1 b2 b3 b4).mono fun e W' ⟨he, hg⟩ => ?_
  subst he
  exact ⟨_, rfl, Dx.post_of_below (ds := [d0, d1]) (gs := []) (pv := []) hW' (fun _ _ _ => (trodAll_cons_mk (shut_bool Tryz.underlying4 _) trodAll_mk0))
    (fun sp hsp => hstay W' (fun x hx => hg.same (hW'.lt x hx)) sp hsp) (fun _ _ => rfl) (by simp)
    hg (ok_one res4 rfl (okWide_bool_mk Tryz.underlying4 _))⟩

theorem over : Rows.backReplaysRow.holds Tryz.pinned (OpenSpec.ofChange Rows.backReplaysSpec) :=
  OpenClaim.holds_of_wide 4 Tryz.f4 rfl rfl rfl rfl rfl rfl rfl ⟨rfl, rfl, rfl, rfl, rfl⟩ rfl rfl rfl rfl rfl named4 Tryz.func4 joined4 inst4 wrap4
    (fun os started H enc _ => lifted os started H enc)

/-- ████ THE STATEMENT ████ -/
theorem proved : Rows.BackReplaysSaid :=
  over
#print axioms proved
end Go.Proofs.YtkacohbklkmnaaaGreat.backReplays
