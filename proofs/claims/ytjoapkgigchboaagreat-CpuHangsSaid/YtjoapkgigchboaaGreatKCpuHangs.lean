/-
  'CpuHangs' returns true, whatever is handed in: by contracts of the functions it calls, over a verified evaluator, and a plain law. No conditions.
-/
import Derived.Test.YtjoapkgigchboaaGreatGz
import Derived.Test.YtjoapkgigchboaaGreatRows
import Derived.WalkKit
import Derived.ProofKit
import Derived.OpenShut
import Derived.SizedLaws
import Derived.KernelRfl
import Derived.Test.YtjoapkgigchboaaGreatPost
import Derived.Test.YtjoapkgigchboaaGreatGi
set_option linter.unusedVariables false
namespace Go.Proofs.YtjoapkgigchboaaGreat.cpuHangs
open Go.ChangeShapes Go.WideShapes Go.ChangeAt Go.RowKit Go.Dx Go.Sx

theorem bytes58 : Tryz.prog.bytesOf 58 = 4 := by kernel_rfl
theorem bytes31 : Tryz.prog.bytesOf 31 = 8 := by kernel_rfl
/-- what is handed in has room behind it -/
theorem len_room {H : Type} {P : Program} {ts : List TypeId} {ds : List (DataW H)} (h : (DataW.weightsEach P ts ds).all (· ≤ reachBytes) = true) {j : Nat} {t e : TypeId} {d : DataW H} {n : Nat} (ht : ts[j]? = some t) (hd : ds[j]? = some d) (hu : P.underlying t = some (.slice e)) (hl : LenOf d n) : n * P.bytesOf e + 4096 ≤ most := by
  have h2 : reachBytes + 4096 ≤ most := by decide
  rcases hl with rfl | ⟨el, sp, rfl, rfl⟩
  · rw [Nat.zero_mul]; omega
  · have := sized_slice h ht hd hu
    rw [Nat.add_mul] at this
    omega
theorem own : ownKnob Tryz.prog.godebug = none := by kernel_rfl
theorem laid : laidOutB Tryz.prog = true := by kernel_rfl
set_option maxRecDepth 100000 in
theorem lifted (os : Os) (started : os.Started) (H : Type) (enc : TypeId × Value → H) :
    ReturnsInHanded {} Tryz.checked os 5 .any (Rows.cpuHangsSpec.pre6 enc Tryz.prog Tryz.f5 Rows.cpuHangsRow.domain false) (Rows.cpuHangsSpec.post enc Tryz.prog Tryz.f5 false true false false) := by
  refine returnsInHanded_of_change_sized (C := Tryz.checked) own started (by kernel_rfl) Tryz.func5
    (ChangeSpec.witness6 (enc := enc) (C := Tryz.checked) false ⟨#[], #[.slice none 0 0, .slice none 0 0, .int .i64 0, .int .u64 0], []⟩ 8 (by kernel_rfl) (by kernel_rfl) (by kernel_rfl) (by kernel_rfl)) ?_
  intro W base args ds gs before hval0 hW hcnd hwt0 _
  have hval : ∀ (j : Nat) t v, Tryz.f5.params[j]? = some t → args[j]? = some v → Value.okWide Tryz.prog W .any base t v := hval0
  have hW' := hW
  obtain ⟨p, q, hA0, hV, rfl, hfz, hnd⟩ := hW
  have hA : DataW.TrodAll enc Tryz.prog W 0 (fun _ => true) true Tryz.f5.params.toList args.toList ds p := hA0
  have hstay := fun W' : World => args_stay (W := W) (W' := W') (enc := enc) laid Tryz.f5.params.toList args.toList ds p (by kernel_rfl) hA
  rw [Tryz.params5] at hA hval
  obtain ⟨v0, vs0, d0, ds0, p0, q0, hargs, rfl, rfl, h0, r0⟩ := trodAll_cons hA
  obtain ⟨v1, vs1, d1, ds1, p1, q1, rfl, rfl, rfl, h1, r1⟩ := trodAll_cons r0
  obtain ⟨v2, vs2, d2, ds2, p2, q2, rfl, rfl, rfl, h2, r2⟩ := trodAll_cons r1
  obtain ⟨v3, vs3, d3, ds3, p3, q3, rfl, rfl, rfl, h3, r3⟩ := trodAll_cons r2
  obtain ⟨rfl, rfl, rfl⟩ := trodAll_nil r3
  obtain rfl : args = #[v0, v1, v2, v3] := by cases args; simp_all
  obtain ⟨rfl, rfl⟩ := trodVars_none hV
  have hwt : (DataW.weightsEach Tryz.prog [22, 23, 3, 31] [d0, d1, d2, d3]).all (· ≤ reachBytes) = true := hwt0
  clear hA0 hval0 hA r0 r1 r2 r3
  simp only [List.append_nil] at hW' hfz hstay
  have z : ∀ {pl : List MemPlace}, (∀ x ∈ pl, x ∈ p0 ++ (p1 ++ (p2 ++ p3))) → W.noneFrozen pl := fun hs b off hb => hfz b off (hs _ hb)
  obtain ⟨wl, ws, a1, a2, -, a4, a5⟩ := u32_arg Tryz.underlying22 Tryz.underlying58 (by kernel_rfl) (hval 0 22 v0 rfl rfl) h0 (z fun x hx => by simp [hx])
  obtain ⟨rl, rs, b1, b2, b3, b4, b5⟩ := u64_arg Tryz.underlying23 Tryz.underlying31 (by kernel_rfl) (hval 1 23 v1 rfl rfl) h1 (z fun x hx => by simp [hx])
  obtain ⟨n2, rfl, rfl, rfl, -⟩ := open_int Tryz.underlying3 (hval 2 3 v2 rfl rfl) h2
  obtain ⟨n3, rfl, rfl, rfl, wf3⟩ := open_int Tryz.underlying31 (hval 3 31 v3 rfl rfl) h3
  have n3' : 0 ≤ n3 := by
    simp only [Lit.wf, Bool.and_eq_true, decide_eq_true_eq] at wf3
    exact wf3.1
  obtain ⟨y0, rfl⟩ := Int.eq_ofNat_of_zero_le n3'
  have rW := len_room hwt (j := 0) rfl rfl Tryz.underlying22 a4
  have rR := len_room hwt (j := 1) rfl rfl Tryz.underlying23 b4
  rw [bytes58] at rW
  rw [bytes31] at rR
  obtain ⟨f1, f2, f3, f4⟩ := snap_facts W
  refine (snap_call (Ex.step_ok (xA_ok mixed aw_ok (0 + 40)) mixed) (CpuHangs_c 0 (m := snapM W) (by rw [f1, f2]; exact Nat.le_refl _) a2 b2 b3 a5 b5 rW rR n2 y0) #[v0, v1, .int .i64 n2, .int .u64 y0]
    (.cons _ _ _ _ a1 (.cons _ _ _ _ b1 (.cons _ _ _ _ (.int _ _) (.cons _ _ _ _ (.int _ _) .nil))))).mono fun e W' ⟨he, hg⟩ => ?_
  subst he
  exact ⟨_, rfl, Dx.post_of_below (ds := [d0, d1, .lit (.int .i64 n2), .lit (.int .u64 y0)]) (gs := []) (pv := []) hW' (fun _ _ _ => (trodAll_cons_mk (shut_bool Tryz.underlying4 _) trodAll_mk0))
    (fun sp hsp => hstay W' (fun x hx => hg.same (hW'.lt x hx)) sp hsp) (fun _ _ => rfl) (by simp)
    hg (ok_one (by kernel_rfl) rfl (okWide_bool_mk Tryz.underlying4 _))⟩

theorem over : Rows.cpuHangsRow.holds Tryz.pinned (OpenSpec.ofChange Rows.cpuHangsSpec) :=
  OpenClaim.holds_of_wide 5 Tryz.f5 rfl rfl rfl rfl rfl rfl rfl ⟨rfl, rfl, rfl, rfl, rfl⟩ rfl rfl rfl rfl rfl (by kernel_rfl) Tryz.func5 (by kernel_rfl)
    (of_decide_eq_true (by kernel_rfl)) (by unfold Func.isWrapper; first | (rw [if_pos (by decide +kernel)]; kernel_rfl) | (rw [if_neg (by decide +kernel)]; exact ⟨rfl, rfl⟩))
    (fun os started H enc _ => lifted os started H enc)

/-- ████ THE STATEMENT ████ -/
theorem proved : Rows.CpuHangsSaid :=
  over
#print axioms proved
end Go.Proofs.YtjoapkgigchboaaGreat.cpuHangs
