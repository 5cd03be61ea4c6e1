/-
  'SrcMore' returns true, whatever is handed in: by contracts of the functions it calls, over a verified evaluator, and a plain law. Condition (the Upto form): what is handed in is of bulk at most 1048576.
-/
import Derived.Test.YtblkdbffpjlkaaaRows
import Derived.WalkKit
import Derived.ProofKit
import Derived.OpenShut
import Derived.JoinedCond
import Derived.KernelRfl
import Derived.Test.YtblkdbffpjlkaaaPost
import Derived.Test.YtblkdbffpjlkaaaGh
import Derived.Test.YtblkdbffpjlkaaaGg
import Derived.Test.YtblkdbffpjlkaaaGz
set_option linter.unusedVariables false
namespace Go.Proofs.Ytblkdbffpjlkaaa.srcMore
open Go.ChangeShapes Go.WideShapes Go.ChangeAt Go.RowKit Go.Dx Go.Sx

theorem own : ownKnob Try.prog.godebug = none := by kernel_rfl
theorem laid : laidOutB Try.prog = true := by kernel_rfl
theorem pt : PT Try.prog 33 31 58 56 62 38 55 3 35 := ⟨⟨_, Try.underlying33, rfl⟩, by kernel_rfl, Try.underlying31, by kernel_rfl, ⟨_, Try.underlying58, rfl⟩, by kernel_rfl, Try.underlying56, by kernel_rfl, ⟨_, Try.underlying62, rfl⟩, by kernel_rfl, Try.underlying38, by kernel_rfl, ⟨_, Try.underlying55, rfl⟩, by kernel_rfl, Try.underlying3, by kernel_rfl, Try.underlying35, by kernel_rfl⟩
theorem one_le {H : Type} (d : DataW H) : 1 ≤ Rows.uptoBulk d := by
  cases d with
  | lit l => cases l <;> simp [Rows.uptoBulk]
  | _ => simp [Rows.uptoBulk]
theorem length_le {H : Type} (l : List (DataW H)) : l.length ≤ Rows.uptoBulkAll l := by
  induction l with
  | nil => simp [Rows.uptoBulkAll]
  | cons x r ih => have := one_le x; simp only [Rows.uptoBulkAll, List.length_cons]; omega
theorem slice_le {H : Type} (elems spare : List (DataW H)) : elems.length ≤ Rows.uptoBulk (.slice elems spare) := by
  have h1 := length_le elems
  simp only [Rows.uptoBulk]
  omega
set_option maxRecDepth 100000 in
theorem lifted (os : Os) (started : os.Started) (H : Type) (enc : TypeId × Value → H) (F : Stop.Interp) :
    ReturnsInHanded {} Try.checked os 5 .any ((Rows.OpenSpec.upto Rows.srcMoreSpec).pre6 enc Try.prog Try.f5 Rows.srcMoreUptoRow.domain false) (((Rows.OpenSpec.upto Rows.srcMoreSpec).at F).post enc Try.prog Try.f5 false true false false) := by
  refine returnsInHanded_of_cond (C := Try.checked) (s := Rows.OpenSpec.upto Rows.srcMoreSpec) (k := Rows.uptoSmall) rfl own started (by kernel_rfl) Try.func5
    (OpenSpec.witness (enc := enc) (C := Try.checked) (s := Rows.OpenSpec.upto Rows.srcMoreSpec) (k := Rows.uptoSmall) rfl false ⟨#[], #[.agg #[.int .i64 0, .slice none 0 0], .int .i64 0, .slice none 0 0, .slice none 0 0, .int .i64 0], []⟩ 8 (by kernel_rfl) (by kernel_rfl) (by kernel_rfl)
      (x := ([.agg [.lit (.int .i64 0), .nil], .lit (.int .i64 0), .nil, .nil, .lit (.int .i64 0)], [], [])) (by kernel_rfl) rfl (by kernel_rfl)) ?_
  intro W base args ds gs before hval0 hW _ hk _
  have hval : ∀ (j : Nat) t v, Try.f5.params[j]? = some t → args[j]? = some v → Value.okWide Try.prog W .any base t v := hval0
  have hW' := hW
  obtain ⟨p, q, hA0, hV, rfl, hfz, hnd⟩ := hW
  have hA : DataW.TrodAll enc Try.prog W 0 (fun _ => true) true Try.f5.params.toList args.toList ds p := hA0
  have hstay := fun W' : World => args_stay (W := W) (W' := W') (enc := enc) laid Try.f5.params.toList args.toList ds p (by kernel_rfl) hA
  rw [Try.params5] at hA hval
  obtain ⟨v0, vs0, d0, ds0, p0, q0, hargs, rfl, rfl, h0, r0⟩ := trodAll_cons hA
  obtain ⟨v1, vs1, d1, ds1, p1, q1, rfl, rfl, rfl, h1, r1⟩ := trodAll_cons r0
  obtain ⟨v2, vs2, d2, ds2, p2, q2, rfl, rfl, rfl, h2, r2⟩ := trodAll_cons r1
  obtain ⟨v3, vs3, d3, ds3, p3, q3, rfl, rfl, rfl, h3, r3⟩ := trodAll_cons r2
  obtain ⟨v4, vs4, d4, ds4, p4, q4, rfl, rfl, rfl, h4, r4⟩ := trodAll_cons r3
  obtain ⟨rfl, rfl, rfl⟩ := trodAll_nil r4
  obtain rfl : args = #[v0, v1, v2, v3, v4] := by cases args; simp_all
  obtain ⟨rfl, rfl⟩ := trodVars_none hV
  have hb : Rows.uptoBulkAll [d0, d1, d2, d3, d4] ≤ 1048576 := of_decide_eq_true hk
  simp only [Rows.uptoBulkAll] at hb
  clear hA0 hval0 hA r0 r1 r2 r3 r4
  simp only [List.append_nil] at hW' hfz hstay
  have z : ∀ {pl : List MemPlace}, (∀ x ∈ pl, x ∈ p0 ++ (p1 ++ (p2 ++ (p3 ++ p4)))) → W.noneFrozen pl := fun hs b off hb => hfz b off (hs _ hb)
  obtain ⟨pg, a1, a2⟩ := prog_arg pt (hval 0 33 v0 rfl rfl) (by kernel_rfl) h0 (z fun x hx => List.mem_append_left _ hx)
  obtain ⟨th, rfl, rfl, rfl, -⟩ := open_int Try.underlying3 (hval 1 3 v1 rfl rfl) h1
  obtain ⟨rl, reads, b1, b2, -, b4⟩ := words_arg Try.underlying25 Try.underlying35 (by kernel_rfl) (hval 2 25 v2 rfl rfl) h2 (z fun x hx => by simp [hx])
  obtain ⟨ml, more, c1, c2, -, c4⟩ := words_arg Try.underlying25 Try.underlying35 (by kernel_rfl) (hval 3 25 v3 rfl rfl) h3 (z fun x hx => by simp [hx])
  obtain ⟨fuel, rfl, rfl, rfl, -⟩ := open_int Try.underlying3 (hval 4 3 v4 rfl rfl) h4
  have hsz : reads.length + more.length ≤ 4194304 := by
    have l1 : reads.length ≤ Rows.uptoBulk d2 := by
      rcases b4 with rfl | ⟨el, sp, rfl, e2⟩
      · simp
      · have := slice_le el sp; omega
    have l2 : more.length ≤ Rows.uptoBulk d3 := by
      rcases c4 with rfl | ⟨el, sp, rfl, e2⟩
      · simp
      · have := slice_le el sp; omega
    omega
  obtain ⟨f1, f2, f3, f4⟩ := snap_facts2 W
  obtain ⟨N, hN⟩ : ∃ N : Nat, N = 65550 := ⟨_, rfl⟩
  refine (snap_call2 (Ex.step_ok (xA_ok mixed13 aw_ok (N + 7)) mixed13) (SrcMore_c pg th fuel rl ml reads more hsz N (snapM2 W) (by rw [f1, f2]; exact Nat.le_refl _) a2 b2 c2) #[v0, .int .i64 th, v2, v3, .int .i64 fuel]
    (.cons _ _ _ _ a1 (.cons _ _ _ _ (.int _ _) (.cons _ _ _ _ b1 (.cons _ _ _ _ c1 (.cons _ _ _ _ (.int _ _) .nil)))))).mono fun e W' ⟨he, hg⟩ => ?_
  subst he
  exact ⟨_, rfl, Dx.post_of_below (ds := [d0, .lit (.int .i64 th), d2, d3, .lit (.int .i64 fuel)]) (gs := []) (pv := []) hW' (fun _ _ _ => (trodAll_cons_mk (shut_bool Try.underlying4 _) trodAll_mk0))
    (fun sp hsp => hstay W' (fun x hx => hg.same (hW'.lt x hx)) sp hsp) (fun _ _ => rfl) (by simp)
    hg (ok_one (by kernel_rfl) rfl (okWide_bool_mk Try.underlying4 _))⟩

/-- ████ THE STATEMENT ████ -/
theorem proved : Rows.SrcMoreUptoSaid :=
  OpenClaim.holds_of_cond 5 Try.f5 rfl rfl rfl rfl rfl rfl rfl ⟨rfl, rfl, rfl, rfl, rfl⟩ rfl rfl rfl rfl rfl (by kernel_rfl) Try.func5 (by kernel_rfl)
    (of_decide_eq_true (by kernel_rfl)) (by unfold Func.isWrapper; first | (rw [if_pos (by decide +kernel)]; kernel_rfl) | (rw [if_neg (by decide +kernel)]; exact ⟨rfl, rfl⟩))
    (fun os started H enc _ F => lifted os started H enc F)
#print axioms proved
end Go.Proofs.Ytblkdbffpjlkaaa.srcMore
