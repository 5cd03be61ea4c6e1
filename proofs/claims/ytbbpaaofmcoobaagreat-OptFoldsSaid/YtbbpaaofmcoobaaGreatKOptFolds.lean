/-
  'OptFolds' returns true, whatever is handed in: by contracts of the functions it calls, over a verified evaluator, and a plain law. No conditions.
-/
import Derived.Test.YtbbpaaofmcoobaaGreatRows
import Derived.WalkKit
import Derived.ProofKit
import Derived.OpenShut
import Derived.SizedLaws
import Derived.Lib.SmallJoins
import Derived.KernelRfl
import Derived.Test.YtbbpaaofmcoobaaGreatPost
import Derived.Test.YtbbpaaofmcoobaaGreatGa
import Derived.Test.YtbbpaaofmcoobaaGreatGf
import Derived.Test.YtbbpaaofmcoobaaGreatGy
import Derived.Test.YtbbpaaofmcoobaaGreatGz
set_option linter.unusedVariables false
namespace Go.Proofs.YtbbpaaofmcoobaaGreat.optFolds
open Go.ChangeShapes Go.WideShapes Go.ChangeAt Go.RowKit Go.Dx Go.Sx

theorem own : ownKnob Tryz.prog.godebug = none := by kernel_rfl
theorem cells31 : Tryz.prog.cellsOf 31 = 4 := by kernel_rfl
theorem cells29 : Tryz.prog.cellsOf 29 = 1 := by kernel_rfl
theorem cells3' : Tryz.prog.cellsOf 3 = 1 := by kernel_rfl
theorem bytes31 : Tryz.prog.bytesOf 31 = 32 := by kernel_rfl
theorem bytes29 : Tryz.prog.bytesOf 29 = 8 := by kernel_rfl
theorem laid : laidOutB Tryz.prog = true := by kernel_rfl
instance : Inhabited U := ⟨⟨0, by omega⟩⟩
instance : Inhabited Nd := ⟨⟨0, default, 0, 0⟩⟩
section
variable {H : Type} {enc : TypeId × Value → H} {w : World}
theorem u_of {n : Int} (h : (Lit.int .u64 n).wf = true) : ∃ u : U, n = (u.1 : Int) := by
  simp only [Lit.wf, Bool.and_eq_true, decide_eq_true_eq] at h
  have h1 : (0 : Int) ≤ n := h.1
  have h2 : n ≤ 18446744073709551615 := h.2
  exact ⟨⟨n.toNat, by omega⟩, by show n = (n.toNat : Int); omega⟩
set_option maxRecDepth 100000 in
theorem node_row (n : Nat) (cs : List Value) (y : DataW H × List MemPlace) (h : DataW.trod enc Tryz.prog w 0 (fun _ => true) true n 31 cs = some y) : ∃ x : Nd, cs = nodeRow x := by
  obtain ⟨y0, y1, y2, y3, k, _, hl, h0, h1, h2, h3⟩ := Joins.trod_struct4 Tryz.underlying31 h
  rw [cells31] at hl
  match cs, hl with
  | [c0, c1, c2, c3], _ =>
    obtain ⟨a, e0, _⟩ := DataW.trod_int Tryz.underlying3 h0
    obtain ⟨b, e1, _, wb⟩ := DataW.trod_int Tryz.underlying29 h1
    obtain ⟨c, e2, _⟩ := DataW.trod_int Tryz.underlying3 h2
    obtain ⟨d, e3, _⟩ := DataW.trod_int Tryz.underlying3 h3
    rw [cells3'] at e0 e2 e3
    rw [cells29] at e1
    obtain ⟨u, rfl⟩ := u_of wb
    simp at e0 e1 e2 e3
    exact ⟨⟨a, u, c, d⟩, by rw [e0, e1, e2, e3]; rfl⟩
set_option maxRecDepth 100000 in
theorem word_row (n : Nat) (cs : List Value) (y : DataW H × List MemPlace) (h : DataW.trod enc Tryz.prog w 0 (fun _ => true) true n 29 cs = some y) : ∃ x : U, cs = wordRow x := by
  obtain ⟨b, e1, _, wb⟩ := DataW.trod_int Tryz.underlying29 h
  obtain ⟨u, rfl⟩ := u_of wb
  exact ⟨u, e1⟩
end
set_option maxRecDepth 100000 in
theorem lifted (os : Os) (started : os.Started) (H : Type) (enc : TypeId × Value → H) :
    ReturnsInHanded {} Tryz.checked os 3 .any (Rows.optFoldsSpec.pre6 enc Tryz.prog Tryz.f3 Rows.optFoldsRow.domain false) (Rows.optFoldsSpec.post enc Tryz.prog Tryz.f3 false true false false) := by
  refine returnsInHanded_of_change_sized (C := Tryz.checked) own started (by kernel_rfl) Tryz.func3
    (ChangeSpec.witness6 (enc := enc) (C := Tryz.checked) false ⟨#[], #[.slice none 0 0, .slice none 0 0], []⟩ 8 (by kernel_rfl) (by kernel_rfl) (by kernel_rfl) (by kernel_rfl)) ?_
  intro W base args ds gs before hval0 hW hcnd hwt _
  have hval : ∀ (j : Nat) t v, Tryz.f3.params[j]? = some t → args[j]? = some v → Value.okWide Tryz.prog W .any base t v := hval0
  have hW' := hW
  obtain ⟨p, q, hA0, hV, rfl, hfz, hnd⟩ := hW
  have hA : DataW.TrodAll enc Tryz.prog W 0 (fun _ => true) true Tryz.f3.params.toList args.toList ds p := hA0
  rw [Tryz.params3] at hA hval
  obtain ⟨v, v', d, d', p1, p2, rfl, rfl, rfl, hd, hd'⟩ := trodAll_two hA
  obtain ⟨rfl, rfl⟩ := trodVars_none hV
  clear hA0 hval0
  simp only [List.append_nil] at hW' hfz
  have hwt' : (DataW.weightsEach Tryz.prog [22, 23] [d, d']).all (· ≤ reachBytes) = true := hwt
  have hv := hval 0 22 v rfl rfl
  have hv' := hval 1 23 v' rfl rfl
  obtain ⟨a0, n0, c0, rfl⟩ := okWide_slice Tryz.underlying22 hv
  obtain ⟨a1, n1, c1, rfl⟩ := okWide_slice Tryz.underlying23 hv'
  have k0 : Cell.okWide Tryz.prog W .any base 22 (.slice a0 n0 c0) := by have := hv; simp only [Value.okWide, Tryz.underlying22] at this; exact this
  have k1 : Cell.okWide Tryz.prog W .any base 23 (.slice a1 n1 c1) := by have := hv'; simp only [Value.okWide, Tryz.underlying23] at this; exact this
  obtain ⟨g0, hg0⟩ := hd
  obtain ⟨g1, hg1⟩ := hd'
  obtain ⟨ed, es, r1, r2, r3, -⟩ := arg_slice (α := Nd) (e := 31) (sz := 4) (f := nodeRow) Tryz.underlying22 cells31 (by omega) node_row (fun x => ⟨rfl, fun v hv => by simp [nodeRow] at hv; rcases hv with rfl | rfl | rfl | rfl <;> exact ⟨_, _, rfl⟩⟩) hg0
    (fun a l c e => by rw [e] at k0; exact slice_lies Tryz.underlying22 k0) (fun b off hb => hfz b off (List.mem_append_left _ hb))
  obtain ⟨md, ms, q1, q2, q3, -⟩ := arg_slice (α := U) (e := 29) (sz := 1) (f := wordRow) Tryz.underlying23 cells29 (by omega) word_row (fun x => ⟨rfl, fun v hv => by simp [wordRow] at hv; subst hv; exact ⟨_, _, rfl⟩⟩) hg1
    (fun a l c e => by rw [e] at k1; exact slice_lies Tryz.underlying23 k1) (fun b off hb => hfz b off (List.mem_append_right _ hb))
  have hel : es.length * 32 ≤ Dx.most := by
    rcases r3 with rfl | ⟨el, sp, e1, e2⟩
    · simp
    · simp only at e1
      have w0 : ∀ n ∈ d.weights Tryz.prog 22, n ≤ reachBytes := fun n hn => by
        have := List.all_eq_true.1 hwt' n (List.mem_append_left _ hn)
        simpa using this
      rw [e1] at w0
      have := weigh_slice Tryz.underlying22 w0
      rw [e2, bytes31] at this
      exact this
  have hll : ms.length * 8 ≤ Dx.most := by
    rcases q3 with rfl | ⟨el, sp, e1, e2⟩
    · simp
    · simp only at e1
      have w0 : ∀ n ∈ d'.weights Tryz.prog 23, n ≤ reachBytes := fun n hn => by
        have := List.all_eq_true.1 hwt' n (List.mem_append_right _ (List.mem_append_left _ hn))
        simpa using this
      rw [e1] at w0
      have := weigh_slice Tryz.underlying23 w0
      rw [e2, bytes29] at this
      exact this
  obtain ⟨f1, f2, f3, f4⟩ := snap_facts W
  obtain ⟨N, hN⟩ : ∃ N, 131100 ≤ N := ⟨_, Nat.le_refl _⟩
  refine (snap_call (Ex.step_ok (xA_ok mixed27 aw_ok N) mixed27) (OptFolds_c es ms ed md hel hll N hN (snapM W) (by rw [f1, f2]; exact Nat.le_refl _) r2 q2) #[.slice a0 n0 c0, .slice a1 n1 c1] (.cons _ _ _ _ r1 (.cons _ _ _ _ q1 .nil))).mono fun e W' ⟨he, hg⟩ => ?_
  subst he
  have hlt : ∀ x ∈ p1 ++ p2, x.block < W.heap.size := fun x hx => hW'.lt x hx
  have hd : DataW.Trod enc Tryz.prog W 0 (fun _ => true) true 22 (.slice a0 n0 c0) d p1 := ⟨g0, hg0⟩
  have hd' : DataW.Trod enc Tryz.prog W 0 (fun _ => true) true 23 (.slice a1 n1 c1) d' p2 := ⟨g1, hg1⟩
  exact ⟨_, rfl, Dx.post_of_below (ds := [d, d']) (gs := []) (before := p1 ++ p2) (pa := p1 ++ p2) (pv := []) hW' (fun _ _ _ => (trodAll_cons_mk (shut_bool Tryz.underlying4 _) trodAll_mk0))
    (fun sp hsp => trodAll_mk2 (WideElems.Trod_stays laid (by kernel_rfl) (of_decide_eq_true (by kernel_rfl)) hd (fun x hx => hg.same (hlt x (List.mem_append_left _ hx))) (fun x hx => hsp x (List.mem_append_left _ hx)))
      (WideElems.Trod_stays laid (by kernel_rfl) (of_decide_eq_true (by kernel_rfl)) hd' (fun x hx => hg.same (hlt x (List.mem_append_right _ hx))) (fun x hx => hsp x (List.mem_append_right _ hx)))) (fun _ _ => rfl) (by simp)
    hg (ok_one (by kernel_rfl) rfl (okWide_bool_mk Tryz.underlying4 _))⟩

theorem over : Rows.optFoldsRow.holds Tryz.pinned (OpenSpec.ofChange Rows.optFoldsSpec) :=
  OpenClaim.holds_of_wide 3 Tryz.f3 rfl rfl rfl rfl rfl rfl rfl ⟨rfl, rfl, rfl, rfl, rfl⟩ rfl rfl rfl rfl rfl named3 Tryz.func3 joined3
    inst3 wrap3
    (fun os started H enc _ => lifted os started H enc)

/-- ████ THE STATEMENT ████ -/
theorem proved : Rows.OptFoldsSaid :=
  over
#print axioms proved
end Go.Proofs.YtbbpaaofmcoobaaGreat.optFolds
