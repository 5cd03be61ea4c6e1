/-
  'WeaveNever' returns true, whatever is handed in: by contracts of the functions it calls, over a verified evaluator, and a plain law. Condition (the Upto form): what is handed in is of bulk at most 1048576.
-/
import Derived.Test.YtifpodmojagpiaaGreatGj
import Derived.Test.YtifpodmojagpiaaGreatRows
import Derived.WalkKit
import Derived.ProofKit
import Derived.OpenShut
import Derived.SizedLaws
import Derived.Lib.SmallJoins
import Derived.KernelRfl
import Derived.Test.YtifpodmojagpiaaGreatPost
import Derived.Test.YtifpodmojagpiaaGreatGa
set_option linter.unusedVariables false
namespace Go.Proofs.YtifpodmojagpiaaGreat.weaveNever
open Go.ChangeShapes Go.WideShapes Go.ChangeAt Go.RowKit Go.Dx Go.Sx

theorem one_le {H : Type} (d : DataW H) : 1 ≤ Rows.uptoBulk d := by
  cases d with
  | lit l => cases l <;> simp [Rows.uptoBulk]
  | _ => simp [Rows.uptoBulk]
theorem length_le {H : Type} (l : List (DataW H)) : l.length ≤ Rows.uptoBulkAll l := by
  induction l with
  | nil => simp [Rows.uptoBulkAll]
  | cons x r ih => have := one_le x; simp only [Rows.uptoBulkAll, List.length_cons]; omega
theorem slice_le {H : Type} (elems spare : List (DataW H)) : elems.length ≤ Rows.uptoBulk (.slice elems spare) := by
  have h1 := length_le elems
  simp only [Rows.uptoBulk]
  omega
theorem own : ownKnob Tryz.prog.godebug = none := by kernel_rfl
theorem cells25 : Tryz.prog.cellsOf 25 = 2 := by kernel_rfl
theorem cellsE : Tryz.prog.cellsOf 75 = 2 := by kernel_rfl
theorem cells3 : Tryz.prog.cellsOf 3 = 1 := by kernel_rfl
theorem types25 : Tryz.prog.cellTypes Tryz.prog.depth 25 = some [22, 23] := by kernel_rfl
theorem laid : laidOutB Tryz.prog = true := by kernel_rfl
theorem mixed : Tryz.prog.follows .mixedOrders = true := by kernel_rfl
theorem aw_ok : PreOK Tryz.prog aw := ⟨by kernel_rfl, 3000, by kernel_rfl⟩
section
variable {H : Type} {enc : TypeId × Value → H} {w : World}
set_option maxRecDepth 100000 in
theorem edge_row (n : Nat) (cs : List Value) (y : DataW H × List MemPlace) (h : DataW.trod enc Tryz.prog w 0 (fun _ => true) true n 75 cs = some y) : ∃ x : Int × Int, cs = edgeRow x := by
  obtain ⟨y0, y1, k, _, hl, h0, h1⟩ := trod_struct2 Tryz.underlying75 h
  rw [cellsE] at hl
  match cs, hl with
  | [c0, c1], _ =>
    obtain ⟨a, e0, _⟩ := DataW.trod_int Tryz.underlying3 h0
    obtain ⟨b, e1, _⟩ := DataW.trod_int Tryz.underlying3 h1
    rw [cells3] at e0 e1
    simp at e0 e1
    exact ⟨(a, b), by rw [e0, e1]; rfl⟩
set_option maxRecDepth 100000 in
theorem mode_row (n : Nat) (cs : List Value) (y : DataW H × List MemPlace) (h : DataW.trod enc Tryz.prog w 0 (fun _ => true) true n 3 cs = some y) : ∃ x : Int, cs = modeRow x := by
  obtain ⟨a, e0, _⟩ := DataW.trod_int Tryz.underlying3 h
  exact ⟨a, e0⟩
set_option maxRecDepth 100000 in
/-- a cycle that is handed in -/
theorem cycle_arg {b0 : Nat} {v : Value} {d : DataW H} {p : List MemPlace} (hv : Value.okWide Tryz.prog w .any b0 25 v) (h : DataW.Trod enc Tryz.prog w 0 (fun _ => true) true 25 v d p) (hz : w.noneFrozen p)
    (hb : Rows.uptoBulk d ≤ 1048576) :
    ∃ ed md es ms, VRel (snapP w) (.agg #[ed, md]) v ∧ Rd (snapM w) ed 2 edgeRow es ∧ Rd (snapM w) md 1 modeRow ms ∧ es.length ≤ 4194304 := by
  obtain ⟨c0, c1, y0, y1, k, rfl, rfl, rfl, h0, h1⟩ := Joins.open_agg2 Tryz.underlying25 (by kernel_rfl) cells25 hv h
  have hrow : Row.okWide Tryz.prog w .any b0 25 #[c0, c1] := by
    obtain ⟨cs, e, _, hr⟩ : ∃ cs, Value.agg #[c0, c1] = .agg cs ∧ cs.size = Tryz.prog.cellsOf 25 ∧ Row.okWide Tryz.prog w .any b0 25 cs := by
      have := hv
      simp only [Value.okWide, Tryz.underlying25] at this
      exact this
    cases e; exact hr
  obtain ⟨ts, hts, _, hcell⟩ := hrow
  rw [types25] at hts
  cases hts
  obtain ⟨u0, hu0, k0⟩ := hcell 0 c0 rfl
  obtain ⟨u1, hu1, k1⟩ := hcell 1 c1 rfl
  cases hu0; cases hu1
  obtain ⟨ed, es, r1, r2, r3, -⟩ := arg_slice (α := Int × Int) (e := 75) (sz := 2) (f := edgeRow) Tryz.underlying22 cellsE (by omega) edge_row (fun x => ⟨rfl, fun v hv => by simp [edgeRow] at hv; rcases hv with rfl | rfl <;> exact ⟨_, _, rfl⟩⟩) h0
    (fun a l c e => by subst e; exact slice_lies Tryz.underlying22 k0) (fun b off hb => hz b off (List.mem_append_left _ hb))
  obtain ⟨md, ms, q1, q2, q3, -⟩ := arg_slice (α := Int) (e := 3) (sz := 1) (f := modeRow) Tryz.underlying23 cells3 (by omega) mode_row (fun x => ⟨rfl, fun v hv => by simp [modeRow] at hv; subst hv; exact ⟨_, _, rfl⟩⟩) h1
    (fun a l c e => by subst e; exact slice_lies Tryz.underlying23 k1) (fun b off hb => hz b off (List.mem_append_right _ hb))
  refine ⟨ed, md, es, ms, .agg _ _ (.cons _ _ _ _ r1 (.cons _ _ _ _ q1 .nil)), r2, q2, ?_⟩
  rcases r3 with rfl | ⟨el, sp, e1, e2⟩
  · simp
  · rw [e1] at hb
    have := slice_le el sp
    simp only [Rows.uptoBulk, Rows.uptoBulkAll] at hb this
    omega
end
section
variable {H : Type} {enc : TypeId × Value → H} {w : World}
set_option maxRecDepth 100000 in
/-- picks that are handed in -/
theorem ints_arg {b0 : Nat} {v : Value} {d : DataW H} {p : List MemPlace} (hv : Value.okWide Tryz.prog w .any b0 23 v) (h : DataW.Trod enc Tryz.prog w 0 (fun _ => true) true 23 v d p) (hz : w.noneFrozen p)
    (hb : Rows.uptoBulk d ≤ 1048576) : ∃ pv ps, VRel (snapP w) pv v ∧ Rd (snapM w) pv 1 intRow ps ∧ ps.length ≤ 4194304 := by
  obtain ⟨a0, len, cap, rfl⟩ := okWide_slice Tryz.underlying23 hv
  have k1 : Cell.okWide Tryz.prog w .any b0 23 (.slice a0 len cap) := by have := hv; simp only [Value.okWide, Tryz.underlying23] at this; exact this
  obtain ⟨fuel, hf⟩ := h
  have hf' : DataW.trod enc Tryz.prog w 0 (fun _ => true) true fuel 23 [.slice a0 len cap] = some (d, p) := hf
  obtain ⟨pv, ps, q1, q2, q3, -⟩ := arg_slice (α := Int) (e := 3) (sz := 1) (f := intRow) Tryz.underlying23 cells3 (by omega) mode_row (fun x => ⟨rfl, fun v hv => by simp [intRow] at hv; subst hv; exact ⟨_, _, rfl⟩⟩) hf'
    (fun a l c e => by cases e; exact slice_lies Tryz.underlying23 k1) (fun b off hb => hz b off hb)
  refine ⟨pv, ps, q1, q2, ?_⟩
  rcases q3 with rfl | ⟨el, sp, e1, e2⟩
  · simp
  · simp only at e1
    rw [e1] at hb
    have := slice_le el sp
    simp only [Rows.uptoBulk] at hb this
    omega
end
theorem called (W : World) {ed md pv v0 v1 : Value} {es : List (Int × Int)} {ms ps : List Int} (h : es.length ≤ 4194304) (h1 : Rd (snapM W) ed 2 edgeRow es) (h2 : Rd (snapM W) md 1 modeRow ms) (h3 : Rd (snapM W) pv 1 intRow ps) (h4 : ps.length ≤ 4194304) (r1 : VRel (snapP W) (.agg #[ed, md]) v0) (r2 : VRel (snapP W) pv v1) : Calls Tryz.prog 3 #[v0, v1] W fun e w' => e = .returned (.bool true) ∧ Below W.heap.size W w' :=
  snap_call (Ex.step_ok (xA_ok mixed aw_ok 20) mixed) (WeaveNever_c ed md pv es ms ps (snapM W) (by obtain ⟨f1, f2, f3, f4⟩ := snap_facts W; rw [f1, f2]; exact Nat.le_refl _) (by omega) h1 h2 h3 (by omega)) #[v0, v1] (.cons _ _ _ _ r1 (.cons _ _ _ _ r2 .nil))
set_option maxRecDepth 100000 in
theorem lifted (os : Os) (started : os.Started) (H : Type) (enc : TypeId × Value → H) (F : Stop.Interp) :
    ReturnsInHanded {} Tryz.checked os 3 .any ((Rows.OpenSpec.upto Rows.weaveNeverSpec).pre6 enc Tryz.prog Tryz.f3 Rows.weaveNeverUptoRow.domain false) (((Rows.OpenSpec.upto Rows.weaveNeverSpec).at F).post enc Tryz.prog Tryz.f3 false true false false) := by
  refine returnsInHanded_of_cond (C := Tryz.checked) (s := Rows.OpenSpec.upto Rows.weaveNeverSpec) (k := Rows.uptoSmall) rfl own started (by kernel_rfl) Tryz.func3
    (OpenSpec.witness (enc := enc) (C := Tryz.checked) (s := Rows.OpenSpec.upto Rows.weaveNeverSpec) (k := Rows.uptoSmall) rfl false ⟨#[], #[.agg #[.slice none 0 0, .slice none 0 0], .slice none 0 0], []⟩ 8 (by kernel_rfl) (by kernel_rfl) (by kernel_rfl)
      (x := ([.agg [.nil, .nil], .nil], [], [])) (by kernel_rfl) rfl (by kernel_rfl)) ?_
  intro W base args ds gs before hval0 hW _ hk _
  have hval : ∀ (j : Nat) t v, Tryz.f3.params[j]? = some t → args[j]? = some v → Value.okWide Tryz.prog W .any base t v := hval0
  have hW' := hW
  obtain ⟨p, q, hA0, hV, rfl, hfz, hnd⟩ := hW
  have hA : DataW.TrodAll enc Tryz.prog W 0 (fun _ => true) true Tryz.f3.params.toList args.toList ds p := hA0
  have hstay := fun W' : World => args_stay (W := W) (W' := W') (enc := enc) laid Tryz.f3.params.toList args.toList ds p (by kernel_rfl) hA
  rw [Tryz.params3] at hA hval
  obtain ⟨v0, vs0, d0, ds0, p0, q0, hargs, rfl, rfl, h0, r0⟩ := trodAll_cons hA
  obtain ⟨v1, vs1, d1, ds1, p1, q1, rfl, rfl, rfl, h1, r1⟩ := trodAll_cons r0
  obtain ⟨rfl, rfl, rfl⟩ := trodAll_nil r1
  obtain rfl : args = #[v0, v1] := by cases args; simp_all
  obtain ⟨rfl, rfl⟩ := trodVars_none hV
  have hb : Rows.uptoBulkAll [d0, d1] ≤ 1048576 := of_decide_eq_true hk
  simp only [Rows.uptoBulkAll] at hb
  clear hA0 hval0 hA r0 r1
  simp only [List.append_nil] at hW' hfz hstay
  have z : ∀ {pl : List MemPlace}, (∀ x ∈ pl, x ∈ p0 ++ p1) → W.noneFrozen pl := fun hs b off hb => hfz b off (hs _ hb)
  obtain ⟨ed, md, es, ms, hr, r1, r2, r3⟩ := cycle_arg (hval 0 25 v0 rfl rfl) h0 (z fun x hx => by simp [hx]) (by omega)
  obtain ⟨pv, ps, hq, q2, q3⟩ := ints_arg (hval 1 23 v1 rfl rfl) h1 (z fun x hx => by simp [hx]) (by omega)
  refine (called W r3 r1 r2 q2 q3 hr hq).mono fun e W' ⟨he, hg⟩ => ?_
  subst he
  exact ⟨_, rfl, Dx.post_of_below (ds := [d0, d1]) (gs := []) (pv := []) hW' (fun _ _ _ => (trodAll_cons_mk (shut_bool Tryz.underlying4 _) trodAll_mk0))
    (fun sp hsp => hstay W' (fun x hx => hg.same (hW'.lt x hx)) sp hsp) (fun _ _ => rfl) (by simp)
    hg (ok_one (by kernel_rfl) rfl (okWide_bool_mk Tryz.underlying4 _))⟩

/-- ████ THE STATEMENT ████ -/
theorem proved : Rows.WeaveNeverUptoSaid :=
  OpenClaim.holds_of_cond 3 Tryz.f3 rfl rfl rfl rfl rfl rfl rfl ⟨rfl, rfl, rfl, rfl, rfl⟩ rfl rfl rfl rfl rfl (by kernel_rfl) Tryz.func3 (by kernel_rfl)
    (of_decide_eq_true (by kernel_rfl)) (by unfold Func.isWrapper; first | (rw [if_pos (by decide +kernel)]; kernel_rfl) | (rw [if_neg (by decide +kernel)]; exact ⟨rfl, rfl⟩))
    (fun os started H enc _ F => lifted os started H enc F)
#print axioms proved
end Go.Proofs.YtifpodmojagpiaaGreat.weaveNever
