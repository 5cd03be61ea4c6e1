/-
  'WeaveOnly' returns true, whatever is handed in: by contracts of the functions it calls, over a verified evaluator, and a plain law. Condition (the Upto form): what is handed in is of bulk at most 1048576.
-/
import Derived.Test.YtdfaibjngkfnaaaGh
import Derived.Test.YtdfaibjngkfnaaaRows
import Derived.WalkKit
import Derived.ProofKit
import Derived.OpenShut
import Derived.SizedLaws
import Derived.Lib.SmallJoins
import Derived.KernelRfl
import Derived.Test.YtdfaibjngkfnaaaPost
import Derived.Test.YtdfaibjngkfnaaaGa
set_option linter.unusedVariables false
namespace Go.Proofs.Ytdfaibjngkfnaaa.weaveOnly
open Go.ChangeShapes Go.WideShapes Go.ChangeAt Go.RowKit Go.Dx Go.Sx

theorem one_le {H : Type} (d : DataW H) : 1 ≤ Rows.uptoBulk d := by
  cases d with
  | lit l => cases l <;> simp [Rows.uptoBulk]
  | _ => simp [Rows.uptoBulk]
theorem length_le {H : Type} (l : List (DataW H)) : l.length ≤ Rows.uptoBulkAll l := by
  induction l with
  | nil => simp [Rows.uptoBulkAll]
  | cons x r ih => have := one_le x; simp only [Rows.uptoBulkAll, List.length_cons]; omega
theorem slice_le {H : Type} (elems spare : List (DataW H)) : elems.length ≤ Rows.uptoBulk (.slice elems spare) := by
  have h1 := length_le elems
  simp only [Rows.uptoBulk]
  omega
theorem own : ownKnob Try.prog.godebug = none := by kernel_rfl
theorem cells25 : Try.prog.cellsOf 25 = 2 := by kernel_rfl
theorem cells54 : Try.prog.cellsOf 54 = 2 := by kernel_rfl
theorem cells3 : Try.prog.cellsOf 3 = 1 := by kernel_rfl
theorem types25 : Try.prog.cellTypes Try.prog.depth 25 = some [22, 23] := by kernel_rfl
theorem laid : laidOutB Try.prog = true := by kernel_rfl
theorem mixed : Try.prog.follows .mixedOrders = true := by kernel_rfl
theorem aw_ok : PreOK Try.prog aw := ⟨by kernel_rfl, 3000, by kernel_rfl⟩
section
variable {H : Type} {enc : TypeId × Value → H} {w : World}
set_option maxRecDepth 100000 in
theorem edge_row (n : Nat) (cs : List Value) (y : DataW H × List MemPlace) (h : DataW.trod enc Try.prog w 0 (fun _ => true) true n 54 cs = some y) : ∃ x : Int × Int, cs = edgeRow x := by
  obtain ⟨y0, y1, k, _, hl, h0, h1⟩ := trod_struct2 Try.underlying54 h
  rw [cells54] at hl
  match cs, hl with
  | [c0, c1], _ =>
    obtain ⟨a, e0, _⟩ := DataW.trod_int Try.underlying3 h0
    obtain ⟨b, e1, _⟩ := DataW.trod_int Try.underlying3 h1
    rw [cells3] at e0 e1
    simp at e0 e1
    exact ⟨(a, b), by rw [e0, e1]; rfl⟩
set_option maxRecDepth 100000 in
theorem mode_row (n : Nat) (cs : List Value) (y : DataW H × List MemPlace) (h : DataW.trod enc Try.prog w 0 (fun _ => true) true n 3 cs = some y) : ∃ x : Int, cs = modeRow x := by
  obtain ⟨a, e0, _⟩ := DataW.trod_int Try.underlying3 h
  exact ⟨a, e0⟩
set_option maxRecDepth 100000 in
/-- a cycle that is handed in -/
theorem cycle_arg {b0 : Nat} {v : Value} {d : DataW H} {p : List MemPlace} (hv : Value.okWide Try.prog w .any b0 25 v) (h : DataW.Trod enc Try.prog w 0 (fun _ => true) true 25 v d p) (hz : w.noneFrozen p)
    (hb : Rows.uptoBulk d ≤ 1048576) :
    ∃ ed md es ms, VRel (snapP w) (.agg #[ed, md]) v ∧ Rd (snapM w) ed 2 edgeRow es ∧ Rd (snapM w) md 1 modeRow ms ∧ es.length ≤ 4194304 := by
  obtain ⟨c0, c1, y0, y1, k, rfl, rfl, rfl, h0, h1⟩ := Joins.open_agg2 Try.underlying25 (by kernel_rfl) cells25 hv h
  have hrow : Row.okWide Try.prog w .any b0 25 #[c0, c1] := by
    obtain ⟨cs, e, _, hr⟩ : ∃ cs, Value.agg #[c0, c1] = .agg cs ∧ cs.size = Try.prog.cellsOf 25 ∧ Row.okWide Try.prog w .any b0 25 cs := by
      have := hv
      simp only [Value.okWide, Try.underlying25] at this
      exact this
    cases e; exact hr
  obtain ⟨ts, hts, _, hcell⟩ := hrow
  rw [types25] at hts
  cases hts
  obtain ⟨u0, hu0, k0⟩ := hcell 0 c0 rfl
  obtain ⟨u1, hu1, k1⟩ := hcell 1 c1 rfl
  cases hu0; cases hu1
  obtain ⟨ed, es, r1, r2, r3, -⟩ := arg_slice (α := Int × Int) (e := 54) (sz := 2) (f := edgeRow) Try.underlying22 cells54 (by omega) edge_row (fun x => ⟨rfl, fun v hv => by simp [edgeRow] at hv; rcases hv with rfl | rfl <;> exact ⟨_, _, rfl⟩⟩) h0
    (fun a l c e => by subst e; exact slice_lies Try.underlying22 k0) (fun b off hb => hz b off (List.mem_append_left _ hb))
  obtain ⟨md, ms, q1, q2, q3, -⟩ := arg_slice (α := Int) (e := 3) (sz := 1) (f := modeRow) Try.underlying23 cells3 (by omega) mode_row (fun x => ⟨rfl, fun v hv => by simp [modeRow] at hv; subst hv; exact ⟨_, _, rfl⟩⟩) h1
    (fun a l c e => by subst e; exact slice_lies Try.underlying23 k1) (fun b off hb => hz b off (List.mem_append_right _ hb))
  refine ⟨ed, md, es, ms, .agg _ _ (.cons _ _ _ _ r1 (.cons _ _ _ _ q1 .nil)), r2, q2, ?_⟩
  rcases r3 with rfl | ⟨el, sp, e1, e2⟩
  · simp
  · rw [e1] at hb
    have := slice_le el sp
    simp only [Rows.uptoBulk, Rows.uptoBulkAll] at hb this
    omega
end
set_option maxRecDepth 100000 in
theorem lifted (os : Os) (started : os.Started) (H : Type) (enc : TypeId × Value → H) (F : Stop.Interp) :
    ReturnsInHanded {} Try.checked os 11 .any ((Rows.OpenSpec.upto Rows.weaveOnlySpec).pre6 enc Try.prog Try.f11 Rows.weaveOnlyUptoRow.domain false) (((Rows.OpenSpec.upto Rows.weaveOnlySpec).at F).post enc Try.prog Try.f11 false true false false) := by
  refine returnsInHanded_of_cond (C := Try.checked) (s := Rows.OpenSpec.upto Rows.weaveOnlySpec) (k := Rows.uptoSmall) rfl own started (by kernel_rfl) Try.func11
    (OpenSpec.witness (enc := enc) (C := Try.checked) (s := Rows.OpenSpec.upto Rows.weaveOnlySpec) (k := Rows.uptoSmall) rfl false ⟨#[], #[.agg #[.slice none 0 0, .slice none 0 0]], []⟩ 8 (by kernel_rfl) (by kernel_rfl) (by kernel_rfl)
      (x := ([.agg [.nil, .nil]], [], [])) (by kernel_rfl) rfl (by kernel_rfl)) ?_
  intro W base args ds gs before hval0 hW _ hk _
  have hval : ∀ (j : Nat) t v, Try.f11.params[j]? = some t → args[j]? = some v → Value.okWide Try.prog W .any base t v := hval0
  have hW' := hW
  obtain ⟨p, q, hA0, hV, rfl, hfz, hnd⟩ := hW
  have hA : DataW.TrodAll enc Try.prog W 0 (fun _ => true) true Try.f11.params.toList args.toList ds p := hA0
  rw [Try.params11] at hA hval
  obtain ⟨v, d, rfl, rfl, hd⟩ := trodAll_one hA
  obtain ⟨rfl, rfl⟩ := trodVars_none hV
  have hb : Rows.uptoBulkAll [d] ≤ 1048576 := of_decide_eq_true hk
  simp only [Rows.uptoBulkAll] at hb
  clear hA0 hval0
  simp only [List.append_nil] at hW' hfz
  obtain ⟨ed, md, es, ms, hr, r1, r2, r3⟩ := cycle_arg (hval 0 25 v rfl rfl) hd hfz (by omega)
  obtain ⟨f1, f2, f3, f4⟩ := snap_facts W
  refine (snap_call (Ex.step_ok (xA_ok mixed aw_ok 9) mixed) (WeaveOnly_all ed md es ms (snapM W) (by rw [f1, f2]; exact Nat.le_refl _) (by omega) r1 r2) #[v] (.cons _ _ _ _ hr .nil)).mono fun e W' ⟨he, hg⟩ => ?_
  subst he
  have hlt : ∀ x ∈ p, x.block < W.heap.size := fun x hx => hW'.lt x hx
  exact ⟨_, rfl, Dx.post_of_below (ds := [d]) (gs := []) (before := p) (pa := p) (pv := []) hW' (fun _ _ _ => (trodAll_cons_mk (shut_bool Try.underlying4 _) trodAll_mk0)) (fun sp hsp => trodAll_mk1 (WideElems.Trod_stays laid (by kernel_rfl) (of_decide_eq_true (by kernel_rfl)) hd (fun x hx => hg.same (hlt x hx)) (fun x hx => hsp x hx))) (fun _ _ => rfl) (by simp)
    hg (ok_one (by kernel_rfl) rfl (okWide_bool_mk Try.underlying4 _))⟩

/-- ████ THE STATEMENT ████ -/
theorem proved : Rows.WeaveOnlyUptoSaid :=
  OpenClaim.holds_of_cond 11 Try.f11 rfl rfl rfl rfl rfl rfl rfl ⟨rfl, rfl, rfl, rfl, rfl⟩ rfl rfl rfl rfl rfl (by kernel_rfl) Try.func11 (by kernel_rfl)
    (of_decide_eq_true (by kernel_rfl)) (by unfold Func.isWrapper; first | (rw [if_pos (by decide +kernel)]; kernel_rfl) | (rw [if_neg (by decide +kernel)]; exact ⟨rfl, rfl⟩))
    (fun os started H enc _ F => lifted os started H enc F)
#print axioms proved
end Go.Proofs.Ytdfaibjngkfnaaa.weaveOnly
