/- Further contracts. -/
import Derived.Test.YtdfaibjngkfnaaaGe
import Derived.Test.YtdfaibjngkfnaaaGb
set_option linter.unusedVariables false
set_option linter.unusedSimpArgs false
set_option linter.defProp false
set_option linter.unusedSimpArgs false
set_option linter.unusedVariables false
namespace Go.Sx
open Go.Dx Go.Proofs
/-- the plan's fence -/
theorem pfence_c (n : Nat) (PB : Nat) (ed : Value) (es : List (Int × Int)) (i : Nat) (hi : i < es.length) (hl : es.length ≤ 1000) (m : M) (hm : m.base ≤ m.n) (hPB : PB < m.n) (hp : load1 m ⟨PB, 0, none⟩ = some ed) (hed : Rd m ed 2 edgeRow es) :
    CallV (ex Try.prog (n + 2)) 40 [.pointer (some ⟨PB, 0, none⟩), iv i] m (iv (eAt es (ahN es.length i)).2) := by
  refine call_ret d_w_plan_fence_ok (by simp) ?_
  obtain ⟨e, he⟩ : ∃ e, es[ahN es.length i]? = some e := ⟨_, List.getElem?_eq_getElem (ahN_lt hi)⟩
  have ⟨a1, a2, a3⟩ := hed.at he
  have c1 := Call.use (m0 := m) fun m'' h => pahead_c n PB ed es.length i hi hl m'' (by rw [load1_sees h hPB]; exact hp) hed.len
  have hS := Sees.refl hm
  have a4 : ∀ m'', Sees m m'' → load1 m'' ⟨(adr 2 ed (ahN es.length i)).block, (adr 2 ed (ahN es.length i)).off + 1, none⟩ = some (iv e.2) := fun m'' h => a3 m'' 1 none h (by simp [edgeRow])
  have a5 : (eAt es (ahN es.length i)).2 = e.2 := by rw [eAt_of he]
  simp (maxDischargeDepth := 30) [hp, a1, c1, hS, a4, a5]
  exact ret_1 (by simp (maxDischargeDepth := 30) [c1, hS]) (by simp)
/-- the reference's fence -/
theorem Fence_c (n : Nat) (ed md : Value) (es : List (Int × Int)) (hl : es.length ≤ 16) (m : M) (hm : m.base ≤ m.n) (hed : Rd m ed 2 edgeRow es) (i : Nat) (hi : i < es.length) :
    CallV (ex Try.prog (n + 2)) 48 [.agg #[ed, md], iv i] m (iv (eAt es (ahN es.length i)).2) := by
  refine call_ret d_r_Fence_ok (by simp) ?_
  have hm0 : Sees m (Dx.newRow m [ed, md]) := by simp [Sees.refl hm]
  have hS0 := sees_row0 hm [ed, md]
  have b0 := fun m'' (h : Sees (Dx.newRow m [ed, md]) m'') => (boxS_at (m := m) (l := [ed, md]) h).2
  have bl : ∀ m'', Sees (Dx.newRow m [ed, md]) m'' → loads m'' ⟨m.n, 0, none⟩ 2 = some [ed, md] := fun m'' h => (boxS_at (m := m) (l := [ed, md]) h).1 0 2 none (by simp)
  obtain ⟨e, he⟩ : ∃ e, es[ahN es.length i]? = some e := ⟨_, List.getElem?_eq_getElem (ahN_lt hi)⟩
  have ⟨a1, a2, a3⟩ := (hed.sees hm0).at he
  have c1 := Call.use (m0 := Dx.newRow m [ed, md]) fun m'' _ => ahead_c n ed md es.length i hi (by omega) hed.len m''
  have a4 : ∀ m'', Sees (Dx.newRow m [ed, md]) m'' → load1 m'' ⟨(adr 2 ed (ahN es.length i)).block, (adr 2 ed (ahN es.length i)).off + 1, none⟩ = some (iv e.2) := fun m'' h => a3 m'' 1 none h (by simp [edgeRow])
  have a5 : (eAt es (ahN es.length i)).2 = e.2 := by rw [eAt_of he]
  simp (maxDischargeDepth := 30) [hS0, b0, bl, loadNS_ptr, a1, c1, a4, a5]
  exact ret_1 (by simp (maxDischargeDepth := 30) [c1, hS0]) (by simp)
theorem Cells_c (n : Nat) (ed md : Value) (es : List (Int × Int)) (hl : es.length ≤ 16) (m : M) (hm : m.base ≤ m.n) (hed : Rd m ed 2 edgeRow es) :
    CallV (ex Try.prog (n + 3)) 16 [.agg #[ed, md]] m (iv (es.length - cnt es : Nat)) := by
  refine call_ret d_r_Cells_ok (by simp) ?_
  have hm0 : Sees m (Dx.newRow m [ed, md]) := by simp [Sees.refl hm]
  have hS0 := sees_row0 hm [ed, md]
  have bl : ∀ m'', Sees (Dx.newRow m [ed, md]) m'' → loads m'' ⟨m.n, 0, none⟩ 2 = some [ed, md] := fun m'' h => (boxS_at (m := m) (l := [ed, md]) h).1 0 2 none (by simp)
  obtain ⟨q, hq⟩ : ∃ q, q = es.length - cnt es := ⟨_, rfl⟩
  have d1 := Call.use (m0 := Dx.newRow m [ed, md]) fun m'' h => count_c n ed md es hl m'' h.base (hed.sees (hm0.trans h))
  rw [← hq] at d1 ⊢
  simp (maxDischargeDepth := 30) [hS0, bl, loadNS_ptr, d1]
  exact ret_1 (by simp (maxDischargeDepth := 30) [hS0, d1]) (by simp)
theorem Threads_c (n : Nat) (ed md : Value) (es : List (Int × Int)) (hl : es.length ≤ 16) (m : M) (hm : m.base ≤ m.n) (hed : Rd m ed 2 edgeRow es) :
    CallV (ex Try.prog (n + 3)) 17 [.agg #[ed, md]] m (iv (cnt es : Nat)) := by
  refine call_ret d_r_Threads_ok (by simp) ?_
  have hm0 : Sees m (Dx.newRow m [ed, md]) := by simp [Sees.refl hm]
  have hS0 := sees_row0 hm [ed, md]
  have bl : ∀ m'', Sees (Dx.newRow m [ed, md]) m'' → loads m'' ⟨m.n, 0, none⟩ 2 = some [ed, md] := fun m'' h => (boxS_at (m := m) (l := [ed, md]) h).1 0 2 none (by simp)
  obtain ⟨q, hq⟩ : ∃ q, q = es.length - cnt es := ⟨_, rfl⟩
  have d1 := Call.use (m0 := Dx.newRow m [ed, md]) fun m'' h => count_c n ed md es hl m'' h.base (hed.sees (hm0.trans h))
  rw [← hq] at d1
  simp (maxDischargeDepth := 30) [hS0, bl, loadNS_ptr, d1]
  exact ret_1 (by simp (maxDischargeDepth := 30) [hS0, d1]) (by simp)
/-- how many writes of a cell -/
def wrR (es : List (Int × Int)) (b c : Nat) : Nat := (List.range es.length).countP fun i => fromE es i && decide (rankE es b true i = c)
theorem Writes_c (n : Nat) (ed md : Value) (es : List (Int × Int)) (hl : es.length ≤ 16) (m : M) (hm : m.base ≤ m.n) (hed : Rd m ed 2 edgeRow es) (b : Nat) (hb : first es.length (begP es) = some b) (c : Nat) :
    CallV (ex Try.prog (n + 6)) 18 [.agg #[ed, md], iv c] m (iv (wrR es b c)) := by
  refine call_ret d_r_Writes_ok (by simp) ?_
  have hm0 : Sees m (Dx.newRow m [ed, md]) := by simp [Sees.refl hm]
  have hel := hed.len
  simp
  refine loop_run (c := c_r_Writes_8) rfl (Ret m _) (fun i t m' => Tm.get 1 t = iv c ∧ Tm.get 2 t = .pointer (some ⟨m.n, 0, none⟩) ∧ Tm.get 5 t = iv ((List.range i).countP fun i => fromE es i && decide (rankE es b true i = c)) ∧ Tm.get 6 t = iv i ∧ Ext m m' ∧ Sees (Dx.newRow m [ed, md]) m') es.length (by omega)
    ⟨by simp, by simp, by simp, by simp, by simp, sees_row0 hm _⟩ (fun i t m' k hi hI hk => ?_)
  obtain ⟨h1, h2, h5, h6, hE, hS⟩ := hI
  have b0 := fun m'' (h : Sees m' m'') => (boxS_at (m := m) (l := [ed, md]) (hS.trans h)).2
  have bl : ∀ m'', Sees m' m'' → loads m'' ⟨m.n, 0, none⟩ 2 = some [ed, md] := fun m'' h => (boxS_at (m := m) (l := [ed, md]) (hS.trans h)).1 0 2 none (by simp)
  have hS' := hS.self
  obtain ⟨q, hq⟩ : ∃ q, q = (List.range i).countP fun i => fromE es i && decide (rankE es b true i = c) := ⟨_, rfl⟩
  rw [← hq] at h5
  have hqi : q ≤ i := by rw [hq]; have := List.countP_le_length (p := fun i => fromE es i && decide (rankE es b true i = c)) (l := List.range i); simpa using this
  by_cases hil : i < es.length
  · obtain ⟨e, he⟩ : ∃ e, es[i]? = some e := ⟨_, List.getElem?_eq_getElem hil⟩
    have hfx : fromE es i = fromI e.1 := by unfold fromE; rw [eAt_of he]
    have ⟨a1, a2, a3⟩ := (hed.sees (m' := m') (hm0.trans hS)).at he
    have a4 : ∀ m'', Sees m' m'' → load1 m'' ⟨(adr 2 ed i).block, (adr 2 ed i).off, none⟩ = some (iv e.1) := fun m'' h => a3 m'' 0 none h (by simp [edgeRow])
    have hd := dlt hil
    have w1 := nextI (i := i) (by omega)
    have w2 := nextI (i := q) (by omega)
    obtain ⟨C, hC⟩ : ∃ C, C = rankE es b true i := ⟨_, rfl⟩
    have hsucc : (List.range (i + 1)).countP (fun i => fromE es i && decide (rankE es b true i = c)) = q + if fromI e.1 = true ∧ C = c then 1 else 0 := by
      rw [List.range_succ, List.countP_append, ← hq]; simp [hfx, ← hC]
    obtain ⟨v1, m1, g1, g2, rfl⟩ := From_c (n + 4) e.1 m'
    have hS1 := hS'.ext g2
    obtain ⟨v2, m2, p1, p2, hv2⟩ := Cell_c n ed md es hl m1 hS1.base (hed.sees (hm0.trans (hS.trans hS1))) b hb i hil _ (rankE_ok hil)
    rw [← hC] at hv2
    subst hv2
    have b1 := b0 m1 hS1
    have bl1 := bl m1 hS1
    cases hf : fromI e.1 with
    | false =>
      rw [hf] at hsucc
      simp [h1, h2, h5, h6, hd, hel, b0, hS', a1, a4, g1, hf, w1]
      refine hk hil _ _ ?_
      exact ⟨by simp [h1], by simp [h2], by rw [hsucc]; simp [h5], by simp, hE.trans g2, hS.trans hS1⟩
    | true =>
      rw [hf] at hsucc
      by_cases e' : C = c
      · subst e'
        simp [h1, h2, h5, h6, hd, hel, b0, hS', a1, a4, g1, hf, w1, w2, bl1, loadNS_ptr, p1]
        refine hk hil _ _ ?_
        exact ⟨by simp [h1], by simp [h2], by rw [hsucc]; simp, by simp, (hE.trans g2).trans p2, (hS.trans hS1).ext p2⟩
      · have e2 : ((C : Int) = (c : Int)) = False := eq_false (by omega)
        simp [h1, h2, h5, h6, hd, hel, b0, hS', a1, a4, g1, hf, w1, w2, bl1, loadNS_ptr, p1, e2]
        refine hk hil _ _ ?_
        exact ⟨by simp [h1], by simp [h2], by rw [hsucc]; simp [h5, e'], by simp, (hE.trans g2).trans p2, (hS.trans hS1).ext p2⟩
  obtain rfl : i = es.length := by omega
  have hd : ((es.length : Int) < (es.length : Int)) = False := eq_false (by omega)
  simp [h1, h2, h5, h6, hd, hel, b0, hS']
  refine ret_1 hE ?_
  unfold wrR; rw [← hq]; simp
end Go.Sx

set_option linter.unusedSimpArgs false
set_option linter.unusedVariables false
namespace Go.Sx
open Go.Dx Go.Proofs
/-- so many steps back -/
def back (len : Nat) : Nat → Nat → Nat
  | 0, i => i
  | k + 1, i => ahN len (back len k i)
theorem back_lt {len i : Nat} (h : i < len) : ∀ k, back len k i < len
  | 0 => h
  | k + 1 => ahN_lt (back_lt h k)
/-- d steps back by outer edges, and an inner one ahead of that -/
structure Stop (es : List (Int × Int)) (i d : Nat) : Prop where
  out : ∀ j, j < d → outAt es (ahN es.length (back es.length j i)) = true
  inn : outAt es (ahN es.length (back es.length d i)) = false
  le : d ≤ 1000
/-- how many writes on the way back -/
def bw (es : List (Int × Int)) (i d : Nat) : Nat := (List.range d).countP fun t => fromE es (back es.length (t + 1) i)
theorem bw_succ (es : List (Int × Int)) (i d : Nat) : bw es i (d + 1) = bw es i d + if fromE es (back es.length (d + 1) i) then 1 else 0 := by
  unfold bw; rw [List.range_succ, List.countP_append]; simp
theorem bw_le (es : List (Int × Int)) (i d : Nat) : bw es i d ≤ d := by
  unfold bw; have := List.countP_le_length (p := fun t => fromE es (back es.length (t + 1) i)) (l := List.range d); simpa using this
theorem ValueW_c (n : Nat) (ed md : Value) (es : List (Int × Int)) (hl : es.length ≤ 16) (m : M) (hm : m.base ≤ m.n) (hed : Rd m ed 2 edgeRow es) (i : Nat) (hi : i < es.length) (hf : fromE es i = true) (d : Nat) (hd : Stop es i d) :
    CallV (ex Try.prog (n + 2)) 50 [.agg #[ed, md], iv i] m (iv (1 + bw es i d : Nat)) := by
  refine call_ret d_r_Value_ok (by simp) ?_
  have hm0 : Sees m (Dx.newRow m [ed, md]) := by simp [Sees.refl hm]
  have hS0 := sees_row0 hm [ed, md]
  have hel := hed.len
  obtain ⟨m1, hm1⟩ : ∃ m1, m1 = Dx.newRow m [ed, md] := ⟨_, rfl⟩
  have E1 : Ext m m1 := by rw [hm1]; exact Ext.row _ _
  have b0 : ∀ m'', Sees m1 m'' → ∀ o s, load1 m'' ⟨m.n, o, s⟩ = [ed, md][o]? := fun m'' h => (boxS_at (m := m) (l := [ed, md]) (by rw [← hm1]; exact h)).2
  have bl : ∀ m'', Sees m1 m'' → loads m'' ⟨m.n, 0, none⟩ 2 = some [ed, md] := fun m'' h => (boxS_at (m := m) (l := [ed, md]) (by rw [← hm1]; exact h)).1 0 2 none (by simp)
  rw [← hm1] at hm0 hS0
  obtain ⟨e, he⟩ : ∃ e, es[i]? = some e := ⟨_, List.getElem?_eq_getElem hi⟩
  have hfx : fromE es i = fromI e.1 := by unfold fromE; rw [eAt_of he]
  have ⟨a1, a2, a3⟩ := (hed.sees hm0).at he
  have a4 : ∀ m'', Sees m1 m'' → load1 m'' ⟨(adr 2 ed i).block, (adr 2 ed i).off, none⟩ = some (iv e.1) := fun m'' h => a3 m'' 0 none h (by simp [edgeRow])
  obtain ⟨v2, m2, p1, p2, rfl⟩ := ahead_c n ed md es.length i hi (by omega) hel m1
  have hS2 := hS0.ext p2
  obtain ⟨v3, m3, g1, g2, rfl⟩ := From_c n e.1 m2
  rw [← hfx, hf] at g1
  have hS3 := hS2.ext g2
  have w0 : IntKind.i64.wrap 1 = 1 := rfl
  simp [← hm1, bl, b0, hS0, hS2, loadNS_ptr, p1, a1, a4, g1]
  refine loop_run (c := c_r_Value_15) rfl (Ret m _) (fun j t m' => j ≤ d ∧ Tm.get 1 t = iv (back es.length j i) ∧ Tm.get 2 t = .pointer (some ⟨m.n, 0, none⟩) ∧ Tm.get 6 t = iv (1 + bw es i j : Nat) ∧ Ext m m' ∧ Sees m1 m') (d + 1) (by have := hd.le; omega)
    ⟨by omega, by simp [back], by simp, by simp [bw], (E1.trans p2).trans g2, hS3⟩ (fun j t m' k hj hI hk => ?_)
  obtain ⟨hjd, h1, h2, h6, hE, hS⟩ := hI
  have hS' := hS.self
  obtain ⟨x, hx⟩ : ∃ x, x = back es.length j i := ⟨_, rfl⟩
  have hxl : x < es.length := by rw [hx]; exact back_lt hi j
  rw [← hx] at h1
  obtain ⟨y, hy⟩ : ∃ y, y = ahN es.length x := ⟨_, rfl⟩
  have hyl : y < es.length := by rw [hy]; exact ahN_lt hxl
  obtain ⟨f, hf'⟩ : ∃ e, es[y]? = some e := ⟨_, List.getElem?_eq_getElem hyl⟩
  have ⟨u1, u2, u3⟩ := (hed.sees (m' := m') (hm0.trans hS)).at hf'
  have u2' : ∀ m'', Sees m' m'' → loads m'' (adr 2 ed y) 2 = some [iv f.1, iv f.2] := u2
  have u4 : ∀ m'', Sees m' m'' → load1 m'' ⟨(adr 2 ed y).block, (adr 2 ed y).off, none⟩ = some (iv f.1) := fun m'' h => u3 m'' 0 none h (by simp [edgeRow])
  have c1 := Call.use (m0 := m') fun m'' _ => by have := ahead_c n ed md es.length x hxl (by omega) hel m''; rwa [← hy] at this
  have c2 := Call.use (m0 := m') fun m'' _ => Outer_c n f.1 f.2 m''
  have b0' := fun m'' (h : Sees m' m'') => b0 m'' (hS.trans h)
  have bl' := fun m'' (h : Sees m' m'') => bl m'' (hS.trans h)
  have ho := outer_out hf'
  obtain ⟨q, hq⟩ : ∃ q, q = 1 + bw es i j := ⟨_, rfl⟩
  have hq1000 : q ≤ 1001 := by have := bw_le es i j; have := hd.le; omega
  rw [← hq] at h6
  simp (maxDischargeDepth := 30) [h1, h2, h6, b0', bl', hS', loadNS_ptr, c1, c2, u1, u2', ho]
  obtain ⟨m4, hm4⟩ : ∃ m4, m4 = behind m' (aft (ex Try.prog (n + 1)) 73 [Value.agg #[iv f.1, iv f.2]] (forAny (behind m' (aft (ex Try.prog (n + 1)) 74 [Value.agg #[ed, md], iv x] (forAny m'))))) := ⟨_, rfl⟩
  cases ho' : outAt es y with
  | false =>
    have hjd' : j = d := by
      rcases Nat.lt_or_ge j d with h | h
      · have := hd.out j h; rw [← hx, ← hy, ho'] at this; cases this
      · omega
    simp [h6]
    refine ret_1 (by simp (maxDischargeDepth := 30) [hE, hS', c1, c2]) ?_
    simp [hq, hjd']
  | true =>
    have hjd' : j < d := by
      rcases Nat.lt_or_ge j d with h | h
      · exact h
      · have : j = d := by omega
        subst this
        have := hd.inn; rw [← hx, ← hy, ho'] at this; cases this
    have hb : back es.length (j + 1) i = y := by show ahN es.length (back es.length j i) = y; rw [← hx, hy]
    have hfy : fromE es y = fromI f.1 := by unfold fromE; rw [eAt_of hf']
    have hsucc := bw_succ es i j
    rw [hb, hfy] at hsucc
    have c3 := Call.use (m0 := m') fun m'' _ => From_c n f.1 m''
    have w2 : IntKind.i64.wrap ((q : Int) + 1) = ((q + 1 : Nat) : Int) := nextI (by omega)
    simp (maxDischargeDepth := 30) [h1, h2, h6, b0', bl', hS', loadNS_ptr, c1, c2, c3, u1, u4]
    cases hff : fromI f.1 with
    | true =>
      rw [hff] at hsucc
      simp [h6, w2]
      refine hk (by omega) _ _ ?_
      exact ⟨by omega, by rw [hb]; simp, by simp [h2], by rw [hsucc, show 1 + (bw es i j + if true = true then 1 else 0) = q + 1 by rw [hq]; simp; omega]; simp, by simp (maxDischargeDepth := 30) [hE, hS', c1, c2, c3], by simp (maxDischargeDepth := 30) [hS, hS', c1, c2, c3]⟩
    | false =>
      rw [hff] at hsucc
      simp
      refine hk (by omega) _ _ ?_
      exact ⟨by omega, by rw [hb]; simp, by simp [h2], by rw [hsucc, show 1 + (bw es i j + if false = true then 1 else 0) = q by rw [hq]; simp]; simp [h6], by simp (maxDischargeDepth := 30) [hE, hS', c1, c2, c3], by simp (maxDischargeDepth := 30) [hS, hS', c1, c2, c3]⟩
/-- an event's value -/
def vRef (es : List (Int × Int)) (V : Nat → Nat) (i : Nat) : Nat := if fromE es i then V i else if (eAt es (ahN es.length i)).1 = 1 then V (ahN es.length i) else 0
theorem Value_c (n : Nat) (ed md : Value) (es : List (Int × Int)) (hl : es.length ≤ 16) (m : M) (hm : m.base ≤ m.n) (hed : Rd m ed 2 edgeRow es) (V : Nat → Nat) (hV : ∀ i, i < es.length → fromE es i = true → ∃ d, Stop es i d ∧ V i = 1 + bw es i d) (i : Nat) (hi : i < es.length) :
    CallV (ex Try.prog (n + 3)) 50 [.agg #[ed, md], iv i] m (iv (vRef es V i)) := by
  by_cases hf : fromE es i = true
  · obtain ⟨d, hd, e⟩ := hV i hi hf
    have := ValueW_c (n + 1) ed md es hl m hm hed i hi hf d hd
    rwa [show vRef es V i = 1 + bw es i d by unfold vRef; rw [if_pos hf, e]]
  have hf0 : fromE es i = false := by simpa using hf
  refine call_ret d_r_Value_ok (by simp) ?_
  have hm0 : Sees m (Dx.newRow m [ed, md]) := by simp [Sees.refl hm]
  have hS0 := sees_row0 hm [ed, md]
  have hel := hed.len
  obtain ⟨m1, hm1⟩ : ∃ m1, m1 = Dx.newRow m [ed, md] := ⟨_, rfl⟩
  have E1 : Ext m m1 := by rw [hm1]; exact Ext.row _ _
  have b0 : ∀ m'', Sees m1 m'' → ∀ o s, load1 m'' ⟨m.n, o, s⟩ = [ed, md][o]? := fun m'' h => (boxS_at (m := m) (l := [ed, md]) (by rw [← hm1]; exact h)).2
  have bl : ∀ m'', Sees m1 m'' → loads m'' ⟨m.n, 0, none⟩ 2 = some [ed, md] := fun m'' h => (boxS_at (m := m) (l := [ed, md]) (by rw [← hm1]; exact h)).1 0 2 none (by simp)
  rw [← hm1] at hm0 hS0
  obtain ⟨e, he⟩ : ∃ e, es[i]? = some e := ⟨_, List.getElem?_eq_getElem hi⟩
  have hfx : fromE es i = fromI e.1 := by unfold fromE; rw [eAt_of he]
  have ⟨a1, a2, a3⟩ := (hed.sees hm0).at he
  have a4 : ∀ m'', Sees m1 m'' → load1 m'' ⟨(adr 2 ed i).block, (adr 2 ed i).off, none⟩ = some (iv e.1) := fun m'' h => a3 m'' 0 none h (by simp [edgeRow])
  obtain ⟨y, hy⟩ : ∃ y, y = ahN es.length i := ⟨_, rfl⟩
  have hyl : y < es.length := by rw [hy]; exact ahN_lt hi
  obtain ⟨f, hf'⟩ : ∃ e, es[y]? = some e := ⟨_, List.getElem?_eq_getElem hyl⟩
  have ⟨u1, u2, u3⟩ := (hed.sees hm0).at hf'
  have u4 : ∀ m'', Sees m1 m'' → load1 m'' ⟨(adr 2 ed y).block, (adr 2 ed y).off, none⟩ = some (iv f.1) := fun m'' h => u3 m'' 0 none h (by simp [edgeRow])
  obtain ⟨v2, m2, p1, p2, rfl⟩ := ahead_c (n + 1) ed md es.length i hi (by omega) hel m1
  rw [← hy] at p1
  have hS2 := hS0.ext p2
  obtain ⟨v3, m3, g1, g2, rfl⟩ := From_c (n + 1) e.1 m2
  rw [← hfx, hf0] at g1
  have hS3 := hS2.ext g2
  have hval : vRef es V i = if f.1 = 1 then V y else 0 := by unfold vRef; rw [if_neg hf, ← hy, eAt_of hf']
  rw [hval]
  by_cases h1 : f.1 = 1
  · have hfy : fromE es y = true := by unfold fromE; rw [eAt_of hf', h1]; rfl
    obtain ⟨d, hd, e⟩ := hV y hyl hfy
    obtain ⟨v4, m4, q1, q2, rfl⟩ := ValueW_c n ed md es hl m3 hS3.base (hed.sees (hm0.trans hS3)) y hyl hfy d hd
    rw [← e] at q1
    simp [← hm1, bl, b0, hS0, hS2, hS3, loadNS_ptr, p1, a1, a4, g1, u1, u4, h1, q1]
    exact ret_1 (((E1.trans p2).trans g2).trans q2) (by simp)
  · simp [← hm1, bl, b0, hS0, hS2, hS3, loadNS_ptr, p1, a1, a4, g1, u1, u4, h1]
    exact ret_1 ((E1.trans p2).trans g2) (by simp)
end Go.Sx

set_option linter.unusedSimpArgs false
set_option linter.unusedVariables false
namespace Go.Dx
/-! ### Rows that lie in made slices -/
def upN {α : Type} (f : Nat → α) (j : Nat) (v : α) : Nat → α := fun k => if k = j then v else f k
theorem upN_same {α : Type} (f : Nat → α) (j : Nat) (v : α) : upN f j v j = v := by unfold upN; rw [if_pos rfl]
theorem upN_ne {α : Type} (f : Nat → α) {j k : Nat} (v : α) (h : k ≠ j) : upN f j v k = f k := by unfold upN; rw [if_neg h]
theorem flat_len {e n : Nat} {f : Nat → List Value} (h : ∀ j, (f j).length = e) : ((List.range n).flatMap f).length = n * e := by
  have := flatMap_len h (List.range n); simpa using this
theorem flat_set {e : Nat} {f g : Nat → List Value} {j o : Nat} {v : Value} (hf : ∀ k, (f k).length = e) (ho : o < e) (hne : ∀ k, k ≠ j → g k = f k) (hj : g j = (f j).set o v) : ∀ n, j < n → ((List.range n).flatMap f).set (j * e + o) v = (List.range n).flatMap g := by
  intro n
  induction n with
  | zero => intro h; omega
  | succ n ih =>
    intro h
    rw [List.range_succ, List.flatMap_append, List.flatMap_append]
    have hl := flat_len (n := n) hf
    by_cases e' : j = n
    · subst e'
      have key : ∀ m, m ≤ j → (List.range m).flatMap g = (List.range m).flatMap f := by
        intro m
        induction m with
        | zero => intro _; rfl
        | succ m im => intro hm; rw [List.range_succ, List.flatMap_append, List.flatMap_append, im (by omega)]; simp [hne m (by omega)]
      rw [key j (Nat.le_refl _), List.set_append_right _ _ (by omega), hl, show j * e + o - j * e = o by omega]
      simp [hj]
    · have hjn : j < n := by omega
      have := Nat.mul_le_mul_right e (Nat.succ_le_of_lt hjn)
      rw [Nat.succ_mul] at this
      rw [List.set_append_left _ _ (by omega), ih hjn]
      simp [hne n (by omega)]
theorem rep_flat (n : Nat) (l : List Value) : rep n l = (List.range n).flatMap fun _ => l := by
  induction n with
  | zero => rfl
  | succ n ih =>
    rw [List.range_succ_eq_map, List.flatMap_cons, List.flatMap_map]
    show l ++ rep n l = _
    rw [ih]
theorem idxE {e c : Nat} (B n i : Nat) (h : i < n) : iaddrSV e (.slice (some ⟨B, 0, some c⟩) n n) (.int .i64 i) = some (.pointer (some ⟨B, i * e, none⟩)) := by
  show (bif Nat.blt i n then addA (i * e) ⟨B, 0, some c⟩ else none) = _
  rw [show Nat.blt i n = true from Nat.ble_eq_true_of_le h]
  show some (Value.pointer (some ⟨B, 0 + i * e, none⟩)) = _
  rw [Nat.zero_add]
theorem rd_made {α : Type} {m : M} {B c e : Nat} {f : α → List Value} (hf : ∀ x, (f x).length = e) {l : List α} (h : Arr m B (l.flatMap f)) (hB : B < m.n) : Rd m (.slice (some ⟨B, 0, some c⟩) l.length l.length) e f l := by
  have hlen := flatMap_len hf l
  refine ⟨rfl, fun i r hr => ?_, ?_, fun C hC => by cases hC; exact hB⟩
  · have hi := (List.getElem?_eq_some_iff.1 hr).1
    refine ⟨?_, hB, ?_⟩
    · rw [idxE B _ i hi]
      show _ = some (Value.pointer (some ⟨B, 0 + i * e, none⟩))
      rw [Nat.zero_add]
    · show loads m ⟨B, 0 + i * e, none⟩ e = _
      have := Nat.mul_le_mul_right e (Nat.succ_le_of_lt hi)
      rw [Nat.succ_mul] at this
      rw [Nat.zero_add, h.loads (by omega), flatMap_get hf l i r hr]
  · show loads m _ (l.length * e) = _
    rw [h.loads (by omega), List.drop_zero, ← hlen, List.take_length]
theorem flat_get {e : Nat} {f : Nat → List Value} (hf : ∀ j, (f j).length = e) {n j o : Nat} (hj : j < n) (ho : o < e) : ((List.range n).flatMap f)[j * e + o]? = (f j)[o]? := by
  have := flatMap_get hf (List.range n) j j (by rw [List.getElem?_range hj])
  have h2 := congrArg (fun l => l[o]?) this
  simp only [List.getElem?_take, ho, if_true, List.getElem?_drop] at h2
  exact h2
theorem mk_rows {n e bytes : Nat} {zs : List Value} (hz : zs.length = e) (h : n ≤ 1000) (hb : bytes ≤ 1000) (he : e ≤ 100) (m : M) : mksliceS e bytes zs (.int .i64 (n : Int)) (.int .i64 (n : Int)) m = some (.slice (some ⟨m.n, 0, some (code e true)⟩) n n, newRow m ((List.range n).flatMap fun _ => zs)) := by
  show (bif Nat.ble n n && Nat.ble (n * bytes) most && Nat.ble n 4611686018427387904 && Nat.ble (n * e) 1048576 then some (Value.slice (some ⟨m.n, 0, some (code e true)⟩) n n, newRow m (rep n zs)) else none) = _
  have h1 : n * bytes ≤ 1000 * 1000 := Nat.mul_le_mul h hb
  have h2 : n * e ≤ 1000 * 100 := Nat.mul_le_mul h he
  rw [Nat.ble_eq_true_of_le (Nat.le_refl n), Nat.ble_eq_true_of_le (by unfold most; omega), Nat.ble_eq_true_of_le (by omega), Nat.ble_eq_true_of_le (by omega), rep_flat]
  rfl
@[simp] theorem pConvI_ap (k : IntKind) (a : V) (t : Tm) : pConvI k a t = convIV k (a t) := _root_.id rfl
@[simp] theorem convI_u64 (x : Nat) (h : x < 1000000) : convIV .u64 (.int .i64 (x : Int)) = some (.int .u64 (x : Int)) := by
  show some (Value.int .u64 (wrapF .u64 (x : Int))) = _
  rw [wrapF_eq]
  have : IntKind.u64.wrap (x : Int) = (x : Int) := by
    unfold IntKind.wrap; simp [IntKind.bits, IntKind.signed]; omega
  rw [this]
end Go.Dx

set_option linter.unusedSimpArgs false
set_option linter.unusedVariables false
namespace Go.Dx
section
variable {m0 m m' : M} {σ σ' : List (Nat × List Value)} {k b : Nat} {l : List Value}
theorem St.sub (h : St m0 m σ) (hs : ∀ p ∈ σ', p ∈ σ) (hn : (σ'.map (·.1)).Nodup) : St m0 m σ' := ⟨h.ext, h.base, fun p hp => h.arr p (hs p hp), hn⟩
theorem Grown.low {α : Type} {m0 m0' m : M} {v : Value} {e : Nat} {f : α → List Value} {es : List α} (h : Grown m0 m v e f es) (hn : m0'.n ≤ m0.n) : Grown m0' m v e f es := by
  rcases h with h | ⟨B, h1, h2⟩
  · exact .inl h
  · exact .inr ⟨B, by omega, h2⟩
/-- a whole block is written, in a region that draws -/
theorem St.fillAny (h : St m0 m σ) (k : Nat) (hk : σ[k]? = some (b, l)) {n : Nat} {l' : List Value} (hn0 : 0 < n) (hl : l.length = n) (hl' : l'.length = n) (hv : ∀ v ∈ l', okC v = true) :
    ∃ m', storeS n (.pointer (some ⟨b, 0, none⟩)) (.agg ⟨l'⟩) (forAny m) = some (undef, m') ∧ m'.log = [b] ∧ St m0 (Dx.behind m m') (σ.set k (b, l')) ∧ (Dx.behind m m').n = m.n ∧ (∀ X, X ≠ b → (Dx.behind m m').obj X = m.obj X) := by
  obtain ⟨h1, h2, h3⟩ := h.get k hk
  have h3' : Arr (forAny m) b l := h3.congr (forAny_obj m b)
  have e := storeS_arr (n := n) (o := 0) (v := .agg ⟨l'⟩) (l := l') h3' rfl hl' (by omega) hv
  obtain ⟨s1, s2, s3, s4, s5, s6⟩ := stores_putN (o := 0) (l := l') h3' (by omega) hv
  rw [over_fill (by omega)] at s2
  have hlog : (putN (forAny m) b 0 l').log = [b] := by
    obtain ⟨c, hc, hcl⟩ := h3'
    obtain ⟨v0, vs, rfl⟩ : ∃ v0 vs, l' = v0 :: vs := by
      cases l' with
      | nil => simp at hl'; omega
      | cons a b => exact ⟨a, b, rfl⟩
    have : ∃ c', stores (forAny m) ⟨b, 0, none⟩ (v0 :: vs) = some ((forAny m).put b (.cells c')) := by
      have hs : stores (forAny m) ⟨b, 0, none⟩ (v0 :: vs) = ob (oCells ((forAny m).obj b)) fun c => ob (stn c 0 (v0 :: vs)) fun c' => some ((forAny m).put b (.cells c')) := rfl
      rw [hs, hc]
      obtain ⟨c', e', _⟩ := stn_of (vs := v0 :: vs) (o := 0) hcl (by omega) hv
      exact ⟨c', by show ob (stn c 0 (v0 :: vs)) _ = _; rw [e']; rfl⟩
    obtain ⟨c', e'⟩ := this
    have hp : putN (forAny m) b 0 (v0 :: vs) = (forAny m).put b (.cells c') := by unfold putN; rw [e']; rfl
    rw [hp]
    cases m with | mk a nx bs wl =>
    show note nx b [] = [b]
    have h2' : b < nx := h2
    unfold note
    have : Nat.ble nx b = false := by
      cases q : Nat.ble nx b with
      | false => rfl
      | true => exact absurd (Nat.le_of_ble_eq_true q) (by omega)
    rw [this]; rfl
  refine ⟨_, e, hlog, h.put' k hk (by rw [behind_n, s3, forAny_n]) (behind_base _ _) ?_ (fun X hX => by rw [behind_obj, s5 X hX, forAny_obj]) (s2.congr (behind_obj _ _ _)), by rw [behind_n, s3, forAny_n], fun X hX => by rw [behind_obj, s5 X hX, forAny_obj]⟩
  rw [behind_log, hlog]
  refine notes_ge fun B hB => ?_
  rw [List.mem_singleton.1 hB, h.ext.base]
  have := h.base
  omega
end
end Go.Dx
namespace Go.Dx
@[simp] theorem eqFV_ap (neg : Bool) (ks : List Nat) (a b : List Value) : eqFV neg ks (.agg ⟨a⟩) (.agg ⟨b⟩) = ob (eqFlat ks a b) fun r => some (.bool (bif neg then !r else r)) := _root_.id rfl
theorem eqFlat_int (ks : List Nat) (k : IntKind) (x : Int) (l r : List Value) : eqFlat (1 :: ks) (.int k x :: l) (.int k x :: r) = eqFlat ks l r := by
  have h : eqK 1 (.int k x) (.int k x) = some true := by
    show (bif Nat.beq (ik k) (ik k) then some (eqI x x) else none) = _
    rw [Nat.beq_refl, eqI_eq]; simp
  show ob (eqK 1 (.int k x) (.int k x)) _ = _
  rw [h]; rfl
theorem eqFlat_nil (l r : List Value) : eqFlat [] l r = some true := rfl
end Go.Dx
namespace Go.Sx
open Go.Dx Go.Proofs
theorem grown_low {α : Type} {m0 m : M} {v : Value} {e : Nat} {f : α → List Value} {es : List α} (h : Grown m0 m v e f es) : ∀ B, blk v = some B → m0.n ≤ B ∧ B < m.n := by
  rcases h with ⟨_, rfl⟩ | ⟨B', h1, h2, _, rfl, _⟩
  · intro B hB; cases hB
  · intro B hB; cases hB; exact ⟨h1, h2⟩
/-- what a laid-out cycle reads as -/
structure LF (m1 : M) (PB A5 A6 A7 c1 : Nat) (ed ec md : Value) (es : List (Int × Int)) (ms : List Int) (TH CE VA : Nat → Nat) : Prop where
  lP : PB < m1.n
  l5 : A5 < m1.n
  l6 : A6 < m1.n
  l7 : A7 < m1.n
  lc : c1 < m1.n
  p0 : load1 m1 ⟨PB, 0, none⟩ = some ed
  p5 : load1 m1 ⟨PB, 5, none⟩ = some (.slice (some ⟨A5, 0, some 3⟩) es.length es.length)
  p6 : load1 m1 ⟨PB, 6, none⟩ = some (.slice (some ⟨A6, 0, some 3⟩) es.length es.length)
  p7 : load1 m1 ⟨PB, 7, none⟩ = some (.slice (some ⟨A7, 0, some 3⟩) es.length es.length)
  a5 : ∀ i, i < es.length → load1 m1 ⟨A5, i, none⟩ = some (iv (TH i))
  a6 : ∀ i, i < es.length → load1 m1 ⟨A6, i, none⟩ = some (iv (CE i))
  a7 : ∀ i, i < es.length → load1 m1 ⟨A7, i, none⟩ = some (iv (VA i))
  hed : Rd m1 ed 2 edgeRow es
  c1m : load1 m1 ⟨c1, 1, none⟩ = some md
  hmd : Rd m1 md 1 modeRow ms
  small : ∀ i, VA i < 1000000
theorem LF.sees {m1 m : M} {PB A5 A6 A7 c1 : Nat} {ed ec md : Value} {es : List (Int × Int)} {ms : List Int} {TH CE VA : Nat → Nat} (h : LF m1 PB A5 A6 A7 c1 ed ec md es ms TH CE VA) (k : Sees m1 m) : LF m PB A5 A6 A7 c1 ed ec md es ms TH CE VA := by
  have hn := k.n
  exact ⟨Nat.lt_of_lt_of_le h.lP hn, Nat.lt_of_lt_of_le h.l5 hn, Nat.lt_of_lt_of_le h.l6 hn, Nat.lt_of_lt_of_le h.l7 hn, Nat.lt_of_lt_of_le h.lc hn, (load1_sees k h.lP).trans h.p0, (load1_sees k h.lP).trans h.p5, (load1_sees k h.lP).trans h.p6, (load1_sees k h.lP).trans h.p7,
    fun i hi => (load1_sees k h.l5).trans (h.a5 i hi), fun i hi => (load1_sees k h.l6).trans (h.a6 i hi), fun i hi => (load1_sees k h.l7).trans (h.a7 i hi), h.hed.sees k, (load1_sees k h.lc).trans h.c1m, h.hmd.sees k, h.small⟩
def fenE (es : List (Int × Int)) (i : Nat) : Int := (eAt es (ahN es.length i)).2
/-- what lay leaves, event by event -/
structure LayLaw (es : List (Int × Int)) (va : List Nat) (TH CE VA WR : Nat → Nat) : Prop where
  th : ∀ i, i < es.length → (lays es (es.length - cnt es) (ordL es (begE es))).th[i]? = some (TH i)
  tl : ∀ i, i < es.length → TH i < cnt es
  ce : ∀ i, i < es.length → (lays es (es.length - cnt es) (ordL es (begE es))).ce[i]? = some (CE i)
  va : ∀ i, i < es.length → va[i]? = some (VA i)
  wr : ∀ x, x < es.length - cnt es → (lays es (es.length - cnt es) (ordL es (begE es))).wr[x]? = some (WR x)
  vs : ∀ i, VA i < 1000000
  ws : ∀ i, WR i < 1000000
theorem _root_.Go.Dx.Rd.okV {α : Type} {m : M} {v : Value} {e : Nat} {f : α → List Value} {es : List α} (h : Rd m v e f es) : Dx.okC v = true := by
  have := h.len
  cases v with
  | slice a n c => rfl
  | _ => cases this
end Go.Sx
