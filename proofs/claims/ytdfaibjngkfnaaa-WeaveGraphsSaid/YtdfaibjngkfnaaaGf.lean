/- Further contracts. -/
import Derived.Test.YtdfaibjngkfnaaaGe
import Derived.Test.YtdfaibjngkfnaaaGb
set_option linter.unusedVariables false
set_option linter.unusedSimpArgs false
set_option linter.defProp false
set_option linter.unusedSimpArgs false
set_option linter.unusedVariables false
namespace Go.Sx
open Go.Dx Go.Proofs
/-- the plan's fence -/
theorem pfence_c (n : Nat) (PB : Nat) (ed : Value) (es : List (Int × Int)) (i : Nat) (hi : i < es.length) (hl : es.length ≤ 1000) (m : M) (hm : m.base ≤ m.n) (hPB : PB < m.n) (hp : load1 m ⟨PB, 0, none⟩ = some ed) (hed : Rd m ed 2 edgeRow es) :
    CallV (ex Try.prog (n + 2)) 40 [.pointer (some ⟨PB, 0, none⟩), iv i] m (iv (eAt es (ahN es.length i)).2) := by
  refine call_ret d_weave_plan_fence_ok (by simp) ?_
  obtain ⟨e, he⟩ : ∃ e, es[ahN es.length i]? = some e := ⟨_, List.getElem?_eq_getElem (ahN_lt hi)⟩
  have ⟨a1, a2, a3⟩ := hed.at he
  have c1 := Call.use (m0 := m) fun m'' h => pahead_c n PB ed es.length i hi hl m'' (by rw [load1_sees h hPB]; exact hp) hed.len
  have hS := Sees.refl hm
  have a4 : ∀ m'', Sees m m'' → load1 m'' ⟨(adr 2 ed (ahN es.length i)).block, (adr 2 ed (ahN es.length i)).off + 1, none⟩ = some (iv e.2) := fun m'' h => a3 m'' 1 none h (by simp [edgeRow])
  have a5 : (eAt es (ahN es.length i)).2 = e.2 := by rw [eAt_of he]
  simp (maxDischargeDepth := 30) [hp, a1, c1, hS, a4, a5]
  exact ret_1 (by simp (maxDischargeDepth := 30) [c1, hS]) (by simp)
/-- the reference's fence -/
theorem Fence_c (n : Nat) (ed md : Value) (es : List (Int × Int)) (hl : es.length ≤ 16) (m : M) (hm : m.base ≤ m.n) (hed : Rd m ed 2 edgeRow es) (i : Nat) (hi : i < es.length) :
    CallV (ex Try.prog (n + 2)) 48 [.agg #[ed, md], iv i] m (iv (eAt es (ahN es.length i)).2) := by
  refine call_ret d_sextantref29_Fence_ok (by simp) ?_
  have hm0 : Sees m (Dx.newRow m [ed, md]) := by simp [Sees.refl hm]
  have hS0 := sees_row0 hm [ed, md]
  have b0 := fun m'' (h : Sees (Dx.newRow m [ed, md]) m'') => (boxS_at (m := m) (l := [ed, md]) h).2
  have bl : ∀ m'', Sees (Dx.newRow m [ed, md]) m'' → loads m'' ⟨m.n, 0, none⟩ 2 = some [ed, md] := fun m'' h => (boxS_at (m := m) (l := [ed, md]) h).1 0 2 none (by simp)
  obtain ⟨e, he⟩ : ∃ e, es[ahN es.length i]? = some e := ⟨_, List.getElem?_eq_getElem (ahN_lt hi)⟩
  have ⟨a1, a2, a3⟩ := (hed.sees hm0).at he
  have c1 := Call.use (m0 := Dx.newRow m [ed, md]) fun m'' _ => ahead_c n ed md es.length i hi (by omega) hed.len m''
  have a4 : ∀ m'', Sees (Dx.newRow m [ed, md]) m'' → load1 m'' ⟨(adr 2 ed (ahN es.length i)).block, (adr 2 ed (ahN es.length i)).off + 1, none⟩ = some (iv e.2) := fun m'' h => a3 m'' 1 none h (by simp [edgeRow])
  have a5 : (eAt es (ahN es.length i)).2 = e.2 := by rw [eAt_of he]
  simp (maxDischargeDepth := 30) [hS0, b0, bl, loadNS_ptr, a1, c1, a4, a5]
  exact ret_1 (by simp (maxDischargeDepth := 30) [c1, hS0]) (by simp)
theorem Cells_c (n : Nat) (ed md : Value) (es : List (Int × Int)) (hl : es.length ≤ 16) (m : M) (hm : m.base ≤ m.n) (hed : Rd m ed 2 edgeRow es) :
    CallV (ex Try.prog (n + 3)) 16 [.agg #[ed, md]] m (iv (es.length - cnt es : Nat)) := by
  refine call_ret d_sextantref29_Cells_ok (by simp) ?_
  have hm0 : Sees m (Dx.newRow m [ed, md]) := by simp [Sees.refl hm]
  have hS0 := sees_row0 hm [ed, md]
  have bl : ∀ m'', Sees (Dx.newRow m [ed, md]) m'' → loads m'' ⟨m.n, 0, none⟩ 2 = some [ed, md] := fun m'' h => (boxS_at (m := m) (l := [ed, md]) h).1 0 2 none (by simp)
  obtain ⟨q, hq⟩ : ∃ q, q = es.length - cnt es := ⟨_, rfl⟩
  have d1 := Call.use (m0 := Dx.newRow m [ed, md]) fun m'' h => count_c n ed md es hl m'' h.base (hed.sees (hm0.trans h))
  rw [← hq] at d1 ⊢
  simp (maxDischargeDepth := 30) [hS0, bl, loadNS_ptr, d1]
  exact ret_1 (by simp (maxDischargeDepth := 30) [hS0, d1]) (by simp)
theorem Threads_c (n : Nat) (ed md : Value) (es : List (Int × Int)) (hl : es.length ≤ 16) (m : M) (hm : m.base ≤ m.n) (hed : Rd m ed 2 edgeRow es) :
    CallV (ex Try.prog (n + 3)) 17 [.agg #[ed, md]] m (iv (cnt es : Nat)) := by
  refine call_ret d_sextantref29_Threads_ok (by simp) ?_
  have hm0 : Sees m (Dx.newRow m [ed, md]) := by simp [Sees.refl hm]
  have hS0 := sees_row0 hm [ed, md]
  have bl : ∀ m'', Sees (Dx.newRow m [ed, md]) m'' → loads m'' ⟨m.n, 0, none⟩ 2 = some [ed, md] := fun m'' h => (boxS_at (m := m) (l := [ed, md]) h).1 0 2 none (by simp)
  obtain ⟨q, hq⟩ : ∃ q, q = es.length - cnt es := ⟨_, rfl⟩
  have d1 := Call.use (m0 := Dx.newRow m [ed, md]) fun m'' h => count_c n ed md es hl m'' h.base (hed.sees (hm0.trans h))
  rw [← hq] at d1
  simp (maxDischargeDepth := 30) [hS0, bl, loadNS_ptr, d1]
  exact ret_1 (by simp (maxDischargeDepth := 30) [hS0, d1]) (by simp)
/-- how many writes of a cell -/
def wrR (es : List (Int × Int)) (b c : Nat) : Nat := (List.range es.length).countP fun i => fromE es i && decide (rankE es b true i = c)
theorem Writes_c (n : Nat) (ed md : Value) (es : List (Int × Int)) (hl : es.length ≤ 16) (m : M) (hm : m.base ≤ m.n) (hed : Rd m ed 2 edgeRow es) (b : Nat) (hb : first es.length (begP es) = some b) (c : Nat) :
    CallV (ex Try.prog (n + 6)) 18 [.agg #[ed, md], iv c] m (iv (wrR es b c)) := by
  refine call_ret d_sextantref29_Writes_ok (by simp) ?_
  have hm0 : Sees m (Dx.newRow m [ed, md]) := by simp [Sees.refl hm]
  have hel := hed.len
  simp
  refine loop_run (c := c_sextantref29_Writes_8) rfl (Ret m _) (fun i t m' => Tm.get 1 t = iv c ∧ Tm.get 2 t = .pointer (some ⟨m.n, 0, none⟩) ∧ Tm.get 5 t = iv ((List.range i).countP fun i => fromE es i && decide (rankE es b true i = c)) ∧ Tm.get 6 t = iv i ∧ Ext m m' ∧ Sees (Dx.newRow m [ed, md]) m') es.length (by omega)
    ⟨by simp, by simp, by simp, by simp, by simp, sees_row0 hm _⟩ (fun i t m' k hi hI hk => ?_)
  obtain ⟨h1, h2, h5, h6, hE, hS⟩ := hI
  have b0 := fun m'' (h : Sees m' m'') => (boxS_at (m := m) (l := [ed, md]) (hS.trans h)).2
  have bl : ∀ m'', Sees m' m'' → loads m'' ⟨m.n, 0, none⟩ 2 = some [ed, md] := fun m'' h => (boxS_at (m := m) (l := [ed, md]) (hS.trans h)).1 0 2 none (by simp)
  have hS' := hS.self
  obtain ⟨q, hq⟩ : ∃ q, q = (List.range i).countP fun i => fromE es i && decide (rankE es b true i = c) := ⟨_, rfl⟩
  rw [← hq] at h5
  have hqi : q ≤ i := by rw [hq]; have := List.countP_le_length (p := fun i => fromE es i && decide (rankE es b true i = c)) (l := List.range i); simpa using this
  by_cases hil : i < es.length
  · obtain ⟨e, he⟩ : ∃ e, es[i]? = some e := ⟨_, List.getElem?_eq_getElem hil⟩
    have hfx : fromE es i = fromI e.1 := by unfold fromE; rw [eAt_of he]
    have ⟨a1, a2, a3⟩ := (hed.sees (m' := m') (hm0.trans hS)).at he
    have a4 : ∀ m'', Sees m' m'' → load1 m'' ⟨(adr 2 ed i).block, (adr 2 ed i).off, none⟩ = some (iv e.1) := fun m'' h => a3 m'' 0 none h (by simp [edgeRow])
    have hd := dlt hil
    have w1 := nextI (i := i) (by omega)
    have w2 := nextI (i := q) (by omega)
    obtain ⟨C, hC⟩ : ∃ C, C = rankE es b true i := ⟨_, rfl⟩
    have hsucc : (List.range (i + 1)).countP (fun i => fromE es i && decide (rankE es b true i = c)) = q + if fromI e.1 = true ∧ C = c then 1 else 0 := by
      rw [List.range_succ, List.countP_append, ← hq]; simp [hfx, ← hC]
    obtain ⟨v1, m1, g1, g2, rfl⟩ := From_c (n + 4) e.1 m'
    have hS1 := hS'.ext g2
    obtain ⟨v2, m2, p1, p2, hv2⟩ := Cell_c n ed md es hl m1 hS1.base (hed.sees (hm0.trans (hS.trans hS1))) b hb i hil _ (rankE_ok hil)
    rw [← hC] at hv2
    subst hv2
    have b1 := b0 m1 hS1
    have bl1 := bl m1 hS1
    cases hf : fromI e.1 with
    | false =>
      rw [hf] at hsucc
      simp [h1, h2, h5, h6, hd, hel, b0, hS', a1, a4, g1, hf, w1]
      refine hk hil _ _ ?_
      exact ⟨by simp [h1], by simp [h2], by rw [hsucc]; simp [h5], by simp, hE.trans g2, hS.trans hS1⟩
    | true =>
      rw [hf] at hsucc
      by_cases e' : C = c
      · subst e'
        simp [h1, h2, h5, h6, hd, hel, b0, hS', a1, a4, g1, hf, w1, w2, bl1, loadNS_ptr, p1]
        refine hk hil _ _ ?_
        exact ⟨by simp [h1], by simp [h2], by rw [hsucc]; simp, by simp, (hE.trans g2).trans p2, (hS.trans hS1).ext p2⟩
      · have e2 : ((C : Int) = (c : Int)) = False := eq_false (by omega)
        simp [h1, h2, h5, h6, hd, hel, b0, hS', a1, a4, g1, hf, w1, w2, bl1, loadNS_ptr, p1, e2]
        refine hk hil _ _ ?_
        exact ⟨by simp [h1], by simp [h2], by rw [hsucc]; simp [h5, e'], by simp, (hE.trans g2).trans p2, (hS.trans hS1).ext p2⟩
  obtain rfl : i = es.length := by omega
  have hd : ((es.length : Int) < (es.length : Int)) = False := eq_false (by omega)
  simp [h1, h2, h5, h6, hd, hel, b0, hS']
  refine ret_1 hE ?_
  unfold wrR; rw [← hq]; simp
end Go.Sx

set_option linter.unusedSimpArgs false
set_option linter.unusedVariables false
namespace Go.Sx
open Go.Dx Go.Proofs
/-- so many steps back -/
def back (len : Nat) : Nat → Nat → Nat
  | 0, i => i
  | k + 1, i => ahN len (back len k i)
theorem back_lt {len i : Nat} (h : i < len) : ∀ k, back len k i < len
  | 0 => h
  | k + 1 => ahN_lt (back_lt h k)
/-- d steps back by outer edges, and an inner one ahead of that -/
structure Stop (es : List (Int × Int)) (i d : Nat) : Prop where
  out : ∀ j, j < d → outAt es (ahN es.length (back es.length j i)) = true
  inn : outAt es (ahN es.length (back es.length d i)) = false
  le : d ≤ 1000
/-- how many writes on the way back -/
def bw (es : List (Int × Int)) (i d : Nat) : Nat := (List.range d).countP fun t => fromE es (back es.length (t + 1) i)
theorem bw_succ (es : List (Int × Int)) (i d : Nat) : bw es i (d + 1) = bw es i d + if fromE es (back es.length (d + 1) i) then 1 else 0 := by
  unfold bw; rw [List.range_succ, List.countP_append]; simp
theorem bw_le (es : List (Int × Int)) (i d : Nat) : bw es i d ≤ d := by
  unfold bw; have := List.countP_le_length (p := fun t => fromE es (back es.length (t + 1) i)) (l := List.range d); simpa using this
theorem ValueW_c (n : Nat) (ed md : Value) (es : List (Int × Int)) (hl : es.length ≤ 16) (m : M) (hm : m.base ≤ m.n) (hed : Rd m ed 2 edgeRow es) (i : Nat) (hi : i < es.length) (hf : fromE es i = true) (d : Nat) (hd : Stop es i d) :
    CallV (ex Try.prog (n + 2)) 50 [.agg #[ed, md], iv i] m (iv (1 + bw es i d : Nat)) := by
  refine call_ret d_sextantref29_Value_ok (by simp) ?_
  have hm0 : Sees m (Dx.newRow m [ed, md]) := by simp [Sees.refl hm]
  have hS0 := sees_row0 hm [ed, md]
  have hel := hed.len
  obtain ⟨m1, hm1⟩ : ∃ m1, m1 = Dx.newRow m [ed, md] := ⟨_, rfl⟩
  have E1 : Ext m m1 := by rw [hm1]; exact Ext.row _ _
  have b0 : ∀ m'', Sees m1 m'' → ∀ o s, load1 m'' ⟨m.n, o, s⟩ = [ed, md][o]? := fun m'' h => (boxS_at (m := m) (l := [ed, md]) (by rw [← hm1]; exact h)).2
  have bl : ∀ m'', Sees m1 m'' → loads m'' ⟨m.n, 0, none⟩ 2 = some [ed, md] := fun m'' h => (boxS_at (m := m) (l := [ed, md]) (by rw [← hm1]; exact h)).1 0 2 none (by simp)
  rw [← hm1] at hm0 hS0
  obtain ⟨e, he⟩ : ∃ e, es[i]? = some e := ⟨_, List.getElem?_eq_getElem hi⟩
  have hfx : fromE es i = fromI e.1 := by unfold fromE; rw [eAt_of he]
  have ⟨a1, a2, a3⟩ := (hed.sees hm0).at he
  have a4 : ∀ m'', Sees m1 m'' → load1 m'' ⟨(adr 2 ed i).block, (adr 2 ed i).off, none⟩ = some (iv e.1) := fun m'' h => a3 m'' 0 none h (by simp [edgeRow])
  obtain ⟨v2, m2, p1, p2, rfl⟩ := ahead_c n ed md es.length i hi (by omega) hel m1
  have hS2 := hS0.ext p2
  obtain ⟨v3, m3, g1, g2, rfl⟩ := From_c n e.1 m2
  rw [← hfx, hf] at g1
  have hS3 := hS2.ext g2
  have w0 : IntKind.i64.wrap 1 = 1 := rfl
  simp [← hm1, bl, b0, hS0, hS2, loadNS_ptr, p1, a1, a4, g1]
  refine loop_run (c := c_sextantref29_Value_15) rfl (Ret m _) (fun j t m' => j ≤ d ∧ Tm.get 1 t = iv (back es.length j i) ∧ Tm.get 2 t = .pointer (some ⟨m.n, 0, none⟩) ∧ Tm.get 6 t = iv (1 + bw es i j : Nat) ∧ Ext m m' ∧ Sees m1 m') (d + 1) (by have := hd.le; omega)
    ⟨by omega, by simp [back], by simp, by simp [bw], (E1.trans p2).trans g2, hS3⟩ (fun j t m' k hj hI hk => ?_)
  obtain ⟨hjd, h1, h2, h6, hE, hS⟩ := hI
  have hS' := hS.self
  obtain ⟨x, hx⟩ : ∃ x, x = back es.length j i := ⟨_, rfl⟩
  have hxl : x < es.length := by rw [hx]; exact back_lt hi j
  rw [← hx] at h1
  obtain ⟨y, hy⟩ : ∃ y, y = ahN es.length x := ⟨_, rfl⟩
  have hyl : y < es.length := by rw [hy]; exact ahN_lt hxl
  obtain ⟨f, hf'⟩ : ∃ e, es[y]? = some e := ⟨_, List.getElem?_eq_getElem hyl⟩
  have ⟨u1, u2, u3⟩ := (hed.sees (m' := m') (hm0.trans hS)).at hf'
  have u2' : ∀ m'', Sees m' m'' → loads m'' (adr 2 ed y) 2 = some [iv f.1, iv f.2] := u2
  have u4 : ∀ m'', Sees m' m'' → load1 m'' ⟨(adr 2 ed y).block, (adr 2 ed y).off, none⟩ = some (iv f.1) := fun m'' h => u3 m'' 0 none h (by simp [edgeRow])
  have c1 := Call.use (m0 := m') fun m'' _ => by have := ahead_c n ed md es.length x hxl (by omega) hel m''; rwa [← hy] at this
  have c2 := Call.use (m0 := m') fun m'' _ => Outer_c n f.1 f.2 m''
  have b0' := fun m'' (h : Sees m' m'') => b0 m'' (hS.trans h)
  have bl' := fun m'' (h : Sees m' m'') => bl m'' (hS.trans h)
  have ho := outer_out hf'
  obtain ⟨q, hq⟩ : ∃ q, q = 1 + bw es i j := ⟨_, rfl⟩
  have hq1000 : q ≤ 1001 := by have := bw_le es i j; have := hd.le; omega
  rw [← hq] at h6
  simp (maxDischargeDepth := 30) [h1, h2, h6, b0', bl', hS', loadNS_ptr, c1, c2, u1, u2', ho]
  obtain ⟨m4, hm4⟩ : ∃ m4, m4 = behind m' (aft (ex Try.prog (n + 1)) 73 [Value.agg #[iv f.1, iv f.2]] (forAny (behind m' (aft (ex Try.prog (n + 1)) 74 [Value.agg #[ed, md], iv x] (forAny m'))))) := ⟨_, rfl⟩
  cases ho' : outAt es y with
  | false =>
    have hjd' : j = d := by
      rcases Nat.lt_or_ge j d with h | h
      · have := hd.out j h; rw [← hx, ← hy, ho'] at this; cases this
      · omega
    simp [h6]
    refine ret_1 (by simp (maxDischargeDepth := 30) [hE, hS', c1, c2]) ?_
    simp [hq, hjd']
  | true =>
    have hjd' : j < d := by
      rcases Nat.lt_or_ge j d with h | h
      · exact h
      · have : j = d := by omega
        subst this
        have := hd.inn; rw [← hx, ← hy, ho'] at this; cases this
    have hb : back es.length (j + 1) i = y := by show ahN es.length (back es.length j i) = y; rw [← hx, hy]
    have hfy : fromE es y = fromI f.1 := by unfold fromE; rw [eAt_of hf']
    have hsucc := bw_succ es i j
    rw [hb, hfy] at hsucc
    have c3 := Call.use (m0 := m') fun m'' _ => From_c n f.1 m''
    have w2 : IntKind.i64.wrap ((q : Int) + 1) = ((q + 1 : Nat) : Int) := nextI (by omega)
    simp (maxDischargeDepth := 30) [h1, h2, h6, b0', bl', hS', loadNS_ptr, c1, c2, c3, u1, u4]
    cases hff : fromI f.1 with
    | true =>
      rw [hff] at hsucc
      simp [h6, w2]
      refine hk (by omega) _ _ ?_
      exact ⟨by omega, by rw [hb]; simp, by simp [h2], by rw [hsucc, show 1 + (bw es i j + if true = true then 1 else 0) = q + 1 by rw [hq]; simp; omega]; simp, by simp (maxDischargeDepth := 30) [hE, hS', c1, c2, c3], by simp (maxDischargeDepth := 30) [hS, hS', c1, c2, c3]⟩
    | false =>
      rw [hff] at hsucc
      simp
      refine hk (by omega) _ _ ?_
      exact ⟨by omega, by rw [hb]; simp, by simp [h2], by rw [hsucc, show 1 + (bw es i j + if false = true then 1 else 0) = q by rw [hq]; simp]; simp [h6], by simp (maxDischargeDepth := 30) [hE, hS', c1, c2, c3], by simp (maxDischargeDepth := 30) [hS, hS', c1, c2, c3]⟩
/-- an event's value -/
def vRef (es : List (Int × Int)) (V : Nat → Nat) (i : Nat) : Nat := if fromE es i then V i else if (eAt es (ahN es.length i)).1 = 1 then V (ahN es.length i) else 0
theorem Value_c (n : Nat) (ed md : Value) (es : List (Int × Int)) (hl : es.length ≤ 16) (m : M) (hm : m.base ≤ m.n) (hed : Rd m ed 2 edgeRow es) (V : Nat → Nat) (hV : ∀ i, i < es.length → fromE es i = true → ∃ d, Stop es i d ∧ V i = 1 + bw es i d) (i : Nat) (hi : i < es.length) :
    CallV (ex Try.prog (n + 3)) 50 [.agg #[ed, md], iv i] m (iv (vRef es V i)) := by
  by_cases hf : fromE es i = true
  · obtain ⟨d, hd, e⟩ := hV i hi hf
    have := ValueW_c (n + 1) ed md es hl m hm hed i hi hf d hd
    rwa [show vRef es V i = 1 + bw es i d by unfold vRef; rw [if_pos hf, e]]
  have hf0 : fromE es i = false := by simpa using hf
  refine call_ret d_sextantref29_Value_ok (by simp) ?_
  have hm0 : Sees m (Dx.newRow m [ed, md]) := by simp [Sees.refl hm]
  have hS0 := sees_row0 hm [ed, md]
  have hel := hed.len
  obtain ⟨m1, hm1⟩ : ∃ m1, m1 = Dx.newRow m [ed, md] := ⟨_, rfl⟩
  have E1 : Ext m m1 := by rw [hm1]; exact Ext.row _ _
  have b0 : ∀ m'', Sees m1 m'' → ∀ o s, load1 m'' ⟨m.n, o, s⟩ = [ed, md][o]? := fun m'' h => (boxS_at (m := m) (l := [ed, md]) (by rw [← hm1]; exact h)).2
  have bl : ∀ m'', Sees m1 m'' → loads m'' ⟨m.n, 0, none⟩ 2 = some [ed, md] := fun m'' h => (boxS_at (m := m) (l := [ed, md]) (by rw [← hm1]; exact h)).1 0 2 none (by simp)
  rw [← hm1] at hm0 hS0
  obtain ⟨e, he⟩ : ∃ e, es[i]? = some e := ⟨_, List.getElem?_eq_getElem hi⟩
  have hfx : fromE es i = fromI e.1 := by unfold fromE; rw [eAt_of he]
  have ⟨a1, a2, a3⟩ := (hed.sees hm0).at he
  have a4 : ∀ m'', Sees m1 m'' → load1 m'' ⟨(adr 2 ed i).block, (adr 2 ed i).off, none⟩ = some (iv e.1) := fun m'' h => a3 m'' 0 none h (by simp [edgeRow])
  obtain ⟨y, hy⟩ : ∃ y, y = ahN es.length i := ⟨_, rfl⟩
  have hyl : y < es.length := by rw [hy]; exact ahN_lt hi
  obtain ⟨f, hf'⟩ : ∃ e, es[y]? = some e := ⟨_, List.getElem?_eq_getElem hyl⟩
  have ⟨u1, u2, u3⟩ := (hed.sees hm0).at hf'
  have u4 : ∀ m'', Sees m1 m'' → load1 m'' ⟨(adr 2 ed y).block, (adr 2 ed y).off, none⟩ = some (iv f.1) := fun m'' h => u3 m'' 0 none h (by simp [edgeRow])
  obtain ⟨v2, m2, p1, p2, rfl⟩ := ahead_c (n + 1) ed md es.length i hi (by omega) hel m1
  rw [← hy] at p1
  have hS2 := hS0.ext p2
  obtain ⟨v3, m3, g1, g2, rfl⟩ := From_c (n + 1) e.1 m2
  rw [← hfx, hf0] at g1
  have hS3 := hS2.ext g2
  have hval : vRef es V i = if f.1 = 1 then V y else 0 := by unfold vRef; rw [if_neg hf, ← hy, eAt_of hf']
  rw [hval]
  by_cases h1 : f.1 = 1
  · have hfy : fromE es y = true := by unfold fromE; rw [eAt_of hf', h1]; rfl
    obtain ⟨d, hd, e⟩ := hV y hyl hfy
    obtain ⟨v4, m4, q1, q2, rfl⟩ := ValueW_c n ed md es hl m3 hS3.base (hed.sees (hm0.trans hS3)) y hyl hfy d hd
    rw [← e] at q1
    simp [← hm1, bl, b0, hS0, hS2, hS3, loadNS_ptr, p1, a1, a4, g1, u1, u4, h1, q1]
    exact ret_1 (((E1.trans p2).trans g2).trans q2) (by simp)
  · simp [← hm1, bl, b0, hS0, hS2, hS3, loadNS_ptr, p1, a1, a4, g1, u1, u4, h1]
    exact ret_1 ((E1.trans p2).trans g2) (by simp)
end Go.Sx

set_option linter.unusedSimpArgs false
set_option linter.unusedVariables false
namespace Go.Dx
/-! ### Rows that lie in made slices -/
def upN {α : Type} (f : Nat → α) (j : Nat) (v : α) : Nat → α := fun k => if k = j then v else f k
theorem upN_same {α : Type} (f : Nat → α) (j : Nat) (v : α) : upN f j v j = v := by unfold upN; rw [if_pos rfl]
theorem upN_ne {α : Type} (f : Nat → α) {j k : Nat} (v : α) (h : k ≠ j) : upN f j v k = f k := by unfold upN; rw [if_neg h]
theorem flat_len {e n : Nat} {f : Nat → List Value} (h : ∀ j, (f j).length = e) : ((List.range n).flatMap f).length = n * e := by
  have := flatMap_len h (List.range n); simpa using this
theorem flat_set {e : Nat} {f g : Nat → List Value} {j o : Nat} {v : Value} (hf : ∀ k, (f k).length = e) (ho : o < e) (hne : ∀ k, k ≠ j → g k = f k) (hj : g j = (f j).set o v) : ∀ n, j < n → ((List.range n).flatMap f).set (j * e + o) v = (List.range n).flatMap g := by
  intro n
  induction n with
  | zero => intro h; omega
  | succ n ih =>
    intro h
    rw [List.range_succ, List.flatMap_append, List.flatMap_append]
    have hl := flat_len (n := n) hf
    by_cases e' : j = n
    · subst e'
      have key : ∀ m, m ≤ j → (List.range m).flatMap g = (List.range m).flatMap f := by
        intro m
        induction m with
        | zero => intro _; rfl
        | succ m im => intro hm; rw [List.range_succ, List.flatMap_append, List.flatMap_append, im (by omega)]; simp [hne m (by omega)]
      rw [key j (Nat.le_refl _), List.set_append_right _ _ (by omega), hl, show j * e + o - j * e = o by omega]
      simp [hj]
    · have hjn : j < n := by omega
      have := Nat.mul_le_mul_right e (Nat.succ_le_of_lt hjn)
      rw [Nat.succ_mul] at this
      rw [List.set_append_left _ _ (by omega), ih hjn]
      simp [hne n (by omega)]
theorem rep_flat (n : Nat) (l : List Value) : rep n l = (List.range n).flatMap fun _ => l := by
  induction n with
  | zero => rfl
  | succ n ih =>
    rw [List.range_succ_eq_map, List.flatMap_cons, List.flatMap_map]
    show l ++ rep n l = _
    rw [ih]
theorem idxE {e c : Nat} (B n i : Nat) (h : i < n) : iaddrSV e (.slice (some ⟨B, 0, some c⟩) n n) (.int .i64 i) = some (.pointer (some ⟨B, i * e, none⟩)) := by
  show (bif Nat.blt i n then addA (i * e) ⟨B, 0, some c⟩ else none) = _
  rw [show Nat.blt i n = true from Nat.ble_eq_true_of_le h]
  show some (Value.pointer (some ⟨B, 0 + i * e, none⟩)) = _
  rw [Nat.zero_add]
theorem rd_made {α : Type} {m : M} {B c e : Nat} {f : α → List Value} (hf : ∀ x, (f x).length = e) {l : List α} (h : Arr m B (l.flatMap f)) (hB : B < m.n) : Rd m (.slice (some ⟨B, 0, some c⟩) l.length l.length) e f l := by
  have hlen := flatMap_len hf l
  refine ⟨rfl, fun i r hr => ?_, ?_, fun C hC => by cases hC; exact hB⟩
  · have hi := (List.getElem?_eq_some_iff.1 hr).1
    refine ⟨?_, hB, ?_⟩
    · rw [idxE B _ i hi]
      show _ = some (Value.pointer (some ⟨B, 0 + i * e, none⟩))
      rw [Nat.zero_add]
    · show loads m ⟨B, 0 + i * e, none⟩ e = _
      have := Nat.mul_le_mul_right e (Nat.succ_le_of_lt hi)
      rw [Nat.succ_mul] at this
      rw [Nat.zero_add, h.loads (by omega), flatMap_get hf l i r hr]
  · show loads m _ (l.length * e) = _
    rw [h.loads (by omega), List.drop_zero, ← hlen, List.take_length]
theorem flat_get {e : Nat} {f : Nat → List Value} (hf : ∀ j, (f j).length = e) {n j o : Nat} (hj : j < n) (ho : o < e) : ((List.range n).flatMap f)[j * e + o]? = (f j)[o]? := by
  have := flatMap_get hf (List.range n) j j (by rw [List.getElem?_range hj])
  have h2 := congrArg (fun l => l[o]?) this
  simp only [List.getElem?_take, ho, if_true, List.getElem?_drop] at h2
  exact h2
theorem mk_rows {n e bytes : Nat} {zs : List Value} (hz : zs.length = e) (h : n ≤ 1000) (hb : bytes ≤ 1000) (he : e ≤ 100) (m : M) : mksliceS e bytes zs (.int .i64 (n : Int)) (.int .i64 (n : Int)) m = some (.slice (some ⟨m.n, 0, some (code e true)⟩) n n, newRow m ((List.range n).flatMap fun _ => zs)) := by
  show (bif Nat.ble n n && Nat.ble (n * bytes) most && Nat.ble n 4611686018427387904 && Nat.ble (n * e) 1048576 then some (Value.slice (some ⟨m.n, 0, some (code e true)⟩) n n, newRow m (rep n zs)) else none) = _
  have h1 : n * bytes ≤ 1000 * 1000 := Nat.mul_le_mul h hb
  have h2 : n * e ≤ 1000 * 100 := Nat.mul_le_mul h he
  rw [Nat.ble_eq_true_of_le (Nat.le_refl n), Nat.ble_eq_true_of_le (by unfold most; omega), Nat.ble_eq_true_of_le (by omega), Nat.ble_eq_true_of_le (by omega), rep_flat]
  rfl
@[simp] theorem pConvI_ap (k : IntKind) (a : V) (t : Tm) : pConvI k a t = convIV k (a t) := _root_.id rfl
@[simp] theorem convI_u64 (x : Nat) (h : x < 1000000) : convIV .u64 (.int .i64 (x : Int)) = some (.int .u64 (x : Int)) := by
  show some (Value.int .u64 (wrapF .u64 (x : Int))) = _
  rw [wrapF_eq]
  have : IntKind.u64.wrap (x : Int) = (x : Int) := by
    unfold IntKind.wrap; simp [IntKind.bits, IntKind.signed]; omega
  rw [this]
end Go.Dx

set_option linter.unusedSimpArgs false
set_option linter.unusedVariables false
namespace Go.Dx
section
variable {m0 m m' : M} {σ σ' : List (Nat × List Value)} {k b : Nat} {l : List Value}
theorem St.sub (h : St m0 m σ) (hs : ∀ p ∈ σ', p ∈ σ) (hn : (σ'.map (·.1)).Nodup) : St m0 m σ' := ⟨h.ext, h.base, fun p hp => h.arr p (hs p hp), hn⟩
theorem Grown.low {α : Type} {m0 m0' m : M} {v : Value} {e : Nat} {f : α → List Value} {es : List α} (h : Grown m0 m v e f es) (hn : m0'.n ≤ m0.n) : Grown m0' m v e f es := by
  rcases h with h | ⟨B, h1, h2⟩
  · exact .inl h
  · exact .inr ⟨B, by omega, h2⟩
/-- a whole block is written, in a region that draws -/
theorem St.fillAny (h : St m0 m σ) (k : Nat) (hk : σ[k]? = some (b, l)) {n : Nat} {l' : List Value} (hn0 : 0 < n) (hl : l.length = n) (hl' : l'.length = n) (hv : ∀ v ∈ l', okC v = true) :
    ∃ m', storeS n (.pointer (some ⟨b, 0, none⟩)) (.agg ⟨l'⟩) (forAny m) = some (undef, m') ∧ m'.log = [b] ∧ St m0 (Dx.behind m m') (σ.set k (b, l')) ∧ (Dx.behind m m').n = m.n ∧ (∀ X, X ≠ b → (Dx.behind m m').obj X = m.obj X) := by
  obtain ⟨h1, h2, h3⟩ := h.get k hk
  have h3' : Arr (forAny m) b l := h3.congr (forAny_obj m b)
  have e := storeS_arr (n := n) (o := 0) (v := .agg ⟨l'⟩) (l := l') h3' rfl hl' (by omega) hv
  obtain ⟨s1, s2, s3, s4, s5, s6⟩ := stores_putN (o := 0) (l := l') h3' (by omega) hv
  rw [over_fill (by omega)] at s2
  have hlog : (putN (forAny m) b 0 l').log = [b] := by
    obtain ⟨c, hc, hcl⟩ := h3'
    obtain ⟨v0, vs, rfl⟩ : ∃ v0 vs, l' = v0 :: vs := by
      cases l' with
      | nil => simp at hl'; omega
      | cons a b => exact ⟨a, b, rfl⟩
    have : ∃ c', stores (forAny m) ⟨b, 0, none⟩ (v0 :: vs) = some ((forAny m).put b (.cells c')) := by
      have hs : stores (forAny m) ⟨b, 0, none⟩ (v0 :: vs) = ob (oCells ((forAny m).obj b)) fun c => ob (stn c 0 (v0 :: vs)) fun c' => some ((forAny m).put b (.cells c')) := rfl
      rw [hs, hc]
      obtain ⟨c', e', _⟩ := stn_of (vs := v0 :: vs) (o := 0) hcl (by omega) hv
      exact ⟨c', by show ob (stn c 0 (v0 :: vs)) _ = _; rw [e']; rfl⟩
    obtain ⟨c', e'⟩ := this
    have hp : putN (forAny m) b 0 (v0 :: vs) = (forAny m).put b (.cells c') := by unfold putN; rw [e']; rfl
    rw [hp]
    cases m with | mk a nx bs wl =>
    show note nx b [] = [b]
    have h2' : b < nx := h2
    unfold note
    have : Nat.ble nx b = false := by
      cases q : Nat.ble nx b with
      | false => rfl
      | true => exact absurd (Nat.le_of_ble_eq_true q) (by omega)
    rw [this]; rfl
  refine ⟨_, e, hlog, h.put' k hk (by rw [behind_n, s3, forAny_n]) (behind_base _ _) ?_ (fun X hX => by rw [behind_obj, s5 X hX, forAny_obj]) (s2.congr (behind_obj _ _ _)), by rw [behind_n, s3, forAny_n], fun X hX => by rw [behind_obj, s5 X hX, forAny_obj]⟩
  rw [behind_log, hlog]
  refine notes_ge fun B hB => ?_
  rw [List.mem_singleton.1 hB, h.ext.base]
  have := h.base
  omega
end
end Go.Dx
namespace Go.Dx
@[simp] theorem eqFV_ap (neg : Bool) (ks : List Nat) (a b : List Value) : eqFV neg ks (.agg ⟨a⟩) (.agg ⟨b⟩) = ob (eqFlat ks a b) fun r => some (.bool (bif neg then !r else r)) := _root_.id rfl
theorem eqFlat_int (ks : List Nat) (k : IntKind) (x : Int) (l r : List Value) : eqFlat (1 :: ks) (.int k x :: l) (.int k x :: r) = eqFlat ks l r := by
  have h : eqK 1 (.int k x) (.int k x) = some true := by
    show (bif Nat.beq (ik k) (ik k) then some (eqI x x) else none) = _
    rw [Nat.beq_refl, eqI_eq]; simp
  show ob (eqK 1 (.int k x) (.int k x)) _ = _
  rw [h]; rfl
theorem eqFlat_nil (l r : List Value) : eqFlat [] l r = some true := rfl
end Go.Dx
namespace Go.Sx
open Go.Dx Go.Proofs
theorem grown_low {α : Type} {m0 m : M} {v : Value} {e : Nat} {f : α → List Value} {es : List α} (h : Grown m0 m v e f es) : ∀ B, blk v = some B → m0.n ≤ B ∧ B < m.n := by
  rcases h with ⟨_, rfl⟩ | ⟨B', h1, h2, _, rfl, _⟩
  · intro B hB; cases hB
  · intro B hB; cases hB; exact ⟨h1, h2⟩
/-- what a laid-out cycle reads as -/
structure LF (m1 : M) (PB A5 A6 A7 c1 : Nat) (ed ec md : Value) (es : List (Int × Int)) (ms : List Int) (TH CE VA : Nat → Nat) : Prop where
  lP : PB < m1.n
  l5 : A5 < m1.n
  l6 : A6 < m1.n
  l7 : A7 < m1.n
  lc : c1 < m1.n
  p0 : load1 m1 ⟨PB, 0, none⟩ = some ed
  p5 : load1 m1 ⟨PB, 5, none⟩ = some (.slice (some ⟨A5, 0, some 3⟩) es.length es.length)
  p6 : load1 m1 ⟨PB, 6, none⟩ = some (.slice (some ⟨A6, 0, some 3⟩) es.length es.length)
  p7 : load1 m1 ⟨PB, 7, none⟩ = some (.slice (some ⟨A7, 0, some 3⟩) es.length es.length)
  a5 : ∀ i, i < es.length → load1 m1 ⟨A5, i, none⟩ = some (iv (TH i))
  a6 : ∀ i, i < es.length → load1 m1 ⟨A6, i, none⟩ = some (iv (CE i))
  a7 : ∀ i, i < es.length → load1 m1 ⟨A7, i, none⟩ = some (iv (VA i))
  hed : Rd m1 ed 2 edgeRow es
  c1m : load1 m1 ⟨c1, 1, none⟩ = some md
  hmd : Rd m1 md 1 modeRow ms
  small : ∀ i, VA i < 1000000
theorem LF.sees {m1 m : M} {PB A5 A6 A7 c1 : Nat} {ed ec md : Value} {es : List (Int × Int)} {ms : List Int} {TH CE VA : Nat → Nat} (h : LF m1 PB A5 A6 A7 c1 ed ec md es ms TH CE VA) (k : Sees m1 m) : LF m PB A5 A6 A7 c1 ed ec md es ms TH CE VA := by
  have hn := k.n
  exact ⟨Nat.lt_of_lt_of_le h.lP hn, Nat.lt_of_lt_of_le h.l5 hn, Nat.lt_of_lt_of_le h.l6 hn, Nat.lt_of_lt_of_le h.l7 hn, Nat.lt_of_lt_of_le h.lc hn, (load1_sees k h.lP).trans h.p0, (load1_sees k h.lP).trans h.p5, (load1_sees k h.lP).trans h.p6, (load1_sees k h.lP).trans h.p7,
    fun i hi => (load1_sees k h.l5).trans (h.a5 i hi), fun i hi => (load1_sees k h.l6).trans (h.a6 i hi), fun i hi => (load1_sees k h.l7).trans (h.a7 i hi), h.hed.sees k, (load1_sees k h.lc).trans h.c1m, h.hmd.sees k, h.small⟩
def fenE (es : List (Int × Int)) (i : Nat) : Int := (eAt es (ahN es.length i)).2
/-- what lay leaves, event by event -/
structure LayLaw (es : List (Int × Int)) (va : List Nat) (TH CE VA WR : Nat → Nat) : Prop where
  th : ∀ i, i < es.length → (lays es (es.length - cnt es) (ordL es (begE es))).th[i]? = some (TH i)
  tl : ∀ i, i < es.length → TH i < cnt es
  ce : ∀ i, i < es.length → (lays es (es.length - cnt es) (ordL es (begE es))).ce[i]? = some (CE i)
  va : ∀ i, i < es.length → va[i]? = some (VA i)
  wr : ∀ x, x < es.length - cnt es → (lays es (es.length - cnt es) (ordL es (begE es))).wr[x]? = some (WR x)
  vs : ∀ i, VA i < 1000000
  ws : ∀ i, WR i < 1000000
theorem _root_.Go.Dx.Rd.okV {α : Type} {m : M} {v : Value} {e : Nat} {f : α → List Value} {es : List α} (h : Rd m v e f es) : Dx.okC v = true := by
  have := h.len
  cases v with
  | slice a n c => rfl
  | _ => cases this
end Go.Sx

set_option linter.unusedSimpArgs false
set_option linter.unusedVariables false
namespace Go.Sx
open Go.Dx Go.Proofs
section
variable {es : List (Int × Int)} {b : Nat}
/-- a class that steps by at most one: its rank is its number -/
theorem rank_class' {N : Nat} (cl : Nat → Nat) (hcl0 : cl 0 = 0) (hst : ∀ k, cl k ≤ cl (k + 1) ∧ cl (k + 1) ≤ cl k + 1) (R ρ : Nat → Nat) (hR : ∀ k, k < es.length → R (pos es b k) = ρ (cl k)) (hρ : ∀ c d, c < N → d < N → ρ c = ρ d → c = d) {c s : Nat} (hc0 : 0 < c) (hcN : c < N) (hsn : s < es.length) (hs : cl s = c) (hsf : ∀ j, j < s → cl j < c) :
    ∀ (d j : Nat), j + d = s → rankL R (ρ c) ((ordL es b).drop j) ((List.range (if j = 0 then 0 else cl (j - 1) + 1)).map ρ) = some c := by
  intro d
  induction d with
  | zero =>
    intro j hj
    have : j = s := by omega
    subst this
    have h0 : j ≠ 0 := by rintro rfl; omega
    rw [ordL_drop hsn, rankL, if_pos (by rw [hR _ hsn, hs]), if_neg h0]
    have h1 := hsf (j - 1) (by omega)
    have h2 := (hst (j - 1)).2
    rw [show j - 1 + 1 = j by omega] at h2
    simp; omega
  | succ d ih =>
    intro j hj
    have hjn : j < es.length := by omega
    have hjc := hsf j (by omega)
    have hRj : R (pos es b j) = ρ (cl j) := hR _ hjn
    rw [ordL_drop hjn, rankL, if_neg (by rw [hRj]; intro h; have := hρ _ _ (by omega) hcN h; omega), hRj]
    have hnext := ih (j + 1) (by omega)
    rw [if_neg (by omega), Nat.add_sub_cancel] at hnext
    have key : (if ((List.range (if j = 0 then 0 else cl (j - 1) + 1)).map ρ).contains (ρ (cl j)) then (List.range (if j = 0 then 0 else cl (j - 1) + 1)).map ρ else (List.range (if j = 0 then 0 else cl (j - 1) + 1)).map ρ ++ [ρ (cl j)]) = (List.range (cl j + 1)).map ρ := by
      by_cases h0 : j = 0
      · subst h0
        simp [hcl0]
      · rw [if_neg h0]
        have h2 := hst (j - 1)
        rw [show j - 1 + 1 = j by omega] at h2
        by_cases he : cl j = cl (j - 1)
        · rw [if_pos (by simp; exact ⟨cl j, by omega, rfl⟩), he]
        · have e : cl j = cl (j - 1) + 1 := by omega
          rw [if_neg, e, List.range_succ (n := cl (j - 1) + 1), List.map_append]
          · rfl
          · simp
            intro x hx h
            have := hρ _ _ (by omega) (by omega) h
            omega
    rw [key]; exact hnext
/-- how many outer edges lie ahead of a place -/
def oc (es : List (Int × Int)) (b : Nat) : Nat → Nat
  | 0 => 0
  | k + 1 => oc es b k + if outAt es (pos es b k) then 1 else 0
theorem oc_step (k : Nat) : oc es b k ≤ oc es b (k + 1) ∧ oc es b (k + 1) ≤ oc es b k + 1 := by show _ ≤ oc es b k + _ ∧ oc es b k + _ ≤ _; split <;> omega
theorem oc_ic (k : Nat) : oc es b k + ic es b k = k := by
  induction k with
  | zero => rfl
  | succ k ih =>
    have e1 : oc es b (k + 1) = oc es b k + if outAt es (pos es b k) then 1 else 0 := rfl
    have e2 : ic es b (k + 1) = ic es b k + if outAt es (pos es b k) then 0 else 1 := rfl
    rw [e1, e2]; split <;> omega
theorem oc_mono {i j : Nat} (h : i ≤ j) : oc es b i ≤ oc es b j := by
  induction j with
  | zero => have : i = 0 := by omega
            subst this; exact Nat.le_refl _
  | succ j ih =>
    rcases Nat.lt_or_ge i (j + 1) with h' | h'
    · exact Nat.le_trans (ih (by omega)) (oc_step j).1
    · have : i = j + 1 := by omega
      subst this; exact Nat.le_refl _
theorem oc_first : ∀ (m c : Nat), c ≤ oc es b m → ∃ s, s ≤ m ∧ oc es b s = c ∧ ∀ j, j < s → oc es b j < c
  | 0, c, h => ⟨0, Nat.le_refl _, by have : oc es b 0 = 0 := rfl; omega, fun j hj => by omega⟩
  | m + 1, c, h => by
    by_cases h1 : c ≤ oc es b m
    · obtain ⟨s, a, b', c'⟩ := oc_first m c h1
      exact ⟨s, by omega, b', c'⟩
    · have := (oc_step (es := es) (b := b) m).2
      exact ⟨m + 1, Nat.le_refl _, by omega, fun j hj => by have := oc_mono (es := es) (b := b) (show j ≤ m by omega); omega⟩
theorem oc_flat {i j k : Nat} (h : oc es b i = oc es b k) (h1 : i ≤ j) (h2 : j < k) : outAt es (pos es b j) = false := by
  have a := oc_mono (es := es) (b := b) h1
  have c := oc_mono (es := es) (b := b) (show j + 1 ≤ k by omega)
  have e : oc es b (j + 1) = oc es b j + if outAt es (pos es b j) then 1 else 0 := rfl
  cases ho : outAt es (pos es b j) with
  | false => rfl
  | true => rw [ho] at e; simp at e; omega
theorem oc_jump {j : Nat} (h : oc es b j < oc es b (j + 1)) : outAt es (pos es b j) = true := by
  have e : oc es b (j + 1) = oc es b j + if outAt es (pos es b j) then 1 else 0 := rfl
  cases ho : outAt es (pos es b j) with
  | false => rw [ho] at e; simp at e; omega
  | true => rfl
/-- the reference's thread of an event, by its place -/
theorem thread_at (hb : b < es.length) (hlast : outAt es (pos es b (es.length - 1)) = true) {k : Nat} (hk : k < es.length) : rankE es b false (pos es b k) = oc es b k ∧ oc es b k < cnt es := by
  have hn : 0 < es.length := by omega
  have hcl : cnt es ≤ es.length := by unfold cnt; exact List.countP_le_length
  have hall : oc es b es.length = cnt es := by have := oc_ic (es := es) (b := b) es.length; rw [ic_all hb] at this; omega
  have hlastN : oc es b (es.length - 1) + 1 = cnt es := by
    have e : oc es b (es.length - 1 + 1) = oc es b (es.length - 1) + if outAt es (pos es b (es.length - 1)) then 1 else 0 := rfl
    rw [hlast, show es.length - 1 + 1 = es.length by omega, hall] at e
    simpa using e.symm
  have hlt : ∀ j, j < es.length → oc es b j < cnt es := fun j hj => by have := oc_mono (es := es) (b := b) (show j ≤ es.length - 1 by omega); omega
  refine ⟨?_, hlt k hk⟩
  have hex : ∀ c, ∃ s, c < cnt es → s ≤ es.length - 1 ∧ oc es b s = c ∧ ∀ j, j < s → oc es b j < c := fun c => by
    by_cases h : c < cnt es
    · obtain ⟨s, h1⟩ := oc_first (es := es) (b := b) (es.length - 1) c (by omega)
      exact ⟨s, fun _ => h1⟩
    · exact ⟨0, fun h' => absurd h' h⟩
  obtain ⟨sC, hsC⟩ : ∃ sC : Nat → Nat, ∀ c, c < cnt es → sC c ≤ es.length - 1 ∧ oc es b (sC c) = c ∧ ∀ j, j < sC c → oc es b j < c := ⟨fun c => (hex c).choose, fun c => (hex c).choose_spec⟩
  let ρ : Nat → Nat := fun c => pos es b (sC c)
  have hR : ∀ k, k < es.length → rootE es false (pos es b k) = ρ (oc es b k) := fun k hk => by
    have hs := hsC _ (hlt k hk)
    have hsk : sC (oc es b k) ≤ k := by
      rcases Nat.lt_or_ge k (sC (oc es b k)) with h | h
      · have := hs.2.2 k h; omega
      · exact h
    unfold rootE
    by_cases hs0 : sC (oc es b k) = 0
    · have h0 : oc es b k = 0 := by rw [← hs.2.1, hs0]; rfl
      have e : ρ (oc es b k) = pos es b es.length := by
        show pos es b (sC (oc es b k)) = _
        rw [hs0]
        have := pos_add (es := es) (b := b) 0
        rw [Nat.zero_add] at this; exact this.symm
      rw [e, ← pos_add (es := es) (b := b) k]
      refine root_at hn false es.length (k + es.length) es.length (by omega) (by omega) hn (by rw [hlast]; simp) fun i h1 h2 => ?_
      have : i = (i - es.length) + es.length := by omega
      rw [this, pos_add]
      exact oc_flat (es := es) (b := b) (i := 0) (j := i - es.length) (k := k) (by rw [h0]; rfl) (by omega) (by omega)
    · refine root_at hn false es.length k _ hsk (by omega) (by omega) ?_ fun i h1 h2 => oc_flat (by rw [hs.2.1]) h1 h2
      have h3 := oc_jump (es := es) (b := b) (j := sC (oc es b k) - 1) (by rw [show sC (oc es b k) - 1 + 1 = sC (oc es b k) by omega, hs.2.1]; exact hs.2.2 _ (by omega))
      rw [h3]; simp
  have hinj : ∀ c d, c < cnt es → d < cnt es → ρ c = ρ d → c = d := fun c d hc hd h => by
    have := pos_inj hb (by have := (hsC c hc).1; omega) (by have := (hsC d hd).1; omega) h
    rw [← (hsC c hc).2.1, ← (hsC d hd).2.1, this]
  have main : rankL (rootE es false) (rootE es false (pos es b k)) (ordL es b) [] = some (oc es b k) := by
    rw [hR k hk]
    have hclt := hlt k hk
    by_cases hc0 : oc es b k = 0
    · rw [hc0]
      have hd := ordL_drop (b := b) hn
      rw [List.drop_zero] at hd
      rw [hd, rankL, if_pos (by rw [hR 0 hn]; rfl)]
      rfl
    · have hs := hsC _ hclt
      have := rank_class' (es := es) (b := b) (N := cnt es) (oc es b) rfl oc_step (rootE es false) ρ hR hinj (c := oc es b k) (s := sC (oc es b k)) (by omega) hclt (by omega) hs.2.1 hs.2.2 (sC (oc es b k)) 0 (by omega)
      simpa using this
  unfold rankE
  rw [main]; rfl
theorem stt_t {N : Nat} : ∀ {k : Nat}, k ≤ es.length → (stt es b N k).t = oc es b k
  | 0, _ => rfl
  | k + 1, h => by
    rw [stt_succ (by omega)]
    show (if outAt es (pos es b k) then _ else _) = oc es b k + _
    rw [stt_t (by omega)]; split <;> rfl
theorem stt_th_len {N k : Nat} : (stt es b N k).th.length = es.length := by
  have key : ∀ (l : List Nat) (s : LS), (l.foldl (lstep es N) s).th.length = s.th.length := by
    intro l
    induction l with
    | nil => intro s; rfl
    | cons i l ih => intro s; rw [List.foldl_cons, ih]; simp [lstep]
  unfold stt; rw [key]; simp [lay0]
theorem stt_th (hb : b < es.length) {N : Nat} : ∀ {k : Nat}, k ≤ es.length → ∀ j, j < k → (stt es b N k).th[pos es b j]? = some (oc es b j)
  | 0, _, j, h => by omega
  | k + 1, hk, j, hj => by
    rw [stt_succ (by omega)]
    show ((stt es b N k).th.set (pos es b k) ((stt es b N k).t))[pos es b j]? = _
    by_cases e : j = k
    · subst e
      rw [List.getElem?_set_self (by rw [stt_th_len]; exact pos_lt (by omega) _), stt_t (by omega)]
    · rw [List.getElem?_set_ne (fun h => e (pos_inj hb (by omega) (by omega) h).symm)]
      exact stt_th hb (by omega) j (by omega)
theorem stt_full {N : Nat} : stt es b N es.length = lays es N (ordL es b) := by
  unfold stt lays; rw [List.take_of_length_le (by rw [ordL_len]; omega)]
/-- each event has its place -/
theorem pos_of (hb : b < es.length) {i : Nat} (hi : i < es.length) : ∃ k, k < es.length ∧ pos es b k = i := by
  have := mem_ordL (es := es) (b := b) hi
  unfold ordL at this
  obtain ⟨k, hk, e⟩ := List.mem_map.1 this
  exact ⟨k, by simpa using hk, e⟩
theorem stt_wr (hb : b < es.length) (hlast : outAt es (pos es b (es.length - 1)) = true) (hN : 0 < es.length - cnt es) : ∀ {k : Nat}, k ≤ es.length → (stt es b (es.length - cnt es) k).wr.length = es.length - cnt es ∧ ∀ x, x < es.length - cnt es →
    (stt es b (es.length - cnt es) k).wr.getD x 0 = ((ordL es b).take k).countP fun i => fromE es i && decide (rankE es b true i = x)
  | 0, _ => by
    refine ⟨by simp [stt, lay0], fun x hx => ?_⟩
    simp only [stt, List.take_zero, List.foldl_nil, lay0, List.countP_nil]
    rw [List.getD_eq_getElem?_getD, List.getElem?_replicate]; split <;> rfl
  | k + 1, hk => by
    obtain ⟨h1, h2⟩ := stt_wr hb hlast hN (k := k) (by omega)
    obtain ⟨h, e⟩ := List.getElem?_eq_some_iff.1 (ordL_get (es := es) (b := b) (show k < es.length by omega))
    rw [stt_succ (by omega), List.take_succ_eq_append_getElem h, e]
    have hc : (stt es b (es.length - cnt es) k).c % (es.length - cnt es) = rankE es b true (pos es b k) := by rw [stt_c (by omega), cell_at hb hlast hN (by omega)]
    have hclt : rankE es b true (pos es b k) < es.length - cnt es := by rw [← hc]; exact Nat.mod_lt _ hN
    refine ⟨?_, fun x hx => ?_⟩
    · show (if fromE es (pos es b k) then _ else _ : List Nat).length = _
      split
      · rw [List.length_set]; exact h1
      · exact h1
    · rw [List.countP_append, ← h2 x hx]
      show (if fromE es (pos es b k) then (stt es b (es.length - cnt es) k).wr.set ((stt es b (es.length - cnt es) k).c % (es.length - cnt es)) ((stt es b (es.length - cnt es) k).wr.getD ((stt es b (es.length - cnt es) k).c % (es.length - cnt es)) 0 + 1) else (stt es b (es.length - cnt es) k).wr : List Nat).getD x 0 = _
      rw [hc]
      cases hf : fromE es (pos es b k) with
      | false => simp [hf]
      | true =>
        simp only [if_true]
        by_cases ex : rankE es b true (pos es b k) = x
        · subst ex
          rw [List.getD_eq_getElem?_getD, List.getElem?_set_self (by omega)]
          simp [hf]
        · rw [List.getD_eq_getElem?_getD, List.getElem?_set_ne ex, ← List.getD_eq_getElem?_getD]
          simp [hf, ex]
end
end Go.Sx

set_option linter.unusedSimpArgs false
set_option linter.unusedVariables false
namespace Go.Sx
open Go.Dx Go.Proofs
theorem back_ah (len i : Nat) : ∀ k, back len (k + 1) i = back len k (ahN len i)
  | 0 => rfl
  | k + 1 => by show ahN len (back len (k + 1) i) = ahN len (back len k (ahN len i)); rw [back_ah len i k]
theorem ah_next {len x : Nat} (h : x < len) : ahN len ((x + 1) % len) = x := by
  unfold ahN
  by_cases e : x + 1 = len
  · rw [e, Nat.mod_self, if_pos rfl]; omega
  · rw [Nat.mod_eq_of_lt (by omega), if_neg (by omega)]; rfl
theorem bw_next (es : List (Int × Int)) (i d : Nat) : bw es i (d + 1) = bw es (ahN es.length i) d + if fromE es (ahN es.length i) then 1 else 0 := by
  unfold bw
  rw [List.range_succ_eq_map, List.countP_cons, List.countP_map]
  have e : (List.range d).countP ((fun t => fromE es (back es.length (t + 1) i)) ∘ Nat.succ) = (List.range d).countP fun t => fromE es (back es.length (t + 1) (ahN es.length i)) := by
    refine List.countP_congr fun t _ => ?_
    show fromE es (back es.length (t + 1 + 1) i) = true ↔ _
    rw [back_ah]
  rw [e]; rfl
theorem stop_succ {es : List (Int × Int)} {i d : Nat} (h : Stop es (ahN es.length i) d) (ho : outAt es (ahN es.length i) = true) (hd : d + 1 ≤ 1000) : Stop es i (d + 1) := by
  refine ⟨fun j hj => ?_, ?_, hd⟩
  · cases j with
    | zero => exact ho
    | succ j => rw [back_ah]; exact h.out j (by omega)
  · rw [back_ah]; exact h.inn
theorem stop_uniq {es : List (Int × Int)} {i d d' : Nat} (h : Stop es i d) (h' : Stop es i d') : d = d' := by
  rcases Nat.lt_trichotomy d d' with g | g | g
  · have := h'.out d g; rw [h.inn] at this; cases this
  · exact g
  · have := h.out d' g; rw [h'.inn] at this; cases this
section
variable {es : List (Int × Int)} {ce : List Nat} {b c : Nat} {l : List Nat}
theorem chain_stop (h : ChainOK es ce b c l) : ∀ (j i : Nat), l[j]? = some i → i < es.length ∧ Stop es i j ∧ bw es i j = (l.take j).countP (fromE es)
  | 0, i, hi => by
    obtain ⟨k0, h1, h2, h3, h4, h5⟩ := h.ex
    rw [h5] at hi
    cases hi
    exact ⟨Nat.mod_lt _ (by omega), ⟨fun j hj => by omega, h3, by omega⟩, rfl⟩
  | j + 1, i, hi => by
    have hjl : j + 1 < l.length := (List.getElem?_eq_some_iff.1 hi).1
    obtain ⟨x, hx⟩ : ∃ x, l[j]? = some x := ⟨_, List.getElem?_eq_getElem (by omega)⟩
    obtain ⟨h1, h2, h3⟩ := chain_stop h j x hx
    obtain ⟨g1, g2⟩ := h.ch.next j x i hx hi
    have ha : ahN es.length i = x := by rw [g1]; exact ah_next h1
    have hl := h.len
    refine ⟨h.ch.lt i (List.mem_of_getElem? hi), stop_succ (by rw [ha]; exact h2) (by rw [ha]; exact g2) (by omega), ?_⟩
    rw [bw_next, ha, h3]
    obtain ⟨hh, e⟩ := List.getElem?_eq_some_iff.1 hx
    rw [List.take_succ_eq_append_getElem hh, List.countP_append, e]; simp
/-- what is set is right, and what is done is set -/
structure OKv (es : List (Int × Int)) (V : Nat → Nat) (va : List Nat) (done : Nat → Prop) : Prop where
  len : va.length = es.length
  all : ∀ i, i < es.length → va[i]? = some 0 ∨ va[i]? = some (vRef es V i)
  don : ∀ i, i < es.length → done i → va[i]? = some (vRef es V i)
theorem OKv.set {V : Nat → Nat} {va : List Nat} {done : Nat → Prop} (h : OKv es V va done) {x v : Nat} (hx : x < es.length) (hv : v = vRef es V x) : OKv es V (va.set x v) (fun i => done i ∨ i = x) := by
  refine ⟨by rw [List.length_set]; exact h.len, fun i hi => ?_, fun i hi hd => ?_⟩
  · by_cases e : i = x
    · subst e; rw [List.getElem?_set_self (by rw [h.len]; exact hi), hv]; exact .inr rfl
    · rw [List.getElem?_set_ne (fun h => e h.symm)]; exact h.all i hi
  · by_cases e : i = x
    · subst e; rw [List.getElem?_set_self (by rw [h.len]; exact hi), hv]
    · rw [List.getElem?_set_ne (fun h => e h.symm)]
      exact h.don i hi (hd.resolve_right e)
theorem chain_fold {V : Nat → Nat} (hV : ∀ i d, i < es.length → Stop es i d → V i = 1 + bw es i d) (h : ChainOK es ce b c l) : ∀ (rest pre : List Nat) (va : List Nat) (done : Nat → Prop), l = pre ++ rest → OKv es V va done → (∀ x, x ∈ pre → done x) →
    OKv es V (rest.foldl (valStep es) (va, pre.countP (fromE es))).1 (fun i => done i ∨ i ∈ rest)
  | [], pre, va, done, hl, ho, hd => ⟨ho.len, ho.all, fun i hi hd => ho.don i hi (hd.resolve_right (by simp))⟩
  | x :: rest, pre, va, done, hl, ho, hd => by
    have hx : l[pre.length]? = some x := by rw [hl, List.getElem?_append_right (Nat.le_refl _), Nat.sub_self]; rfl
    obtain ⟨hxl, hst, hbw⟩ := chain_stop h _ _ hx
    have htake : l.take pre.length = pre := by rw [hl]; simp
    rw [htake] at hbw
    rw [List.foldl_cons]
    have hl' : l = (pre ++ [x]) ++ rest := by rw [hl]; simp
    have step : ∀ va' last', valStep es (va, pre.countP (fromE es)) x = (va', last') → last' = (pre ++ [x]).countP (fromE es) → OKv es V va' (fun i => done i ∨ i = x) → OKv es V (rest.foldl (valStep es) (valStep es (va, pre.countP (fromE es)) x)).1 (fun i => done i ∨ i ∈ x :: rest) := by
      intro va' last' e1 e2 ho'
      rw [e1, e2]
      have := chain_fold hV h rest (pre ++ [x]) va' _ hl' ho' (fun y hy => by
        rcases List.mem_append.1 hy with hy | hy
        · exact .inl (hd y hy)
        · exact .inr (List.mem_singleton.1 hy))
      exact ⟨this.len, this.all, fun i hi hd => this.don i hi (by
        rcases hd with hd | hd
        · exact .inl (.inl hd)
        · rcases List.mem_cons.1 hd with rfl | hd
          · exact .inl (.inr rfl)
          · exact .inr hd)⟩
    have hVx := hV x _ hxl hst
    rw [hbw] at hVx
    cases hf : fromE es x with
    | true =>
      refine step _ _ (by unfold valStep; rw [if_pos hf]) (by rw [List.countP_append]; simp [hf]) (ho.set hxl ?_)
      unfold vRef; rw [if_pos hf, hVx]; omega
    | false =>
      by_cases hk : (eAt es (ahN es.length x)).1 = 1
      · have hout : outAt es (ahN es.length x) = true := by unfold outAt outerE; rw [hk]; rfl
        obtain ⟨j', hj'⟩ : ∃ j', pre.length = j' + 1 := by
          cases hp : pre.length with
          | zero => rw [hp] at hst; have := hst.inn; rw [show back es.length 0 x = x from rfl, hout] at this; cases this
          | succ j => exact ⟨j, rfl⟩
        obtain ⟨y, hy⟩ : ∃ y, l[j']? = some y := ⟨_, List.getElem?_eq_getElem (by have := (List.getElem?_eq_some_iff.1 hx).1; omega)⟩
        rw [hj'] at hx
        obtain ⟨hyl, -, -⟩ := chain_stop h _ _ hy
        obtain ⟨g1, g2⟩ := h.ch.next j' y x hy hx
        have ha : ahN es.length x = y := by rw [g1]; exact ah_next hyl
        have hyp : y ∈ pre := by
          have : pre[j']? = some y := by rw [hl, List.getElem?_append_left (by omega)] at hy; exact hy
          exact List.mem_of_getElem? this
        have hfy : fromE es y = true := by unfold fromE; rw [← ha, hk]; rfl
        have hvy := ho.don y hyl (hd y hyp)
        have hgy : va.getD y 0 = V y := by rw [List.getD_eq_getElem?_getD, hvy]; unfold vRef; rw [if_pos hfy]; rfl
        refine step _ _ (by unfold valStep; rw [if_neg (by simp [hf]), if_pos hk]) (by rw [List.countP_append]; simp [hf]) (ho.set hxl ?_)
        show va.getD (ahN es.length x) 0 = _
        unfold vRef; rw [if_neg (by simp [hf]), if_pos hk, ha, hgy]
      · refine step _ _ (by unfold valStep; rw [if_neg (by simp [hf]), if_neg hk]) (by rw [List.countP_append]; simp [hf]) ⟨ho.len, ho.all, fun i hi hd' => ?_⟩
        rcases hd' with hd' | rfl
        · exact ho.don i hi hd'
        · have hz : vRef es V i = 0 := by unfold vRef; rw [if_neg (by simp [hf]), if_neg hk]
          have := ho.all i hi
          rw [hz] at this ⊢
          exact this.elim id id
theorem vals_ok {V : Nat → Nat} (hV : ∀ i d, i < es.length → Stop es i d → V i = 1 + bw es i d) {ch : Nat → List Nat} {N : Nat} (hch : ∀ c, c < N → ChainOK es ce b c (ch c)) : ∀ c, c ≤ N → OKv es V (valsF es ch (List.replicate es.length 0) c) (fun i => ∃ c', c' < c ∧ i ∈ ch c')
  | 0, _ => ⟨by simp [valsF], fun i hi => .inl (by simp [valsF, hi]), fun i hi ⟨c', h, _⟩ => by omega⟩
  | c + 1, hc => by
    have ih := vals_ok hV hch c (by omega)
    rw [valsF_succ]
    have := chain_fold hV (hch c (by omega)) (ch c) [] _ _ (by simp) ih (fun x hx => by simp at hx)
    refine ⟨this.len, this.all, fun i hi ⟨c', h1, h2⟩ => this.don i hi ?_⟩
    rcases Nat.lt_succ_iff_lt_or_eq.1 h1 with h | rfl
    · exact .inl ⟨c', h, h2⟩
    · exact .inr h2
end
/-- each event is in its cell's chain -/
theorem chain_cover {es : List (Int × Int)} {b : Nat} {ch : Nat → List Nat} (hb : b < es.length) (hlast : outAt es (pos es b (es.length - 1)) = true) (hN : 0 < es.length - cnt es)
    (hch : ∀ c, c < es.length - cnt es → ChainOK es (lays es (es.length - cnt es) (ordL es b)).ce b c (ch c)) {i : Nat} (hi : i < es.length) : ∃ c, c < es.length - cnt es ∧ i ∈ ch c := by
  obtain ⟨k, hk, rfl⟩ := pos_of hb hi
  obtain ⟨N, hNe⟩ : ∃ N, N = es.length - cnt es := ⟨_, rfl⟩
  rw [← hNe] at hN hch ⊢
  have hn : 0 < es.length := by omega
  have hall : ic es b es.length = N := by rw [ic_all hb, hNe]
  have hc : ic es b k % N < N := Nat.mod_lt _ hN
  refine ⟨_, hc, ?_⟩
  have hC := hch _ hc
  obtain ⟨k0, h1, h2, h3, h4, h5⟩ := hC.ex
  have hce := lays_ce (es := es) (b := b) hb (N := N) (j := k0) h1
  have hce' : ic es b k0 % N = ic es b k % N := by
    have : (lays es N (ordL es b)).ce[pos es b k0]? = some (ic es b k % N) := h2
    rw [hce] at this; exact Option.some.inj this
  have hah : ∀ k, 0 < k → ahN es.length (pos es b k) = pos es b (k - 1) := fun k h => by
    have := ah_pos (es := es) (b := b) hn (k - 1); rwa [show k - 1 + 1 = k by omega] at this
  have hk0 : 0 < k0 := by
    rcases Nat.eq_zero_or_pos k0 with h | h
    · subst h
      have := ah_pos (es := es) (b := b) hn (es.length - 1)
      rw [show es.length - 1 + 1 = 0 + es.length by omega, pos_add] at this
      have h3' : outAt es (ahN es.length (pos es b 0)) = false := h3
      rw [this, hlast] at h3'; cases h3'
    · exact h
  have hj0 : outAt es (pos es b (k0 - 1)) = false := by
    have h3' : outAt es (ahN es.length (pos es b k0)) = false := h3
    rwa [hah k0 hk0] at h3'
  have hic0 : ic es b k0 = ic es b (k0 - 1) + 1 := by
    have e : ic es b (k0 - 1 + 1) = ic es b (k0 - 1) + if outAt es (pos es b (k0 - 1)) then 0 else 1 := rfl
    rw [hj0, show k0 - 1 + 1 = k0 by omega] at e; simpa using e
  -- along the chain
  have along : ∀ d, (∀ j, j < d → outAt es (pos es b (k0 + j)) = true) → (ch (ic es b k % N))[d]? = some (pos es b (k0 + d)) := by
    intro d
    induction d with
    | zero => intro _; exact h5
    | succ d ih =>
      intro ho
      have hd := ih fun j hj => ho j (by omega)
      have hod := ho d (by omega)
      have hdl := (List.getElem?_eq_some_iff.1 hd).1
      have hlt : d + 1 < (ch (ic es b k % N)).length := by
        rcases Nat.lt_or_ge (d + 1) (ch (ic es b k % N)).length with h | h
        · exact h
        · have e : (ch (ic es b k % N)).length - 1 = d := by omega
          have := hC.ch.last (pos es b (k0 + d)) (by rw [e]; exact hd)
          rw [hod] at this; cases this
      obtain ⟨y, hy⟩ : ∃ y, (ch (ic es b k % N))[d + 1]? = some y := ⟨_, List.getElem?_eq_getElem hlt⟩
      have := (hC.ch.next d _ y hd hy).1
      rw [hy, this]
      show some (((b + (k0 + d)) % es.length + 1) % es.length) = some ((b + (k0 + (d + 1))) % es.length)
      rw [Nat.mod_add_mod]; rfl
  have hic0N : ic es b k0 ≤ N := by have := ic_mono (es := es) (b := b) (show k0 ≤ es.length by omega); omega
  have hickN : ic es b k ≤ N := by have := ic_mono (es := es) (b := b) (show k ≤ es.length by omega); omega
  by_cases hz : ic es b k = 0
  · -- around the end
    have e0 : ic es b k0 = N := by
      rw [hz, Nat.zero_mod] at hce'
      rcases Nat.lt_or_ge (ic es b k0) N with h | h
      · rw [Nat.mod_eq_of_lt h] at hce'; omega
      · omega
    have := along (es.length - k0 + k) fun j hj => by
      by_cases hjn : k0 + j < es.length
      · exact ic_flat (es := es) (b := b) (i := k0) (j := k0 + j) (k := es.length) (by rw [e0, hall]) (by omega) hjn
      · rw [show k0 + j = (k0 + j - es.length) + es.length by omega, pos_add]
        exact ic_flat (es := es) (b := b) (i := 0) (j := k0 + j - es.length) (k := k) (by rw [hz]; rfl) (by omega) (by omega)
    rw [show k0 + (es.length - k0 + k) = k + es.length by omega, pos_add] at this
    exact List.mem_of_getElem? this
  · have e0 : ic es b k0 = ic es b k := by
      rcases Nat.lt_or_ge (ic es b k0) N with h | h
      · rcases Nat.lt_or_ge (ic es b k) N with h' | h'
        · rwa [Nat.mod_eq_of_lt h, Nat.mod_eq_of_lt h'] at hce'
        · have : ic es b k = N := by omega
          rw [this, Nat.mod_self, Nat.mod_eq_of_lt h] at hce'; omega
      · have e1 : ic es b k0 = N := by omega
        rcases Nat.lt_or_ge (ic es b k) N with h' | h'
        · rw [e1, Nat.mod_self, Nat.mod_eq_of_lt h'] at hce'; omega
        · omega
    have hle : k0 ≤ k := by
      rcases Nat.lt_or_ge k k0 with h | h
      · have := ic_mono (es := es) (b := b) (show k ≤ k0 - 1 by omega); omega
      · exact h
    have := along (k - k0) fun j hj => ic_flat (es := es) (b := b) (i := k0) (j := k0 + j) (k := k) e0 (by omega) (by omega)
    rw [show k0 + (k - k0) = k by omega] at this
    exact List.mem_of_getElem? this
/-- the values, by way of how far back the chain begins -/
noncomputable def valN (es : List (Int × Int)) (i : Nat) : Nat := open Classical in if h : i < es.length ∧ ∃ d, Stop es i d then 1 + bw es i h.2.choose else 0
theorem valN_of {es : List (Int × Int)} {i d : Nat} (hi : i < es.length) (h : Stop es i d) : valN es i = 1 + bw es i d := by
  unfold valN
  have hx : i < es.length ∧ ∃ d, Stop es i d := ⟨hi, d, h⟩
  rw [dif_pos hx, stop_uniq hx.2.choose_spec h]
theorem valN_le (es : List (Int × Int)) (i : Nat) : valN es i ≤ 1001 := by
  unfold valN
  split
  · rename_i h
    have := bw_le es i h.2.choose
    have := h.2.choose_spec.le
    omega
  · omega
/-- what lay leaves is what the reference says, event by event -/
theorem lay_law (es : List (Int × Int)) (ms : List Int) (ch : Nat → List Nat) (h0 : (layA es ms).2 = 0) (hch : ∀ c, c < es.length - cnt es → ChainOK es (lays es (es.length - cnt es) (ordL es (begE es))).ce (begE es) c (ch c)) :
    (∀ i, i < es.length → ∃ d, Stop es i d ∧ valN es i = 1 + bw es i d) ∧ LayLaw es (valsF es ch (List.replicate es.length 0) (es.length - cnt es)) (rankE es (begE es) false) (rankE es (begE es) true) (vRef es (valN es)) (wrR es (begE es)) := by
  have hp : (plainR es ms).2 = 0 ∧ ¬ (cnt es < 2 ∨ es.length - cnt es < 1) := by
    unfold layA at h0
    by_cases h1 : (plainR es ms).2 ≠ 0
    · rw [if_pos h1] at h0; exact absurd h0 h1
    · rw [if_neg h1] at h0
      refine ⟨by omega, fun h2 => ?_⟩
      rw [if_pos h2] at h0; simp at h0
  obtain ⟨hb, hlast⟩ := beg_last (es := es) (by omega)
  have hl16 := (plainR_len hp.1).1
  have hN : 0 < es.length - cnt es := by omega
  obtain ⟨b, hbe⟩ : ∃ b, b = begE es := ⟨_, rfl⟩
  rw [← hbe] at hb hlast hch ⊢
  have hV : ∀ i d, i < es.length → Stop es i d → valN es i = 1 + bw es i d := fun i d hi h => valN_of hi h
  have hstop : ∀ i, i < es.length → ∃ d, Stop es i d := fun i hi => by
    obtain ⟨c, hc, hm⟩ := chain_cover hb hlast hN hch hi
    obtain ⟨j, hj, e⟩ := List.getElem_of_mem hm
    exact ⟨j, (chain_stop (hch c hc) j i (by rw [List.getElem?_eq_getElem hj, e])).2.1⟩
  have hvals := vals_ok hV hch (es.length - cnt es) (Nat.le_refl _)
  have hvr : ∀ i, vRef es (valN es) i < 1000000 := fun i => by
    unfold vRef
    have h1 := valN_le es i
    have h2 := valN_le es (ahN es.length i)
    split
    · omega
    · split <;> omega
  refine ⟨fun i hi => ?_, ?_, ?_, ?_, ?_, ?_, hvr, ?_⟩
  · obtain ⟨d, hd⟩ := hstop i hi
    exact ⟨d, hd, hV i d hi hd⟩
  · intro i hi
    rw [← hbe]
    obtain ⟨k, hk, rfl⟩ := pos_of hb hi
    rw [← stt_full, stt_th hb (Nat.le_refl _) k hk, (thread_at hb hlast hk).1]
  · intro i hi
    obtain ⟨k, hk, rfl⟩ := pos_of hb hi
    have := thread_at hb hlast hk
    omega
  · intro i hi
    rw [← hbe]
    obtain ⟨k, hk, rfl⟩ := pos_of hb hi
    rw [lays_ce hb hk, cell_at hb hlast hN hk]
  · exact fun i hi => hvals.don i hi (chain_cover hb hlast hN hch hi)
  · intro x hx
    rw [← hbe, ← stt_full]
    obtain ⟨h1, h2⟩ := stt_wr hb hlast hN (Nat.le_refl es.length)
    have := h2 x hx
    rw [List.getD_eq_getElem?_getD, List.getElem?_eq_getElem (by omega)] at this
    rw [List.getElem?_eq_getElem (by omega)]
    simp only [Option.getD_some] at this
    rw [this, List.take_of_length_le (by rw [ordL_len]; omega)]
    unfold wrR
    rw [(ordL_perm hb).countP_eq]
  · intro x
    unfold wrR
    have := List.countP_le_length (p := fun i => fromE es i && decide (rankE es b true i = x)) (l := List.range es.length)
    rw [List.length_range] at this
    omega
end Go.Sx
