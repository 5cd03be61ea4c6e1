/- Further contracts. -/
import Derived.Test.YtdfaibjngkfnaaaGe
import Derived.Test.YtdfaibjngkfnaaaGb
set_option linter.unusedVariables false
set_option linter.unusedSimpArgs false
set_option linter.defProp false
set_option linter.unusedSimpArgs false
set_option linter.unusedVariables false
namespace Go.Sx
open Go.Dx Go.Proofs
/-- the plan's fence -/
theorem pfence_c (n : Nat) (PB : Nat) (ed : Value) (es : List (Int × Int)) (i : Nat) (hi : i < es.length) (hl : es.length ≤ 1000) (m : M) (hm : m.base ≤ m.n) (hPB : PB < m.n) (hp : load1 m ⟨PB, 0, none⟩ = some ed) (hed : Rd m ed 2 edgeRow es) :
    CallV (ex Try.prog (n + 2)) 40 [.pointer (some ⟨PB, 0, none⟩), iv i] m (iv (eAt es (ahN es.length i)).2) := by
  refine call_ret d_weave_plan_fence_ok (by simp) ?_
  obtain ⟨e, he⟩ : ∃ e, es[ahN es.length i]? = some e := ⟨_, List.getElem?_eq_getElem (ahN_lt hi)⟩
  have ⟨a1, a2, a3⟩ := hed.at he
  have c1 := Call.use (m0 := m) fun m'' h => pahead_c n PB ed es.length i hi hl m'' (by rw [load1_sees h hPB]; exact hp) hed.len
  have hS := Sees.refl hm
  have a4 : ∀ m'', Sees m m'' → load1 m'' ⟨(adr 2 ed (ahN es.length i)).block, (adr 2 ed (ahN es.length i)).off + 1, none⟩ = some (iv e.2) := fun m'' h => a3 m'' 1 none h (by simp [edgeRow])
  have a5 : (eAt es (ahN es.length i)).2 = e.2 := by rw [eAt_of he]
  simp (maxDischargeDepth := 30) [hp, a1, c1, hS, a4, a5]
  exact ret_1 (by simp (maxDischargeDepth := 30) [c1, hS]) (by simp)
/-- the reference's fence -/
theorem Fence_c (n : Nat) (ed md : Value) (es : List (Int × Int)) (hl : es.length ≤ 16) (m : M) (hm : m.base ≤ m.n) (hed : Rd m ed 2 edgeRow es) (i : Nat) (hi : i < es.length) :
    CallV (ex Try.prog (n + 2)) 48 [.agg #[ed, md], iv i] m (iv (eAt es (ahN es.length i)).2) := by
  refine call_ret d_sextantref29_Fence_ok (by simp) ?_
  have hm0 : Sees m (Dx.newRow m [ed, md]) := by simp [Sees.refl hm]
  have hS0 := sees_row0 hm [ed, md]
  have b0 := fun m'' (h : Sees (Dx.newRow m [ed, md]) m'') => (boxS_at (m := m) (l := [ed, md]) h).2
  have bl : ∀ m'', Sees (Dx.newRow m [ed, md]) m'' → loads m'' ⟨m.n, 0, none⟩ 2 = some [ed, md] := fun m'' h => (boxS_at (m := m) (l := [ed, md]) h).1 0 2 none (by simp)
  obtain ⟨e, he⟩ : ∃ e, es[ahN es.length i]? = some e := ⟨_, List.getElem?_eq_getElem (ahN_lt hi)⟩
  have ⟨a1, a2, a3⟩ := (hed.sees hm0).at he
  have c1 := Call.use (m0 := Dx.newRow m [ed, md]) fun m'' _ => ahead_c n ed md es.length i hi (by omega) hed.len m''
  have a4 : ∀ m'', Sees (Dx.newRow m [ed, md]) m'' → load1 m'' ⟨(adr 2 ed (ahN es.length i)).block, (adr 2 ed (ahN es.length i)).off + 1, none⟩ = some (iv e.2) := fun m'' h => a3 m'' 1 none h (by simp [edgeRow])
  have a5 : (eAt es (ahN es.length i)).2 = e.2 := by rw [eAt_of he]
  simp (maxDischargeDepth := 30) [hS0, b0, bl, loadNS_ptr, a1, c1, a4, a5]
  exact ret_1 (by simp (maxDischargeDepth := 30) [c1, hS0]) (by simp)
theorem Cells_c (n : Nat) (ed md : Value) (es : List (Int × Int)) (hl : es.length ≤ 16) (m : M) (hm : m.base ≤ m.n) (hed : Rd m ed 2 edgeRow es) :
    CallV (ex Try.prog (n + 3)) 16 [.agg #[ed, md]] m (iv (es.length - cnt es : Nat)) := by
  refine call_ret d_sextantref29_Cells_ok (by simp) ?_
  have hm0 : Sees m (Dx.newRow m [ed, md]) := by simp [Sees.refl hm]
  have hS0 := sees_row0 hm [ed, md]
  have bl : ∀ m'', Sees (Dx.newRow m [ed, md]) m'' → loads m'' ⟨m.n, 0, none⟩ 2 = some [ed, md] := fun m'' h => (boxS_at (m := m) (l := [ed, md]) h).1 0 2 none (by simp)
  obtain ⟨q, hq⟩ : ∃ q, q = es.length - cnt es := ⟨_, rfl⟩
  have d1 := Call.use (m0 := Dx.newRow m [ed, md]) fun m'' h => count_c n ed md es hl m'' h.base (hed.sees (hm0.trans h))
  rw [← hq] at d1 ⊢
  simp (maxDischargeDepth := 30) [hS0, bl, loadNS_ptr, d1]
  exact ret_1 (by simp (maxDischargeDepth := 30) [hS0, d1]) (by simp)
theorem Threads_c (n : Nat) (ed md : Value) (es : List (Int × Int)) (hl : es.length ≤ 16) (m : M) (hm : m.base ≤ m.n) (hed : Rd m ed 2 edgeRow es) :
    CallV (ex Try.prog (n + 3)) 17 [.agg #[ed, md]] m (iv (cnt es : Nat)) := by
  refine call_ret d_sextantref29_Threads_ok (by simp) ?_
  have hm0 : Sees m (Dx.newRow m [ed, md]) := by simp [Sees.refl hm]
  have hS0 := sees_row0 hm [ed, md]
  have bl : ∀ m'', Sees (Dx.newRow m [ed, md]) m'' → loads m'' ⟨m.n, 0, none⟩ 2 = some [ed, md] := fun m'' h => (boxS_at (m := m) (l := [ed, md]) h).1 0 2 none (by simp)
  obtain ⟨q, hq⟩ : ∃ q, q = es.length - cnt es := ⟨_, rfl⟩
  have d1 := Call.use (m0 := Dx.newRow m [ed, md]) fun m'' h => count_c n ed md es hl m'' h.base (hed.sees (hm0.trans h))
  rw [← hq] at d1
  simp (maxDischargeDepth := 30) [hS0, bl, loadNS_ptr, d1]
  exact ret_1 (by simp (maxDischargeDepth := 30) [hS0, d1]) (by simp)
/-- how many writes of a cell -/
def wrR (es : List (Int × Int)) (b c : Nat) : Nat := (List.range es.length).countP fun i => fromE es i && decide (rankE es b true i = c)
theorem Writes_c (n : Nat) (ed md : Value) (es : List (Int × Int)) (hl : es.length ≤ 16) (m : M) (hm : m.base ≤ m.n) (hed : Rd m ed 2 edgeRow es) (b : Nat) (hb : first es.length (begP es) = some b) (c : Nat) :
    CallV (ex Try.prog (n + 6)) 18 [.agg #[ed, md], iv c] m (iv (wrR es b c)) := by
  refine call_ret d_sextantref29_Writes_ok (by simp) ?_
  have hm0 : Sees m (Dx.newRow m [ed, md]) := by simp [Sees.refl hm]
  have hel := hed.len
  simp
  refine loop_run (c := c_sextantref29_Writes_8) rfl (Ret m _) (fun i t m' => Tm.get 1 t = iv c ∧ Tm.get 2 t = .pointer (some ⟨m.n, 0, none⟩) ∧ Tm.get 5 t = iv ((List.range i).countP fun i => fromE es i && decide (rankE es b true i = c)) ∧ Tm.get 6 t = iv i ∧ Ext m m' ∧ Sees (Dx.newRow m [ed, md]) m') es.length (by omega)
    ⟨by simp, by simp, by simp, by simp, by simp, sees_row0 hm _⟩ (fun i t m' k hi hI hk => ?_)
  obtain ⟨h1, h2, h5, h6, hE, hS⟩ := hI
  have b0 := fun m'' (h : Sees m' m'') => (boxS_at (m := m) (l := [ed, md]) (hS.trans h)).2
  have bl : ∀ m'', Sees m' m'' → loads m'' ⟨m.n, 0, none⟩ 2 = some [ed, md] := fun m'' h => (boxS_at (m := m) (l := [ed, md]) (hS.trans h)).1 0 2 none (by simp)
  have hS' := hS.self
  obtain ⟨q, hq⟩ : ∃ q, q = (List.range i).countP fun i => fromE es i && decide (rankE es b true i = c) := ⟨_, rfl⟩
  rw [← hq] at h5
  have hqi : q ≤ i := by rw [hq]; have := List.countP_le_length (p := fun i => fromE es i && decide (rankE es b true i = c)) (l := List.range i); simpa using this
  by_cases hil : i < es.length
  · obtain ⟨e, he⟩ : ∃ e, es[i]? = some e := ⟨_, List.getElem?_eq_getElem hil⟩
    have hfx : fromE es i = fromI e.1 := by unfold fromE; rw [eAt_of he]
    have ⟨a1, a2, a3⟩ := (hed.sees (m' := m') (hm0.trans hS)).at he
    have a4 : ∀ m'', Sees m' m'' → load1 m'' ⟨(adr 2 ed i).block, (adr 2 ed i).off, none⟩ = some (iv e.1) := fun m'' h => a3 m'' 0 none h (by simp [edgeRow])
    have hd := dlt hil
    have w1 := nextI (i := i) (by omega)
    have w2 := nextI (i := q) (by omega)
    obtain ⟨C, hC⟩ : ∃ C, C = rankE es b true i := ⟨_, rfl⟩
    have hsucc : (List.range (i + 1)).countP (fun i => fromE es i && decide (rankE es b true i = c)) = q + if fromI e.1 = true ∧ C = c then 1 else 0 := by
      rw [List.range_succ, List.countP_append, ← hq]; simp [hfx, ← hC]
    obtain ⟨v1, m1, g1, g2, rfl⟩ := From_c (n + 4) e.1 m'
    have hS1 := hS'.ext g2
    obtain ⟨v2, m2, p1, p2, hv2⟩ := Cell_c n ed md es hl m1 hS1.base (hed.sees (hm0.trans (hS.trans hS1))) b hb i hil _ (rankE_ok hil)
    rw [← hC] at hv2
    subst hv2
    have b1 := b0 m1 hS1
    have bl1 := bl m1 hS1
    cases hf : fromI e.1 with
    | false =>
      rw [hf] at hsucc
      simp [h1, h2, h5, h6, hd, hel, b0, hS', a1, a4, g1, hf, w1]
      refine hk hil _ _ ?_
      exact ⟨by simp [h1], by simp [h2], by rw [hsucc]; simp [h5], by simp, hE.trans g2, hS.trans hS1⟩
    | true =>
      rw [hf] at hsucc
      by_cases e' : C = c
      · subst e'
        simp [h1, h2, h5, h6, hd, hel, b0, hS', a1, a4, g1, hf, w1, w2, bl1, loadNS_ptr, p1]
        refine hk hil _ _ ?_
        exact ⟨by simp [h1], by simp [h2], by rw [hsucc]; simp, by simp, (hE.trans g2).trans p2, (hS.trans hS1).ext p2⟩
      · have e2 : ((C : Int) = (c : Int)) = False := eq_false (by omega)
        simp [h1, h2, h5, h6, hd, hel, b0, hS', a1, a4, g1, hf, w1, w2, bl1, loadNS_ptr, p1, e2]
        refine hk hil _ _ ?_
        exact ⟨by simp [h1], by simp [h2], by rw [hsucc]; simp [h5, e'], by simp, (hE.trans g2).trans p2, (hS.trans hS1).ext p2⟩
  obtain rfl : i = es.length := by omega
  have hd : ((es.length : Int) < (es.length : Int)) = False := eq_false (by omega)
  simp [h1, h2, h5, h6, hd, hel, b0, hS']
  refine ret_1 hE ?_
  unfold wrR; rw [← hq]; simp
end Go.Sx

set_option linter.unusedSimpArgs false
set_option linter.unusedVariables false
namespace Go.Sx
open Go.Dx Go.Proofs
/-- so many steps back -/
def back (len : Nat) : Nat → Nat → Nat
  | 0, i => i
  | k + 1, i => ahN len (back len k i)
theorem back_lt {len i : Nat} (h : i < len) : ∀ k, back len k i < len
  | 0 => h
  | k + 1 => ahN_lt (back_lt h k)
/-- d steps back by outer edges, and an inner one ahead of that -/
structure Stop (es : List (Int × Int)) (i d : Nat) : Prop where
  out : ∀ j, j < d → outAt es (ahN es.length (back es.length j i)) = true
  inn : outAt es (ahN es.length (back es.length d i)) = false
  le : d ≤ 1000
/-- how many writes on the way back -/
def bw (es : List (Int × Int)) (i d : Nat) : Nat := (List.range d).countP fun t => fromE es (back es.length (t + 1) i)
theorem bw_succ (es : List (Int × Int)) (i d : Nat) : bw es i (d + 1) = bw es i d + if fromE es (back es.length (d + 1) i) then 1 else 0 := by
  unfold bw; rw [List.range_succ, List.countP_append]; simp
theorem bw_le (es : List (Int × Int)) (i d : Nat) : bw es i d ≤ d := by
  unfold bw; have := List.countP_le_length (p := fun t => fromE es (back es.length (t + 1) i)) (l := List.range d); simpa using this
theorem ValueW_c (n : Nat) (ed md : Value) (es : List (Int × Int)) (hl : es.length ≤ 16) (m : M) (hm : m.base ≤ m.n) (hed : Rd m ed 2 edgeRow es) (i : Nat) (hi : i < es.length) (hf : fromE es i = true) (d : Nat) (hd : Stop es i d) :
    CallV (ex Try.prog (n + 2)) 50 [.agg #[ed, md], iv i] m (iv (1 + bw es i d : Nat)) := by
  refine call_ret d_sextantref29_Value_ok (by simp) ?_
  have hm0 : Sees m (Dx.newRow m [ed, md]) := by simp [Sees.refl hm]
  have hS0 := sees_row0 hm [ed, md]
  have hel := hed.len
  obtain ⟨m1, hm1⟩ : ∃ m1, m1 = Dx.newRow m [ed, md] := ⟨_, rfl⟩
  have E1 : Ext m m1 := by rw [hm1]; exact Ext.row _ _
  have b0 : ∀ m'', Sees m1 m'' → ∀ o s, load1 m'' ⟨m.n, o, s⟩ = [ed, md][o]? := fun m'' h => (boxS_at (m := m) (l := [ed, md]) (by rw [← hm1]; exact h)).2
  have bl : ∀ m'', Sees m1 m'' → loads m'' ⟨m.n, 0, none⟩ 2 = some [ed, md] := fun m'' h => (boxS_at (m := m) (l := [ed, md]) (by rw [← hm1]; exact h)).1 0 2 none (by simp)
  rw [← hm1] at hm0 hS0
  obtain ⟨e, he⟩ : ∃ e, es[i]? = some e := ⟨_, List.getElem?_eq_getElem hi⟩
  have hfx : fromE es i = fromI e.1 := by unfold fromE; rw [eAt_of he]
  have ⟨a1, a2, a3⟩ := (hed.sees hm0).at he
  have a4 : ∀ m'', Sees m1 m'' → load1 m'' ⟨(adr 2 ed i).block, (adr 2 ed i).off, none⟩ = some (iv e.1) := fun m'' h => a3 m'' 0 none h (by simp [edgeRow])
  obtain ⟨v2, m2, p1, p2, rfl⟩ := ahead_c n ed md es.length i hi (by omega) hel m1
  have hS2 := hS0.ext p2
  obtain ⟨v3, m3, g1, g2, rfl⟩ := From_c n e.1 m2
  rw [← hfx, hf] at g1
  have hS3 := hS2.ext g2
  have w0 : IntKind.i64.wrap 1 = 1 := rfl
  simp [← hm1, bl, b0, hS0, hS2, loadNS_ptr, p1, a1, a4, g1]
  refine loop_run (c := c_sextantref29_Value_15) rfl (Ret m _) (fun j t m' => j ≤ d ∧ Tm.get 1 t = iv (back es.length j i) ∧ Tm.get 2 t = .pointer (some ⟨m.n, 0, none⟩) ∧ Tm.get 6 t = iv (1 + bw es i j : Nat) ∧ Ext m m' ∧ Sees m1 m') (d + 1) (by have := hd.le; omega)
    ⟨by omega, by simp [back], by simp, by simp [bw], (E1.trans p2).trans g2, hS3⟩ (fun j t m' k hj hI hk => ?_)
  obtain ⟨hjd, h1, h2, h6, hE, hS⟩ := hI
  have hS' := hS.self
  obtain ⟨x, hx⟩ : ∃ x, x = back es.length j i := ⟨_, rfl⟩
  have hxl : x < es.length := by rw [hx]; exact back_lt hi j
  rw [← hx] at h1
  obtain ⟨y, hy⟩ : ∃ y, y = ahN es.length x := ⟨_, rfl⟩
  have hyl : y < es.length := by rw [hy]; exact ahN_lt hxl
  obtain ⟨f, hf'⟩ : ∃ e, es[y]? = some e := ⟨_, List.getElem?_eq_getElem hyl⟩
  have ⟨u1, u2, u3⟩ := (hed.sees (m' := m') (hm0.trans hS)).at hf'
  have u2' : ∀ m'', Sees m' m'' → loads m'' (adr 2 ed y) 2 = some [iv f.1, iv f.2] := u2
  have u4 : ∀ m'', Sees m' m'' → load1 m'' ⟨(adr 2 ed y).block, (adr 2 ed y).off, none⟩ = some (iv f.1) := fun m'' h => u3 m'' 0 none h (by simp [edgeRow])
  have c1 := Call.use (m0 := m') fun m'' _ => by have := ahead_c n ed md es.length x hxl (by omega) hel m''; rwa [← hy] at this
  have c2 := Call.use (m0 := m') fun m'' _ => Outer_c n f.1 f.2 m''
  have b0' := fun m'' (h : Sees m' m'') => b0 m'' (hS.trans h)
  have bl' := fun m'' (h : Sees m' m'') => bl m'' (hS.trans h)
  have ho := outer_out hf'
  obtain ⟨q, hq⟩ : ∃ q, q = 1 + bw es i j := ⟨_, rfl⟩
  have hq1000 : q ≤ 1001 := by have := bw_le es i j; have := hd.le; omega
  rw [← hq] at h6
  simp (maxDischargeDepth := 30) [h1, h2, h6, b0', bl', hS', loadNS_ptr, c1, c2, u1, u2', ho]
  obtain ⟨m4, hm4⟩ : ∃ m4, m4 = behind m' (aft (ex Try.prog (n + 1)) 73 [Value.agg #[iv f.1, iv f.2]] (forAny (behind m' (aft (ex Try.prog (n + 1)) 74 [Value.agg #[ed, md], iv x] (forAny m'))))) := ⟨_, rfl⟩
  cases ho' : outAt es y with
  | false =>
    have hjd' : j = d := by
      rcases Nat.lt_or_ge j d with h | h
      · have := hd.out j h; rw [← hx, ← hy, ho'] at this; cases this
      · omega
    simp [h6]
    refine ret_1 (by simp (maxDischargeDepth := 30) [hE, hS', c1, c2]) ?_
    simp [hq, hjd']
  | true =>
    have hjd' : j < d := by
      rcases Nat.lt_or_ge j d with h | h
      · exact h
      · have : j = d := by omega
        subst this
        have := hd.inn; rw [← hx, ← hy, ho'] at this; cases this
    have hb : back es.length (j + 1) i = y := by show ahN es.length (back es.length j i) = y; rw [← hx, hy]
    have hfy : fromE es y = fromI f.1 := by unfold fromE; rw [eAt_of hf']
    have hsucc := bw_succ es i j
    rw [hb, hfy] at hsucc
    have c3 := Call.use (m0 := m') fun m'' _ => From_c n f.1 m''
    have w2 : IntKind.i64.wrap ((q : Int) + 1) = ((q + 1 : Nat) : Int) := nextI (by omega)
    simp (maxDischargeDepth := 30) [h1, h2, h6, b0', bl', hS', loadNS_ptr, c1, c2, c3, u1, u4]
    cases hff : fromI f.1 with
    | true =>
      rw [hff] at hsucc
      simp [h6, w2]
      refine hk (by omega) _ _ ?_
      exact ⟨by omega, by rw [hb]; simp, by simp [h2], by rw [hsucc, show 1 + (bw es i j + if true = true then 1 else 0) = q + 1 by rw [hq]; simp; omega]; simp, by simp (maxDischargeDepth := 30) [hE, hS', c1, c2, c3], by simp (maxDischargeDepth := 30) [hS, hS', c1, c2, c3]⟩
    | false =>
      rw [hff] at hsucc
      simp
      refine hk (by omega) _ _ ?_
      exact ⟨by omega, by rw [hb]; simp, by simp [h2], by rw [hsucc, show 1 + (bw es i j + if false = true then 1 else 0) = q by rw [hq]; simp]; simp [h6], by simp (maxDischargeDepth := 30) [hE, hS', c1, c2, c3], by simp (maxDischargeDepth := 30) [hS, hS', c1, c2, c3]⟩
/-- an event's value -/
def vRef (es : List (Int × Int)) (V : Nat → Nat) (i : Nat) : Nat := if fromE es i then V i else if (eAt es (ahN es.length i)).1 = 1 then V (ahN es.length i) else 0
theorem Value_c (n : Nat) (ed md : Value) (es : List (Int × Int)) (hl : es.length ≤ 16) (m : M) (hm : m.base ≤ m.n) (hed : Rd m ed 2 edgeRow es) (V : Nat → Nat) (hV : ∀ i, i < es.length → fromE es i = true → ∃ d, Stop es i d ∧ V i = 1 + bw es i d) (i : Nat) (hi : i < es.length) :
    CallV (ex Try.prog (n + 3)) 50 [.agg #[ed, md], iv i] m (iv (vRef es V i)) := by
  by_cases hf : fromE es i = true
  · obtain ⟨d, hd, e⟩ := hV i hi hf
    have := ValueW_c (n + 1) ed md es hl m hm hed i hi hf d hd
    rwa [show vRef es V i = 1 + bw es i d by unfold vRef; rw [if_pos hf, e]]
  have hf0 : fromE es i = false := by simpa using hf
  refine call_ret d_sextantref29_Value_ok (by simp) ?_
  have hm0 : Sees m (Dx.newRow m [ed, md]) := by simp [Sees.refl hm]
  have hS0 := sees_row0 hm [ed, md]
  have hel := hed.len
  obtain ⟨m1, hm1⟩ : ∃ m1, m1 = Dx.newRow m [ed, md] := ⟨_, rfl⟩
  have E1 : Ext m m1 := by rw [hm1]; exact Ext.row _ _
  have b0 : ∀ m'', Sees m1 m'' → ∀ o s, load1 m'' ⟨m.n, o, s⟩ = [ed, md][o]? := fun m'' h => (boxS_at (m := m) (l := [ed, md]) (by rw [← hm1]; exact h)).2
  have bl : ∀ m'', Sees m1 m'' → loads m'' ⟨m.n, 0, none⟩ 2 = some [ed, md] := fun m'' h => (boxS_at (m := m) (l := [ed, md]) (by rw [← hm1]; exact h)).1 0 2 none (by simp)
  rw [← hm1] at hm0 hS0
  obtain ⟨e, he⟩ : ∃ e, es[i]? = some e := ⟨_, List.getElem?_eq_getElem hi⟩
  have hfx : fromE es i = fromI e.1 := by unfold fromE; rw [eAt_of he]
  have ⟨a1, a2, a3⟩ := (hed.sees hm0).at he
  have a4 : ∀ m'', Sees m1 m'' → load1 m'' ⟨(adr 2 ed i).block, (adr 2 ed i).off, none⟩ = some (iv e.1) := fun m'' h => a3 m'' 0 none h (by simp [edgeRow])
  obtain ⟨y, hy⟩ : ∃ y, y = ahN es.length i := ⟨_, rfl⟩
  have hyl : y < es.length := by rw [hy]; exact ahN_lt hi
  obtain ⟨f, hf'⟩ : ∃ e, es[y]? = some e := ⟨_, List.getElem?_eq_getElem hyl⟩
  have ⟨u1, u2, u3⟩ := (hed.sees hm0).at hf'
  have u4 : ∀ m'', Sees m1 m'' → load1 m'' ⟨(adr 2 ed y).block, (adr 2 ed y).off, none⟩ = some (iv f.1) := fun m'' h => u3 m'' 0 none h (by simp [edgeRow])
  obtain ⟨v2, m2, p1, p2, rfl⟩ := ahead_c (n + 1) ed md es.length i hi (by omega) hel m1
  rw [← hy] at p1
  have hS2 := hS0.ext p2
  obtain ⟨v3, m3, g1, g2, rfl⟩ := From_c (n + 1) e.1 m2
  rw [← hfx, hf0] at g1
  have hS3 := hS2.ext g2
  have hval : vRef es V i = if f.1 = 1 then V y else 0 := by unfold vRef; rw [if_neg hf, ← hy, eAt_of hf']
  rw [hval]
  by_cases h1 : f.1 = 1
  · have hfy : fromE es y = true := by unfold fromE; rw [eAt_of hf', h1]; rfl
    obtain ⟨d, hd, e⟩ := hV y hyl hfy
    obtain ⟨v4, m4, q1, q2, rfl⟩ := ValueW_c n ed md es hl m3 hS3.base (hed.sees (hm0.trans hS3)) y hyl hfy d hd
    rw [← e] at q1
    simp [← hm1, bl, b0, hS0, hS2, hS3, loadNS_ptr, p1, a1, a4, g1, u1, u4, h1, q1]
    exact ret_1 (((E1.trans p2).trans g2).trans q2) (by simp)
  · simp [← hm1, bl, b0, hS0, hS2, hS3, loadNS_ptr, p1, a1, a4, g1, u1, u4, h1]
    exact ret_1 ((E1.trans p2).trans g2) (by simp)
end Go.Sx

set_option linter.unusedSimpArgs false
set_option linter.unusedVariables false
namespace Go.Dx
/-! ### Rows that lie in made slices -/
def upN {α : Type} (f : Nat → α) (j : Nat) (v : α) : Nat → α := fun k => if k = j then v else f k
theorem upN_same {α : Type} (f : Nat → α) (j : Nat) (v : α) : upN f j v j = v := by unfold upN; rw [if_pos rfl]
theorem upN_ne {α : Type} (f : Nat → α) {j k : Nat} (v : α) (h : k ≠ j) : upN f j v k = f k := by unfold upN; rw [if_neg h]
theorem flat_len {e n : Nat} {f : Nat → List Value} (h : ∀ j, (f j).length = e) : ((List.range n).flatMap f).length = n * e := by
  have := flatMap_len h (List.range n); simpa using this
theorem flat_set {e : Nat} {f g : Nat → List Value} {j o : Nat} {v : Value} (hf : ∀ k, (f k).length = e) (ho : o < e) (hne : ∀ k, k ≠ j → g k = f k) (hj : g j = (f j).set o v) : ∀ n, j < n → ((List.range n).flatMap f).set (j * e + o) v = (List.range n).flatMap g := by
  intro n
  induction n with
  | zero => intro h; omega
  | succ n ih =>
    intro h
    rw [List.range_succ, List.flatMap_append, List.flatMap_append]
    have hl := flat_len (n := n) hf
    by_cases e' : j = n
    · subst e'
      have key : ∀ m, m ≤ j → (List.range m).flatMap g = (List.range m).flatMap f := by
        intro m
        induction m with
        | zero => intro _; rfl
        | succ m im => intro hm; rw [List.range_succ, List.flatMap_append, List.flatMap_append, im (by omega)]; simp [hne m (by omega)]
      rw [key j (Nat.le_refl _), List.set_append_right _ _ (by omega), hl, show j * e + o - j * e = o by omega]
      simp [hj]
    · have hjn : j < n := by omega
      have := Nat.mul_le_mul_right e (Nat.succ_le_of_lt hjn)
      rw [Nat.succ_mul] at this
      rw [List.set_append_left _ _ (by omega), ih hjn]
      simp [hne n (by omega)]
theorem rep_flat (n : Nat) (l : List Value) : rep n l = (List.range n).flatMap fun _ => l := by
  induction n with
  | zero => rfl
  | succ n ih =>
    rw [List.range_succ_eq_map, List.flatMap_cons, List.flatMap_map]
    show l ++ rep n l = _
    rw [ih]
theorem idxE {e c : Nat} (B n i : Nat) (h : i < n) : iaddrSV e (.slice (some ⟨B, 0, some c⟩) n n) (.int .i64 i) = some (.pointer (some ⟨B, i * e, none⟩)) := by
  show (bif Nat.blt i n then addA (i * e) ⟨B, 0, some c⟩ else none) = _
  rw [show Nat.blt i n = true from Nat.ble_eq_true_of_le h]
  show some (Value.pointer (some ⟨B, 0 + i * e, none⟩)) = _
  rw [Nat.zero_add]
theorem rd_made {α : Type} {m : M} {B c e : Nat} {f : α → List Value} (hf : ∀ x, (f x).length = e) {l : List α} (h : Arr m B (l.flatMap f)) (hB : B < m.n) : Rd m (.slice (some ⟨B, 0, some c⟩) l.length l.length) e f l := by
  have hlen := flatMap_len hf l
  refine ⟨rfl, fun i r hr => ?_, ?_, fun C hC => by cases hC; exact hB⟩
  · have hi := (List.getElem?_eq_some_iff.1 hr).1
    refine ⟨?_, hB, ?_⟩
    · rw [idxE B _ i hi]
      show _ = some (Value.pointer (some ⟨B, 0 + i * e, none⟩))
      rw [Nat.zero_add]
    · show loads m ⟨B, 0 + i * e, none⟩ e = _
      have := Nat.mul_le_mul_right e (Nat.succ_le_of_lt hi)
      rw [Nat.succ_mul] at this
      rw [Nat.zero_add, h.loads (by omega), flatMap_get hf l i r hr]
  · show loads m _ (l.length * e) = _
    rw [h.loads (by omega), List.drop_zero, ← hlen, List.take_length]
theorem flat_get {e : Nat} {f : Nat → List Value} (hf : ∀ j, (f j).length = e) {n j o : Nat} (hj : j < n) (ho : o < e) : ((List.range n).flatMap f)[j * e + o]? = (f j)[o]? := by
  have := flatMap_get hf (List.range n) j j (by rw [List.getElem?_range hj])
  have h2 := congrArg (fun l => l[o]?) this
  simp only [List.getElem?_take, ho, if_true, List.getElem?_drop] at h2
  exact h2
theorem mk_rows {n e bytes : Nat} {zs : List Value} (hz : zs.length = e) (h : n ≤ 1000) (hb : bytes ≤ 1000) (he : e ≤ 100) (m : M) : mksliceS e bytes zs (.int .i64 (n : Int)) (.int .i64 (n : Int)) m = some (.slice (some ⟨m.n, 0, some (code e true)⟩) n n, newRow m ((List.range n).flatMap fun _ => zs)) := by
  show (bif Nat.ble n n && Nat.ble (n * bytes) most && Nat.ble n 4611686018427387904 && Nat.ble (n * e) 1048576 then some (Value.slice (some ⟨m.n, 0, some (code e true)⟩) n n, newRow m (rep n zs)) else none) = _
  have h1 : n * bytes ≤ 1000 * 1000 := Nat.mul_le_mul h hb
  have h2 : n * e ≤ 1000 * 100 := Nat.mul_le_mul h he
  rw [Nat.ble_eq_true_of_le (Nat.le_refl n), Nat.ble_eq_true_of_le (by unfold most; omega), Nat.ble_eq_true_of_le (by omega), Nat.ble_eq_true_of_le (by omega), rep_flat]
  rfl
@[simp] theorem pConvI_ap (k : IntKind) (a : V) (t : Tm) : pConvI k a t = convIV k (a t) := _root_.id rfl
@[simp] theorem convI_u64 (x : Nat) (h : x < 1000000) : convIV .u64 (.int .i64 (x : Int)) = some (.int .u64 (x : Int)) := by
  show some (Value.int .u64 (wrapF .u64 (x : Int))) = _
  rw [wrapF_eq]
  have : IntKind.u64.wrap (x : Int) = (x : Int) := by
    unfold IntKind.wrap; simp [IntKind.bits, IntKind.signed]; omega
  rw [this]
end Go.Dx

set_option linter.unusedSimpArgs false
set_option linter.unusedVariables false
namespace Go.Sx
open Go.Dx Go.Proofs
/-- an act, with where its nodes lie -/
structure AR where
  op : Int
  dst : Int
  base : Int
  mode : Int
  e : Option (Nat × Int × Nat)
def eV : Option (Nat × Int × Nat) → Value
  | none => .slice none 0 0
  | some (B, _) => .slice (some ⟨B, 0, some 9⟩) 1 1
def actRow (r : AR) : List Value := [iv r.op, iv r.dst, iv r.base, iv 0, .slice none 0 0, eV r.e, .slice none 0 0, iv r.mode, iv 0, iv 0, iv 0]
def nodeRow (op : Int) (v : Nat) : List Value := [iv op, .int .u64 v, iv 0, iv 0]
def outRow (x : Nat) : List Value := [.int .u64 x]
theorem eV_ok (e : Option (Nat × Int × Nat)) : okC (eV e) = true := by cases e <;> rfl
theorem actRow_len (r : AR) : (actRow r).length = 11 := rfl
theorem actRow_ok (r : AR) : ∀ v ∈ actRow r, okC v = true := by simp [actRow, okC]; exact eV_ok _
theorem outRow_len (r : Nat) : (outRow r).length = 1 := rfl
theorem outRow_ok (r : Nat) : ∀ v ∈ outRow r, okC v = true := by simp [outRow, okC]
structure WB where
  q5 : Nat
  W : Nat
  P8 : Nat
  TB : Nat
  P9 : Nat
  OB : Nat
  PB : Nat
def tRow (loc : Nat → Nat) (va : Nat → Value) (j : Nat) : List Value := [iv (loc j), va j]
def oRow (vo : Nat → Value) (j : Nat) : List Value := [vo j]
def WB.σ (u : WB) (N nt : Nat) (fv : Value) (loc : Nat → Nat) (va vo : Nat → Value) : List (Nat × List Value) :=
  [(u.W, [.pointer (some ⟨u.PB, 0, none⟩)]), (u.TB, (List.range nt).flatMap (tRow loc va)), (u.OB, (List.range nt).flatMap (oRow vo)), (u.P9, [fv, .slice (some ⟨u.OB, 0, some 3⟩) nt nt]), (u.P8, [iv N, .slice (some ⟨u.TB, 0, some 5⟩) nt nt]), (u.q5, [.pointer (some ⟨u.PB, 0, none⟩)])]
/-- the program and the outcome, while they are made -/
structure WI (m1 m : M) (u : WB) (N nt : Nat) (fv : Value) (loc : Nat → Nat) (va vo : Nat → Value) (A : Nat → List AR) (O : Nat → List Nat) (tag : Nat → Nat) : Prop where
  st : St m1 m (u.σ N nt fv loc va vo)
  t0 : ∀ p ∈ u.σ N nt fv loc va vo, tag p.1 = 0
  ga : ∀ j, j < nt → Grown m1 m (va j) 11 actRow (A j) ∧ ∀ B, blk (va j) = some B → tag B = 2 + 2 * j
  go : ∀ j, j < nt → Grown m1 m (vo j) 1 outRow (O j) ∧ ∀ B, blk (vo j) = some B → tag B = 3 + 2 * j
  ge : ∀ j, j < nt → ∀ r, r ∈ A j → ∀ B op v, r.e = some (B, op, v) → m1.n ≤ B ∧ B < m.n ∧ Arr m B (nodeRow op v) ∧ tag B = 1
section
variable {m1 m : M} {u : WB} {N nt : Nat} {fv : Value} {loc : Nat → Nat} {va vo : Nat → Value} {A : Nat → List AR} {O : Nat → List Nat} {tag : Nat → Nat}
theorem grown_low {α : Type} {m0 m : M} {v : Value} {e : Nat} {f : α → List Value} {es : List α} (h : Grown m0 m v e f es) : ∀ B, blk v = some B → m0.n ≤ B ∧ B < m.n := by
  rcases h with ⟨_, rfl⟩ | ⟨B', h1, h2, _, rfl, _⟩
  · intro B hB; cases hB
  · intro B hB; cases hB; exact ⟨h1, h2⟩
theorem WI.step (h : WI m1 m u N nt fv loc va vo A O tag) {m' : M} (e : Ext m m') : WI m1 m' u N nt fv loc va vo A O tag :=
  ⟨h.st.step e, h.t0, fun j hj => ⟨(h.ga j hj).1.ext e, (h.ga j hj).2⟩, fun j hj => ⟨(h.go j hj).1.ext e, (h.go j hj).2⟩, fun j hj r hr B op v hB => let ⟨a, b, c, d⟩ := h.ge j hj r hr B op v hB; ⟨a, Nat.lt_of_lt_of_le b e.n, c.ext e b, d⟩⟩
/-- the loop's own block is written -/
theorem WI.putL (h : WI m1 m u N nt fv loc va vo A O tag) {L : Nat} (hL : ∀ p ∈ u.σ N nt fv loc va vo, p.1 ≠ L) (h0 : m1.n ≤ L) (ht : tag L = 0) (o : DObj) : WI m1 (m.put L o) u N nt fv loc va vo A O tag := by
  have ne : ∀ B, tag B ≠ 0 → (m.put L o).obj B = m.obj B := fun B hB => by rw [M.obj_put, if_neg (by rintro rfl; exact hB ht)]
  refine ⟨h.st.putL hL h0 o, h.t0, fun j hj => ⟨(h.ga j hj).1.keep (by rw [M.n_put]; exact Nat.le_refl _) fun B _ hB => ne B ?_, (h.ga j hj).2⟩, fun j hj => ⟨(h.go j hj).1.keep (by rw [M.n_put]; exact Nat.le_refl _) fun B _ hB => ne B ?_, (h.go j hj).2⟩, fun j hj r hr B op v hB => ?_⟩
  · rw [(h.ga j hj).2 B hB]; omega
  · rw [(h.go j hj).2 B hB]; omega
  · obtain ⟨a, b, c, d⟩ := h.ge j hj r hr B op v hB
    exact ⟨a, by rw [M.n_put]; exact b, c.congr (ne B (by rw [d]; omega)), d⟩
/-- an act more, of a thread -/
theorem WI.act' (h : WI m1 m u N nt fv loc va vo A O tag) {j : Nat} (hj : j < nt) (r : AR) {M1 : M} (hM : Ext m M1) (hE : ∀ B op v, r.e = some (B, op, v) → m.n ≤ B ∧ B < M1.n ∧ Arr M1 B (nodeRow op v))
    {v' : Value} {m2 m3 : M} (e2 : Ext m1 m2) (g2 : Grown m1 m2 v' 11 actRow (A j ++ [r])) (n2 : M1.n ≤ m2.n) (k2 : ∀ B, B < M1.n → blk (va j) ≠ some B → m2.obj B = M1.obj B) (b2 : ∀ B, blk v' = some B → M1.n ≤ B)
    (s3 : St m1 m2 (u.σ N nt fv loc va vo) → St m1 m3 ((u.σ N nt fv loc va vo).set 1 (u.TB, ((List.range nt).flatMap (tRow loc va)).set (j * 2 + 1) v')) ∧ m3.n = m2.n ∧ ∀ X, X ≠ u.TB → m3.obj X = m2.obj X) :
    ∃ tag', WI m1 m3 u N nt fv loc (upN va j v') vo (upN A j (A j ++ [r])) O tag' ∧ M1.n ≤ m3.n ∧ ∀ L, L < m.n → tag L = 0 → tag' L = 0 ∧ (L ≠ u.TB → m3.obj L = m.obj L) := by
  have hvj := (h.ga j hj).2
  have low := grown_low (h.ga j hj).1
  have ne0 : ∀ B, tag B ≠ 2 + 2 * j → blk (va j) ≠ some B := fun B hB hc => hB (hvj B hc)
  have keep2 : ∀ B, B < m.n → tag B ≠ 2 + 2 * j → m2.obj B = m.obj B := fun B hB ht => (k2 B (by have := hM.n; omega) (ne0 B ht)).trans (hM.obj B hB)
  have st2 : St m1 m2 (u.σ N nt fv loc va vo) := h.st.keepOn e2 (by have := hM.n; omega) fun p hp => keep2 p.1 (h.st.arr p hp).2.1 (by rw [h.t0 p hp]; omega)
  obtain ⟨q1, q2, q3⟩ := s3 st2
  have hTB : tag u.TB = 0 := h.t0 (u.TB, (List.range nt).flatMap (tRow loc va)) (by unfold WB.σ; simp)
  have hset : ((List.range nt).flatMap (tRow loc va)).set (j * 2 + 1) v' = (List.range nt).flatMap (tRow loc (upN va j v')) :=
    flat_set (e := 2) (fun k => rfl) (by omega) (fun k hk => by unfold tRow; rw [upN_ne _ _ hk]) (by unfold tRow; rw [upN_same]; rfl) nt hj
  have st3 : St m1 m3 (u.σ N nt fv loc (upN va j v') vo) := by
    have e : (u.σ N nt fv loc va vo).set 1 (u.TB, ((List.range nt).flatMap (tRow loc va)).set (j * 2 + 1) v') = u.σ N nt fv loc (upN va j v') vo := by rw [hset]; rfl
    rw [← e]; exact q1
  have hTBm : u.TB < m.n := (h.st.get 1 rfl).2.1
  obtain ⟨tag', htag⟩ : ∃ tag' : Nat → Nat, tag' = fun B => if B < m.n then tag B else if blk v' = some B then 2 + 2 * j else 1 := ⟨_, rfl⟩
  have told : ∀ B, B < m.n → tag' B = tag B := fun B hB => by rw [htag]; simp [hB]
  have tnew : ∀ B, blk v' = some B → tag' B = 2 + 2 * j := fun B hB => by
    have h1 := b2 B hB; have h2 := hM.n
    rw [htag]; simp only; rw [if_neg (by omega), if_pos hB]
  have keep3 : ∀ B, B < m.n → tag B ≠ 2 + 2 * j → B ≠ u.TB → m3.obj B = m.obj B := fun B hB ht hne => (q3 B hne).trans (keep2 B hB ht)
  refine ⟨tag', ⟨st3, fun p hp => ?_, fun k hk => ?_, fun k hk => ?_, fun k hk x hx B op v hB => ?_⟩, by omega, fun L hL ht => ⟨by rw [told L hL]; exact ht, fun hne => keep3 L hL (by omega) hne⟩⟩
  · have hk : p.1 ∈ (u.σ N nt fv loc va vo).map (·.1) := by
      have e : (u.σ N nt fv loc va vo).map (·.1) = (u.σ N nt fv loc (upN va j v') vo).map (·.1) := rfl
      rw [e]; exact List.mem_map.2 ⟨_, hp, rfl⟩
    obtain ⟨p', hp', e⟩ := List.mem_map.1 hk
    rw [← e, told _ (h.st.arr p' hp').2.1]; exact h.t0 p' hp'
  · by_cases e : k = j
    · subst e
      rw [upN_same, upN_same]
      refine ⟨g2.keep (by omega) fun B hB hb => q3 B (by have := b2 B hb; have := hM.n; omega), tnew⟩
    · rw [upN_ne _ _ e, upN_ne _ _ e]
      obtain ⟨g, t⟩ := h.ga k hk
      have lk := grown_low g
      refine ⟨g.keep (by have := hM.n; omega) fun B hB hb => keep3 B hB (by rw [t B hb]; omega) (by rintro rfl; have := t _ hb; omega), fun B hB => by rw [told _ (lk B hB).2]; exact t B hB⟩
  · obtain ⟨g, t⟩ := h.go k hk
    have lk := grown_low g
    refine ⟨g.keep (by have := hM.n; omega) fun B hB hb => keep3 B hB (by rw [t B hb]; omega) (by rintro rfl; have := t _ hb; omega), fun B hB => by rw [told _ (lk B hB).2]; exact t B hB⟩
  · have old : x ∈ A k → m1.n ≤ B ∧ B < m3.n ∧ Arr m3 B (nodeRow op v) ∧ tag' B = 1 := fun hx => by
      obtain ⟨a, b, c, d⟩ := h.ge k hk x hx B op v hB
      refine ⟨a, by have := hM.n; omega, c.congr (keep3 B b (by omega) (by rintro rfl; omega)), by rw [told B b]; exact d⟩
    by_cases e : k = j
    · subst e
      rw [upN_same] at hx
      rcases List.mem_append.1 hx with hx | hx
      · exact old hx
      · rw [List.mem_singleton.1 hx] at hB
        obtain ⟨a, b, c⟩ := hE B op v hB
        have hm1 := h.st.ext.n
        have hnb : blk v' ≠ some B := fun hc => by have := b2 B hc; omega
        refine ⟨by omega, by omega, c.congr ?_, ?_⟩
        · rw [q3 B (by omega)]
          exact k2 B b fun hc => by have := (low B hc).2; omega
        · rw [htag]; simp only; rw [if_neg (by omega), if_neg hnb]
    · rw [upN_ne _ _ e] at hx; exact old hx
theorem WI.act (h : WI m1 m u N nt fv loc va vo A O tag) (hb1 : m1.base ≤ m1.n) {j : Nat} (hj : j < nt) (r : AR) {M1 : M} (hM : Ext m M1) (hE : ∀ B op v, r.e = some (B, op, v) → m.n ≤ B ∧ B < M1.n ∧ Arr M1 B (nodeRow op v)) {X : Nat} {sp : Option Nat}
    (hx : loads M1 ⟨X, 0, sp⟩ 11 = some (actRow r)) (hl : (A j).length ≤ 1000) : ∃ v' m2 m3, appendV M1 11 136 (va j) (.slice (some ⟨X, 0, sp⟩) 1 1) = some (v', m2) ∧ storeS 1 (.pointer (some ⟨u.TB, j * 2 + 1, none⟩)) v' m2 = some (undef, m3) ∧
      ∃ tag', WI m1 m3 u N nt fv loc (upN va j v') vo (upN A j (A j ++ [r])) O tag' ∧ M1.n ≤ m3.n ∧ ∀ L, L < m.n → tag L = 0 → tag' L = 0 ∧ (L ≠ u.TB → m3.obj L = m.obj L) := by
  obtain ⟨v', m2, p1, p2, p3, p4, p5, p6⟩ := ((h.ga j hj).1.ext hM).append (h.st.ext.trans hM) hb1 (by omega) actRow_len actRow_ok hx (bytes := 136) (by unfold most; omega) (by omega)
  have hst2 : St m1 m2 (u.σ N nt fv loc va vo) := h.st.keepOn p2 (by have := hM.n; omega) fun p hp => by
    have hp2 := (h.st.arr p hp).2.1
    rw [p5 p.1 (by have := hM.n; omega) (fun hc => by have := (h.ga j hj).2 _ hc; rw [h.t0 p hp] at this; omega)]
    exact hM.obj _ hp2
  have hlen : ((List.range nt).flatMap (tRow loc va)).length = nt * 2 := flat_len fun _ => rfl
  obtain ⟨m3, s1, s2, s3, s4⟩ := hst2.store 1 rfl (o := j * 2 + 1) (v := v') (by rw [hlen]; omega) p3.okC
  exact ⟨v', m2, m3, p1, s1, h.act' hj r hM hE p2 p3 p4 p5 p6 fun _ => ⟨s2, s3, s4⟩⟩
theorem WI.actAny (h : WI m1 m u N nt fv loc va vo A O tag) (hb1 : m1.base ≤ m1.n) {j : Nat} (hj : j < nt) (r : AR) {M1 : M} (hM : Ext m M1) (hE : ∀ B op v, r.e = some (B, op, v) → m.n ≤ B ∧ B < M1.n ∧ Arr M1 B (nodeRow op v)) {X : Nat} {sp : Option Nat}
    (hx : loads M1 ⟨X, 0, sp⟩ 11 = some (actRow r)) (hl : (A j).length ≤ 1000) : ∃ v' m2 m3, appendV (forAny M1) 11 136 (va j) (.slice (some ⟨X, 0, sp⟩) 1 1) = some (v', m2) ∧ storeS 1 (.pointer (some ⟨u.TB, j * 2 + 1, none⟩)) v' (forAny (behind M1 m2)) = some (undef, m3) ∧
      ∃ tag', WI m1 (behind (behind M1 m2) m3) u N nt fv loc (upN va j v') vo (upN A j (A j ++ [r])) O tag' ∧ M1.n ≤ (behind (behind M1 m2) m3).n ∧ ∀ L, L < m.n → tag L = 0 → tag' L = 0 ∧ (L ≠ u.TB → (behind (behind M1 m2) m3).obj L = m.obj L) := by
  obtain ⟨v', m2', p1, p1', p2, p3, p4, p5, p6⟩ := ((h.ga j hj).1.ext hM).appendAny (h.st.ext.trans hM) hb1 (by omega) actRow_len actRow_ok hx (bytes := 136) (by unfold most; omega) (by omega)
  obtain ⟨m2, hm2⟩ : ∃ m2, m2 = behind M1 m2' := ⟨_, rfl⟩
  rw [← hm2] at p2 p3 p4 p5
  have hst2 : St m1 m2 (u.σ N nt fv loc va vo) := h.st.keepOn p2 (by have := hM.n; omega) fun p hp => by
    have hp2 := (h.st.arr p hp).2.1
    rw [p5 p.1 (by have := hM.n; omega) (fun hc => by have := (h.ga j hj).2 _ hc; rw [h.t0 p hp] at this; omega)]
    exact hM.obj _ hp2
  have hlen : ((List.range nt).flatMap (tRow loc va)).length = nt * 2 := flat_len fun _ => rfl
  obtain ⟨m3, s1, s1', s2, s3, s4⟩ := hst2.storeAny 1 rfl (o := j * 2 + 1) (v := v') (by rw [hlen]; omega) p3.okC
  refine ⟨v', m2', m3, p1, by rw [← hm2]; exact s1, ?_⟩
  rw [← hm2]
  exact h.act' hj r hM hE p2 p3 p4 p5 p6 fun _ => ⟨s2, s3, s4⟩
/-- a local more, of a thread -/
theorem WI.local (h : WI m1 m u N nt fv loc va vo A O tag) {j : Nat} (hj : j < nt) (x : Nat) : ∃ m3, storeS 1 (.pointer (some ⟨u.TB, j * 2, none⟩)) (iv x) m = some (undef, m3) ∧ WI m1 m3 u N nt fv (upN loc j x) va vo A O tag ∧ m.n ≤ m3.n ∧ ∀ X, X ≠ u.TB → m3.obj X = m.obj X := by
  have hlen : ((List.range nt).flatMap (tRow loc va)).length = nt * 2 := flat_len fun _ => rfl
  obtain ⟨m3, s1, s2, s3, s4⟩ := h.st.store 1 rfl (o := j * 2) (v := iv x) (by rw [hlen]; omega) rfl
  have hset : ((List.range nt).flatMap (tRow loc va)).set (j * 2) (iv x) = (List.range nt).flatMap (tRow (upN loc j x) va) :=
    flat_set (e := 2) (o := 0) (fun k => rfl) (by omega) (fun k hk => by unfold tRow; rw [upN_ne _ _ hk]) (by unfold tRow; rw [upN_same]; rfl) nt hj
  have st3 : St m1 m3 (u.σ N nt fv (upN loc j x) va vo) := by
    have e : (u.σ N nt fv loc va vo).set 1 (u.TB, ((List.range nt).flatMap (tRow loc va)).set (j * 2) (iv x)) = u.σ N nt fv (upN loc j x) va vo := by rw [hset]; rfl
    rw [← e]; exact s2
  have hTB : tag u.TB = 0 := h.t0 (u.TB, (List.range nt).flatMap (tRow loc va)) (by unfold WB.σ; simp)
  refine ⟨m3, s1, ⟨st3, fun p hp => ?_, fun k hk => ?_, fun k hk => ?_, fun k hk y hy B op v hB => ?_⟩, by omega, s4⟩
  · have hk : p.1 ∈ (u.σ N nt fv loc va vo).map (·.1) := by
      have e : (u.σ N nt fv loc va vo).map (·.1) = (u.σ N nt fv (upN loc j x) va vo).map (·.1) := rfl
      rw [e]; exact List.mem_map.2 ⟨_, hp, rfl⟩
    obtain ⟨p', hp', e⟩ := List.mem_map.1 hk
    rw [← e]; exact h.t0 p' hp'
  · obtain ⟨g, t⟩ := h.ga k hk
    exact ⟨g.keep (by omega) fun B hB hb => s4 B (by rintro rfl; have := t _ hb; omega), t⟩
  · obtain ⟨g, t⟩ := h.go k hk
    exact ⟨g.keep (by omega) fun B hB hb => s4 B (by rintro rfl; have := t _ hb; omega), t⟩
  · obtain ⟨a, b, c, d⟩ := h.ge k hk y hy B op v hB
    exact ⟨a, by omega, c.congr (s4 B (by rintro rfl; omega)), d⟩
/-- an output more, of a thread -/
theorem WI.out (h : WI m1 m u N nt fv loc va vo A O tag) (hb1 : m1.base ≤ m1.n) {j : Nat} (hj : j < nt) (x : Nat) {M1 : M} (hM : Ext m M1) {X : Nat} {sp : Option Nat}
    (hx : loads M1 ⟨X, 0, sp⟩ 1 = some (outRow x)) (hl : (O j).length ≤ 1000) : ∃ v' m2 m3, appendV (forAny M1) 1 8 (vo j) (.slice (some ⟨X, 0, sp⟩) 1 1) = some (v', m2) ∧ (m2.log = [] ∨ ∃ B, blk (vo j) = some B ∧ m2.log = [B]) ∧ storeS 1 (.pointer (some ⟨u.OB, j, none⟩)) v' (forAny (behind M1 m2)) = some (undef, m3) ∧
      ∃ tag', WI m1 (behind (behind M1 m2) m3) u N nt fv loc va (upN vo j v') A (upN O j (O j ++ [x])) tag' ∧ M1.n ≤ (behind (behind M1 m2) m3).n ∧ ∀ L, L < m.n → tag L = 0 → tag' L = 0 ∧ (L ≠ u.OB → (behind (behind M1 m2) m3).obj L = m.obj L) := by
  obtain ⟨v', m2', p1, p1', p2, g2, n2, k2, b2⟩ := ((h.go j hj).1.ext hM).appendAny (h.st.ext.trans hM) hb1 (by omega) outRow_len outRow_ok hx (bytes := 8) (by unfold most; omega) (by omega)
  obtain ⟨m2, hm2⟩ : ∃ m2, m2 = behind M1 m2' := ⟨_, rfl⟩
  rw [← hm2] at p2 g2 n2 k2
  have hvj := (h.go j hj).2
  have low := grown_low (h.go j hj).1
  have keep2 : ∀ B, B < m.n → tag B ≠ 3 + 2 * j → m2.obj B = m.obj B := fun B hB ht => (k2 B (by have := hM.n; omega) (fun hc => ht (hvj B hc))).trans (hM.obj B hB)
  have st2 : St m1 m2 (u.σ N nt fv loc va vo) := h.st.keepOn p2 (by have := hM.n; omega) fun p hp => keep2 p.1 (h.st.arr p hp).2.1 (by rw [h.t0 p hp]; omega)
  have hlen : ((List.range nt).flatMap (oRow vo)).length = nt * 1 := flat_len fun _ => rfl
  obtain ⟨m3', s1, s1', s2, s3, s4⟩ := st2.storeAny 2 rfl (o := j) (v := v') (by rw [hlen]; omega) g2.okC
  refine ⟨v', m2', m3', p1, p1', by rw [← hm2]; exact s1, ?_⟩
  rw [← hm2]
  obtain ⟨m3, hm3⟩ : ∃ m3, m3 = behind m2 m3' := ⟨_, rfl⟩
  rw [← hm3] at s2 s3 s4 ⊢
  have hOB : tag u.OB = 0 := h.t0 (u.OB, (List.range nt).flatMap (oRow vo)) (by unfold WB.σ; simp)
  have hset : ((List.range nt).flatMap (oRow vo)).set j v' = (List.range nt).flatMap (oRow (upN vo j v')) := by
    have := flat_set (e := 1) (o := 0) (j := j) (v := v') (f := oRow vo) (g := oRow (upN vo j v')) (fun k => rfl) (by omega) (fun k hk => by unfold oRow; rw [upN_ne _ _ hk]) (by unfold oRow; rw [upN_same]; rfl) nt hj
    rwa [Nat.mul_one, Nat.add_zero] at this
  have st3 : St m1 m3 (u.σ N nt fv loc va (upN vo j v')) := by
    have e : (u.σ N nt fv loc va vo).set 2 (u.OB, ((List.range nt).flatMap (oRow vo)).set j v') = u.σ N nt fv loc va (upN vo j v') := by rw [hset]; rfl
    rw [← e]; exact s2
  have hOBm : u.OB < m.n := (h.st.get 2 rfl).2.1
  obtain ⟨tag', htag⟩ : ∃ tag' : Nat → Nat, tag' = fun B => if B < m.n then tag B else 3 + 2 * j := ⟨_, rfl⟩
  have told : ∀ B, B < m.n → tag' B = tag B := fun B hB => by rw [htag]; simp [hB]
  have tnew : ∀ B, blk v' = some B → tag' B = 3 + 2 * j := fun B hB => by
    have h1 := b2 B hB; have h2 := hM.n
    rw [htag]; simp only; rw [if_neg (by omega)]
  have keep3 : ∀ B, B < m.n → tag B ≠ 3 + 2 * j → B ≠ u.OB → m3.obj B = m.obj B := fun B hB ht hne => (s4 B hne).trans (keep2 B hB ht)
  have hMn := hM.n
  refine ⟨tag', ⟨st3, fun p hp => ?_, fun k hk => ?_, fun k hk => ?_, fun k hk y hy B op v hB => ?_⟩, by omega, fun L hL ht => ⟨by rw [told L hL]; exact ht, fun hne => keep3 L hL (by omega) hne⟩⟩
  · have hk : p.1 ∈ (u.σ N nt fv loc va vo).map (·.1) := by
      have e : (u.σ N nt fv loc va vo).map (·.1) = (u.σ N nt fv loc va (upN vo j v')).map (·.1) := rfl
      rw [e]; exact List.mem_map.2 ⟨_, hp, rfl⟩
    obtain ⟨p', hp', e⟩ := List.mem_map.1 hk
    rw [← e, told _ (h.st.arr p' hp').2.1]; exact h.t0 p' hp'
  · obtain ⟨g, t⟩ := h.ga k hk
    have lk := grown_low g
    exact ⟨g.keep (by omega) fun B hB hb => keep3 B hB (by rw [t B hb]; omega) (by rintro rfl; have := t _ hb; omega), fun B hB => by rw [told _ (lk B hB).2]; exact t B hB⟩
  · by_cases e : k = j
    · subst e
      rw [upN_same, upN_same]
      exact ⟨g2.keep (by omega) fun B hB hb => s4 B (by have := b2 B hb; omega), tnew⟩
    · rw [upN_ne _ _ e, upN_ne _ _ e]
      obtain ⟨g, t⟩ := h.go k hk
      have lk := grown_low g
      exact ⟨g.keep (by omega) fun B hB hb => keep3 B hB (by rw [t B hb]; omega) (by rintro rfl; have := t _ hb; omega), fun B hB => by rw [told _ (lk B hB).2]; exact t B hB⟩
  · obtain ⟨a, b, c, d⟩ := h.ge k hk y hy B op v hB
    exact ⟨a, by omega, c.congr (keep3 B b (by omega) (by rintro rfl; omega)), by rw [told B b]; exact d⟩
end
end Go.Sx

set_option linter.unusedSimpArgs false
set_option linter.unusedVariables false
namespace Go.Dx
@[simp] theorem bslice_act (m : M) (a b c d e f g h i j k : Value) : bsliceS 11 1 (rep 1 [.int .i64 0, .int .i64 0, .int .i64 0, .int .i64 0, .slice none 0 0, .slice none 0 0, .slice none 0 0, .int .i64 0, .int .i64 0, .int .i64 0, .int .i64 0]) [(0, 11, .agg ⟨[a, b, c, d, e, f, g, h, i, j, k]⟩)] m =
    some (.slice (some ⟨m.n, 0, some 23⟩) 1 1, newRow m [a, b, c, d, e, f, g, h, i, j, k]) := _root_.id rfl
@[simp] theorem bslice_node (m : M) (a b c d : Value) : bsliceS 4 1 (rep 1 [.int .i64 0, .int .u64 0, .int .i64 0, .int .i64 0]) [(0, 4, .agg ⟨[a, b, c, d]⟩)] m = some (.slice (some ⟨m.n, 0, some 9⟩) 1 1, newRow m [a, b, c, d]) := _root_.id rfl
@[simp] theorem bslice_u64 (m : M) (k : IntKind) (a : Int) : bsliceS 1 1 (rep 1 [.int .u64 0]) [(0, 1, .int k a)] m = some (.slice (some ⟨m.n, 0, some 3⟩) 1 1, newRow m [.int k a]) := _root_.id rfl
@[simp] theorem build_node (o v : Int) : buildV [.int .i64 0, .int .u64 0, .int .i64 0, .int .i64 0] [(0, 1, .int .i64 o), (1, 1, .int .u64 v)] = some (.agg ⟨[.int .i64 o, .int .u64 v, .int .i64 0, .int .i64 0]⟩) := _root_.id rfl
@[simp] theorem build_fence (o f : Int) : buildV [.int .i64 0, .int .i64 0, .int .i64 0, .int .i64 0, .slice none 0 0, .slice none 0 0, .slice none 0 0, .int .i64 0, .int .i64 0, .int .i64 0, .int .i64 0] [(0, 1, .int .i64 o), (7, 1, .int .i64 f)] =
    some (.agg ⟨[.int .i64 o, .int .i64 0, .int .i64 0, .int .i64 0, .slice none 0 0, .slice none 0 0, .slice none 0 0, .int .i64 f, .int .i64 0, .int .i64 0, .int .i64 0]⟩) := _root_.id rfl
@[simp] theorem build_store (o c f : Int) (a : Option Addr) (x y : Nat) : buildV [.int .i64 0, .int .i64 0, .int .i64 0, .int .i64 0, .slice none 0 0, .slice none 0 0, .slice none 0 0, .int .i64 0, .int .i64 0, .int .i64 0, .int .i64 0] [(0, 1, .int .i64 o), (2, 1, .int .i64 c), (7, 1, .int .i64 f), (5, 1, .slice a x y)] =
    some (.agg ⟨[.int .i64 o, .int .i64 0, .int .i64 c, .int .i64 0, .slice none 0 0, .slice a x y, .slice none 0 0, .int .i64 f, .int .i64 0, .int .i64 0, .int .i64 0]⟩) := _root_.id rfl
@[simp] theorem build_load (o d c f : Int) : buildV [.int .i64 0, .int .i64 0, .int .i64 0, .int .i64 0, .slice none 0 0, .slice none 0 0, .slice none 0 0, .int .i64 0, .int .i64 0, .int .i64 0, .int .i64 0] [(0, 1, .int .i64 o), (1, 1, .int .i64 d), (2, 1, .int .i64 c), (7, 1, .int .i64 f)] =
    some (.agg ⟨[.int .i64 o, .int .i64 d, .int .i64 c, .int .i64 0, .slice none 0 0, .slice none 0 0, .slice none 0 0, .int .i64 f, .int .i64 0, .int .i64 0, .int .i64 0]⟩) := _root_.id rfl
end Go.Dx
namespace Go.Sx
open Go.Dx Go.Proofs
/-- what a laid-out cycle reads as -/
structure LF (m1 : M) (PB A5 A6 A7 c1 : Nat) (ed ec md : Value) (es : List (Int × Int)) (ms : List Int) (TH CE VA : Nat → Nat) : Prop where
  lP : PB < m1.n
  l5 : A5 < m1.n
  l6 : A6 < m1.n
  l7 : A7 < m1.n
  lc : c1 < m1.n
  p0 : load1 m1 ⟨PB, 0, none⟩ = some ed
  p5 : load1 m1 ⟨PB, 5, none⟩ = some (.slice (some ⟨A5, 0, some 3⟩) es.length es.length)
  p6 : load1 m1 ⟨PB, 6, none⟩ = some (.slice (some ⟨A6, 0, some 3⟩) es.length es.length)
  p7 : load1 m1 ⟨PB, 7, none⟩ = some (.slice (some ⟨A7, 0, some 3⟩) es.length es.length)
  a5 : ∀ i, i < es.length → load1 m1 ⟨A5, i, none⟩ = some (iv (TH i))
  a6 : ∀ i, i < es.length → load1 m1 ⟨A6, i, none⟩ = some (iv (CE i))
  a7 : ∀ i, i < es.length → load1 m1 ⟨A7, i, none⟩ = some (iv (VA i))
  hed : Rd m1 ed 2 edgeRow es
  c1m : load1 m1 ⟨c1, 1, none⟩ = some md
  hmd : Rd m1 md 1 modeRow ms
  small : ∀ i, VA i < 1000000
theorem LF.sees {m1 m : M} {PB A5 A6 A7 c1 : Nat} {ed ec md : Value} {es : List (Int × Int)} {ms : List Int} {TH CE VA : Nat → Nat} (h : LF m1 PB A5 A6 A7 c1 ed ec md es ms TH CE VA) (k : Sees m1 m) : LF m PB A5 A6 A7 c1 ed ec md es ms TH CE VA := by
  have hn := k.n
  exact ⟨Nat.lt_of_lt_of_le h.lP hn, Nat.lt_of_lt_of_le h.l5 hn, Nat.lt_of_lt_of_le h.l6 hn, Nat.lt_of_lt_of_le h.l7 hn, Nat.lt_of_lt_of_le h.lc hn, (load1_sees k h.lP).trans h.p0, (load1_sees k h.lP).trans h.p5, (load1_sees k h.lP).trans h.p6, (load1_sees k h.lP).trans h.p7,
    fun i hi => (load1_sees k h.l5).trans (h.a5 i hi), fun i hi => (load1_sees k h.l6).trans (h.a6 i hi), fun i hi => (load1_sees k h.l7).trans (h.a7 i hi), h.hed.sees k, (load1_sees k h.lc).trans h.c1m, h.hmd.sees k, h.small⟩
abbrev AB := Int × Int × Int × Int × Option (Int × Nat)
def AR.era (r : AR) : AB := (r.op, r.dst, r.base, r.mode, r.e.map (·.2))
section
variable {m1 m : M} {u : WB} {N nt : Nat} {fv : Value} {loc : Nat → Nat} {va vo : Nat → Value} {A : Nat → List AR} {O : Nat → List Nat} {tag : Nat → Nat}
theorem WI.lt8 (h : WI m1 m u N nt fv loc va vo A O tag) : load1 m ⟨u.P8, 1, none⟩ = some (.slice (some ⟨u.TB, 0, some 5⟩) nt nt) := by rw [(h.st.get 4 rfl).2.2.load1]; rfl
theorem WI.lt9 (h : WI m1 m u N nt fv loc va vo A O tag) : load1 m ⟨u.P9, 1, none⟩ = some (.slice (some ⟨u.OB, 0, some 3⟩) nt nt) := by rw [(h.st.get 3 rfl).2.2.load1]; rfl
theorem WI.lq (h : WI m1 m u N nt fv loc va vo A O tag) : load1 m ⟨u.q5, 0, none⟩ = some (.pointer (some ⟨u.PB, 0, none⟩)) := by rw [(h.st.get 5 rfl).2.2.load1]; rfl
theorem WI.lloc (h : WI m1 m u N nt fv loc va vo A O tag) {j : Nat} (hj : j < nt) : load1 m ⟨u.TB, j * 2, none⟩ = some (iv (loc j)) := by
  rw [(h.st.get 1 rfl).2.2.load1]
  have := flat_get (e := 2) (f := tRow loc va) (o := 0) (fun _ => rfl) hj (by omega)
  rwa [Nat.add_zero] at this
theorem WI.lva (h : WI m1 m u N nt fv loc va vo A O tag) {j : Nat} (hj : j < nt) : load1 m ⟨u.TB, j * 2 + 1, none⟩ = some (va j) := by
  rw [(h.st.get 1 rfl).2.2.load1]
  exact flat_get (e := 2) (f := tRow loc va) (o := 1) (fun _ => rfl) hj (by omega)
theorem WI.lvo (h : WI m1 m u N nt fv loc va vo A O tag) {j : Nat} (hj : j < nt) : load1 m ⟨u.OB, j, none⟩ = some (vo j) := by
  rw [(h.st.get 2 rfl).2.2.load1]
  have := flat_get (e := 1) (f := oRow vo) (o := 0) (fun _ => rfl) hj (by omega)
  rwa [Nat.add_zero, Nat.mul_one] at this
/-- an access is laid down -/
theorem wv_tail (n : Nat) {PB A5 A6 A7 c1 : Nat} {ed ec md : Value} {es : List (Int × Int)} {ms : List Int} {TH CE VA : Nat → Nat} (hb1 : m1.base ≤ m1.n) (hLF : LF m1 PB A5 A6 A7 c1 ed ec md es ms TH CE VA) (hok : ∀ (i : Nat) e, es[i]? = some e → badE e = false) (hPB : u.PB = PB)
    {i j : Nat} (hi : i < es.length) (hml : ms.length = es.length) (hj : TH i = j) (hjn : j < nt) (h : WI m1 m u N nt fv loc va vo A O tag) (hA : (A j).length ≤ 1000) (hO : (O j).length ≤ 1000) (hloc : loc j ≤ 1000) {t : Tm} (t1 : Tm.get 1 t = .pointer (some ⟨c1, 0, none⟩)) (t5 : Tm.get 5 t = .pointer (some ⟨u.q5, 0, none⟩)) (t9 : Tm.get 9 t = .pointer (some ⟨u.P9, 0, none⟩))
    (t10 : Tm.get 10 t = iv i) (t11 : Tm.get 11 t = .pointer (some ⟨u.TB, j * 2, none⟩)) {L : Nat} (hL : tag L = 0) (hLm : L < m.n) (hLT : L ≠ u.TB) (hLO : L ≠ u.OB) (P : Option E → M → Prop)
    (hP : ∀ m2 va' vo' tag' r, WI m1 m2 u N nt fv (if fromE es i then loc else upN loc j (loc j + 1)) va' vo' (upN A j (A j ++ [r])) (if fromE es i then O else upN O j (O j ++ [VA i])) tag' → m.n ≤ m2.n → m2.obj L = m.obj L → tag' L = 0 →
      r.era = (if fromE es i then ((3, 0, (CE i : Int), mAt ms i, some (1, VA i)) : AB) else ((2, (loc j : Int), (CE i : Int), mAt ms i, none) : AB)) → P none m2) :
    Rnd P (c_weave_Weave_12 (ex Try.prog (n + 2)) (endE none) (outOf 1 (endE none) exitE) (endE (some E.ret)) t m) := by
  obtain ⟨e, he⟩ : ∃ e, es[i]? = some e := ⟨_, List.getElem?_eq_getElem hi⟩
  obtain ⟨md', hmd'⟩ : ∃ e, ms[i]? = some e := ⟨_, List.getElem?_eq_getElem (by omega)⟩
  have hmi : mAt ms i = md' := mAt_of hmd'
  have hfe : fromE es i = fromI e.1 := by unfold fromE; rw [eAt_of he]
  have hbk := badE_kind (hok i e he)
  have hS := h.st.sees
  have lf := hLF.sees hS
  have lq := h.lq
  rw [hPB] at lq
  obtain ⟨v3, m3, g1, g2, rfl⟩ := kind_c n PB ed es e i he hbk.1 hbk.2 m hS.base lf.p0 lf.hed
  have h3 := h.step g2
  have lf3 := lf.sees (hS.self.ext g2)
  have lq3 := h3.lq
  rw [hPB] at lq3
  have ⟨u1, u2⟩ := Rd.at1 (g := fun (x : Int) => iv x) lf3.hmd hmd'
  have u2' := u2 m3 (hS.self.ext g2).self
  have x6 := idxE (e := 1) (c := 3) A6 es.length i hi
  have x7 := idxE (e := 1) (c := 3) A7 es.length i hi
  have x5 := idxE (e := 1) (c := 3) A5 es.length i hi
  rw [Nat.mul_one] at x5 x6 x7
  have y6 := lf3.a6 i hi
  have y7 := lf3.a7 i hi
  obtain ⟨V, hV⟩ : ∃ V, V = VA i := ⟨_, rfl⟩
  obtain ⟨C, hC⟩ : ∃ C, C = CE i := ⟨_, rfl⟩
  have hVs : V < 1000000 := by rw [hV]; exact lf.small i
  have cvv := convI_u64 V hVs
  rw [← hV] at y7 hP
  rw [← hC] at y6 hP
  simp [t5, t10, lq, g1, binV_kind_eq2]
  cases hf : fromI e.1 with
  | true =>
    rw [hfe, hf, hmi] at hP
    obtain ⟨M1, hM1⟩ : ∃ M1, M1 = Dx.newRow m3 [iv 1, .int .u64 V, iv 0, iv 0] := ⟨_, rfl⟩
    have n1 : M1.n = m3.n + 1 := by rw [hM1, newRow_n]
    obtain ⟨M2, hM2⟩ : ∃ M2, M2 = Dx.newRow M1 [iv 3, iv 0, iv C, iv 0, .slice none 0 0, .slice (some ⟨m3.n, 0, some 9⟩) 1 1, .slice none 0 0, iv md', iv 0, iv 0, iv 0] := ⟨_, rfl⟩
    have E1 : Ext m3 M1 := by rw [hM1]; exact Ext.row _ _
    have E2 : Ext M1 M2 := by rw [hM2]; exact Ext.row _ _
    have hA1 : Arr M2 m3.n (nodeRow 1 V) := by
      have : Arr M1 m3.n (nodeRow 1 V) := by rw [hM1]; exact Arr.row m3 _
      exact this.ext E2 (by omega)
    obtain ⟨v', m4, m5, p1, p2, tag', p3, p4, p5⟩ := h3.actAny hb1 hjn ⟨3, 0, C, md', some (m3.n, 1, V)⟩ (E1.trans E2) (fun B op v hB => by cases hB; exact ⟨Nat.le_refl _, by have := E2.n; omega, hA1⟩) (X := M1.n) (sp := some 23) (by rw [hM2]; exact (Arr.row M1 _).loads (by simp)) hA
    have lva := h3.lva hjn
    simp [t1, t5, t10, t11, lva, lq3, lf3.p6, lf3.p7, x6, x7, y6, y7, lf3.c1m, u1, u2', cvv, ← hM1, n1]
    rw [n1] at p1
    simp [← hM2, p1, p2]
    refine rnd_end (hP _ _ _ tag' _ p3 (by have := g2.n; have := E1.n; have := E2.n; omega) ?_ (p5 L (by have := g2.n; omega) hL).1 rfl)
    rw [(p5 L (by have := g2.n; omega) hL).2 hLT, g2.obj L hLm]
  | false =>
    rw [hfe, hf, hmi] at hP
    have ll := h3.lloc hjn
    obtain ⟨K, hK⟩ : ∃ K, K = loc j := ⟨_, rfl⟩
    rw [← hK] at ll hP
    obtain ⟨M2, hM2⟩ : ∃ M2, M2 = Dx.newRow m3 [iv 2, iv K, iv C, iv 0, .slice none 0 0, .slice none 0 0, .slice none 0 0, iv md', iv 0, iv 0, iv 0] := ⟨_, rfl⟩
    have E2 : Ext m3 M2 := by rw [hM2]; exact Ext.row _ _
    obtain ⟨v', m4, m5, p1, p2, tag', p3, p4, p5⟩ := h3.actAny hb1 hjn ⟨2, K, C, md', none⟩ E2 (fun B op v hB => by cases hB) (X := m3.n) (sp := some 23) (by rw [hM2]; exact (Arr.row m3 _).loads (by simp)) hA
    have lva := h3.lva hjn
    simp [t1, t5, t9, t10, t11, lva, ll, lq3, lf3.p6, lf3.p7, x6, x7, y6, y7, lf3.c1m, u1, u2', ← hM2, p1, p2]
    have ll5 := p3.lloc hjn
    rw [load1_behind, ← hK] at ll5
    obtain ⟨M3, hM3⟩ : ∃ M3, M3 = behind (behind M2 m4) m5 := ⟨_, rfl⟩
    rw [← hM3] at p3 p4 p5 ⊢
    have ll4 := p3.lloc hjn
    rw [← hK] at ll4
    have wK := nextI (i := K) (by omega)
    obtain ⟨K', hK'⟩ : ∃ K', K' = K + 1 := ⟨_, rfl⟩
    rw [← hK'] at wK hP
    obtain ⟨M4, q1, q2, q3, q4⟩ := p3.local hjn K'
    simp [t11, ll5, wK, q1]
    have lf4 := hLF.sees q2.st.sees
    have lq4 := q2.lq
    rw [hPB] at lq4
    have l9 := q2.lt9
    have lo := q2.lvo hjn
    have z5 := lf4.a5 i hi
    have z7 := lf4.a7 i hi
    rw [hj] at z5
    rw [← hV] at z7
    have xo := idxE (e := 1) (c := 3) u.OB nt j hjn
    rw [Nat.mul_one] at xo
    obtain ⟨M5, hM5⟩ : ∃ M5, M5 = Dx.newRow M4 [.int .u64 V] := ⟨_, rfl⟩
    have E5 : Ext M4 M5 := by rw [hM5]; exact Ext.row _ _
    obtain ⟨v2, m6, m7, r1, r2, r3, tag2, r4, r5, r6⟩ := q2.out hb1 hjn V E5 (X := M4.n) (sp := some 3) (by rw [hM5]; exact (Arr.row M4 _).loads (by simp)) hO
    have t9t : tag' u.P9 = 0 := q2.t0 (u.P9, [fv, .slice (some ⟨u.OB, 0, some 3⟩) nt nt]) (by unfold WB.σ; simp)
    have t5t : tag' u.q5 = 0 := q2.t0 (u.q5, [.pointer (some ⟨u.PB, 0, none⟩)]) (by unfold WB.σ; simp)
    have hmt : ∀ B, blk (vo j) = some B → ¬ u.P9 = B ∧ ¬ u.q5 = B ∧ ¬ PB = B ∧ ¬ A5 = B := fun B hB => by
      have t := (q2.go j hjn).2 B hB
      have lw := (grown_low (q2.go j hjn).1 B hB).1
      have := hLF.lP; have := hLF.l5
      exact ⟨by rintro rfl; omega, by rintro rfl; omega, by rintro rfl; omega, by rintro rfl; omega⟩
    have fin : Rnd P (endE none t (behind (behind M5 m6) m7)) → True := fun _ => trivial
    have done : P none (behind (behind M5 m6) m7) := by
      have hLm3 : L < M3.n := by have := g2.n; have := E2.n; omega
      refine hP _ _ _ tag2 _ r4 (by have := g2.n; have := E2.n; have := E5.n; omega) ?_ (r6 L (by omega) ((p5 L (by have := g2.n; omega) hL).1)).1 rfl
      rw [(r6 L (by omega) ((p5 L (by have := g2.n; omega) hL).1)).2 hLO, q4 L hLT, (p5 L (by have := g2.n; omega) hL).2 hLT, g2.obj L hLm]
    rcases r2 with r2 | ⟨B, hB, r2⟩
    · simp [t1, t5, t9, t10, t11, l9, lq4, lf4.p5, lf4.p7, x5, x7, z5, z7, xo, lo, cvv, ← hM5, r1, r2, r3]
      exact rnd_end done
    · obtain ⟨d1, d2, d3, d4⟩ := hmt B hB
      simp [t1, t5, t9, t10, t11, l9, lq4, lf4.p5, lf4.p7, x5, x7, z5, z7, xo, lo, cvv, ← hM5, r1, r2, r3, d1, d2, d3, d4]
      exact rnd_end done
end
end Go.Sx

set_option linter.unusedSimpArgs false
set_option linter.unusedVariables false
namespace Go.Sx
open Go.Dx Go.Proofs
/-- a thread, while it is made: locals, acts, outputs -/
structure TS where
  loc : Nat
  acts : List AB
  outs : List Nat
def fenE (es : List (Int × Int)) (i : Nat) : Int := (eAt es (ahN es.length i)).2
abbrev fenA (f : Int) : AB := (7, 0, 0, f, none)
abbrev stA (c : Nat) (m : Int) (v : Nat) : AB := (3, 0, c, m, some (1, v))
abbrev ldA (d c : Nat) (m : Int) : AB := (2, d, c, m, none)
def evF (f : Int) : List AB := if f = 0 then [] else [fenA f]
def tsStep (es : List (Int × Int)) (ms : List Int) (CE VA : Nat → Nat) (i : Nat) (s : TS) : TS :=
  if fromE es i then ⟨s.loc, s.acts ++ evF (fenE es i) ++ [stA (CE i) (mAt ms i) (VA i)], s.outs⟩ else ⟨s.loc + 1, s.acts ++ evF (fenE es i) ++ [ldA s.loc (CE i) (mAt ms i)], s.outs ++ [VA i]⟩
def wStep (es : List (Int × Int)) (ms : List Int) (TH CE VA : Nat → Nat) (S : Nat → TS) (i : Nat) : Nat → TS := upN S (TH i) (tsStep es ms CE VA i (S (TH i)))
def WJ (m1 m : M) (u : WB) (N nt : Nat) (fv : Value) (S : Nat → TS) (L : Nat) : Prop := ∃ loc va vo A O tag, WI m1 m u N nt fv loc va vo A O tag ∧ tag L = 0 ∧ ∀ j, j < nt → loc j = (S j).loc ∧ (A j).map AR.era = (S j).acts ∧ O j = (S j).outs
theorem WJ.step {m1 m m' : M} {u : WB} {N nt : Nat} {fv : Value} {S : Nat → TS} {L : Nat} (h : WJ m1 m u N nt fv S L) (e : Ext m m') : WJ m1 m' u N nt fv S L := let ⟨a, b, c, d, f, g, h1, h2, h3⟩ := h; ⟨a, b, c, d, f, g, h1.step e, h2, h3⟩
theorem WJ.putL {m1 m : M} {u : WB} {N nt : Nat} {fv : Value} {S : Nat → TS} {L : Nat} (h : WJ m1 m u N nt fv S L) (hL : ∀ b ∈ [u.W, u.TB, u.OB, u.P9, u.P8, u.q5], b ≠ L) (h0 : m1.n ≤ L) (o : DObj) : WJ m1 (m.put L o) u N nt fv S L :=
  let ⟨a, b, c, d, f, g, h1, h2, h3⟩ := h; ⟨a, b, c, d, f, g, h1.putL (fun p hp => hL p.1 (by unfold WB.σ at hp; simp at hp ⊢; rcases hp with rfl | rfl | rfl | rfl | rfl | rfl <;> simp)) h0 h2 o, h2, h3⟩
theorem wv_round (n : Nat) {m1 m : M} {u : WB} {N nt : Nat} {fv : Value} {S : Nat → TS} {L : Nat} {PB A5 A6 A7 c1 : Nat} {ed ec md : Value} {es : List (Int × Int)} {ms : List Int} {TH CE VA : Nat → Nat} (hl : es.length ≤ 16) (hb1 : m1.base ≤ m1.n) (hLF : LF m1 PB A5 A6 A7 c1 ed ec md es ms TH CE VA) (hok : ∀ (i : Nat) e, es[i]? = some e → badE e = false) (hPB : u.PB = PB)
    {i : Nat} (hi : i < es.length) (hml : ms.length = es.length) (hjn : TH i < nt) (h : WJ m1 m u N nt fv S L) (hbd : ∀ j, (S j).loc ≤ 900 ∧ (S j).acts.length ≤ 900 ∧ (S j).outs.length ≤ 900) {T : Tm} (t1 : Tm.get 1 T = .pointer (some ⟨c1, 0, none⟩)) (t5 : Tm.get 5 T = .pointer (some ⟨u.q5, 0, none⟩)) (t8 : Tm.get 8 T = .pointer (some ⟨u.P8, 0, none⟩)) (t9 : Tm.get 9 T = .pointer (some ⟨u.P9, 0, none⟩))
    (hLm : L < m.n) (hLb : ∀ b ∈ [u.W, u.TB, u.OB, u.P9, u.P8, u.q5], b ≠ L) :
    Rnd (fun e m2 => e = none ∧ m2.obj L = m.obj L ∧ m.n ≤ m2.n ∧ WJ m1 m2 u N nt fv (wStep es ms TH CE VA S i) L) (yb_weave_Weave_1 (ex Try.prog (n + 2)) (endE none) exitE (endE (some E.ret)) (Tm.set 10 (iv i) (Tm.set 47 (iv i) T)) m) := by
  suffices H : ∀ P : Option E → M → Prop, (∀ m2, m2.obj L = m.obj L → m.n ≤ m2.n → WJ m1 m2 u N nt fv (wStep es ms TH CE VA S i) L → P none m2) → Rnd P (yb_weave_Weave_1 (ex Try.prog (n + 2)) (endE none) exitE (endE (some E.ret)) (Tm.set 10 (iv i) (Tm.set 47 (iv i) T)) m) from H _ fun m2 a b c => ⟨rfl, a, b, c⟩
  intro P hP
  obtain ⟨loc, va, vo, A, O, tag, h, hL, hSj⟩ := h
  obtain ⟨j, hj⟩ : ∃ j, TH i = j := ⟨_, rfl⟩
  rw [hj] at hjn
  obtain ⟨s1, s2, s3⟩ := hSj j hjn
  obtain ⟨b1, b2, b3⟩ := hbd j
  have hAl : (A j).length ≤ 900 := by have := congrArg List.length s2; rw [List.length_map] at this; omega
  have hOl : (O j).length ≤ 900 := by rw [s3]; omega
  have hS := h.st.sees
  have lf := hLF.sees hS
  have lq := h.lq
  rw [hPB] at lq
  have l8 := h.lt8
  have x5 := idxE (e := 1) (c := 3) A5 es.length i hi
  rw [Nat.mul_one] at x5
  have z5 := lf.a5 i hi
  rw [hj] at z5
  have xT := idxE (e := 2) (c := 5) u.TB nt j hjn
  obtain ⟨v2, m2, g1, g2, rfl⟩ := pfence_c n PB ed es i hi (by omega) m hS.base lf.lP lf.p0 lf.hed
  obtain ⟨f, hf⟩ : ∃ f, f = fenE es i := ⟨_, rfl⟩
  have hf' : (eAt es (ahN es.length i)).2 = f := by rw [hf]; rfl
  rw [hf'] at g1
  have h2 := h.step g2
  have hLT : L ≠ u.TB := fun e => hLb u.TB (by simp) e.symm
  have hLO : L ≠ u.OB := fun e => hLb u.OB (by simp) e.symm
  unfold yb_weave_Weave_1
  simp [t5, t8, lq, l8, lf.p5, x5, z5, xT, g1, -c_weave_Weave_12_ap]
  have fin : ∀ (m3 : M) (A3 : Nat → List AR) va3 tag3 t, WI m1 m3 u N nt fv loc va3 vo A3 O tag3 → m.n ≤ m3.n → m3.obj L = m.obj L → tag3 L = 0 → (A3 j).map AR.era = (A j).map AR.era ++ evF f → (∀ k, k ≠ j → A3 k = A k) → (A3 j).length ≤ 1000 →
      Tm.get 1 t = .pointer (some ⟨c1, 0, none⟩) → Tm.get 5 t = .pointer (some ⟨u.q5, 0, none⟩) → Tm.get 9 t = .pointer (some ⟨u.P9, 0, none⟩) → Tm.get 10 t = iv i → Tm.get 11 t = .pointer (some ⟨u.TB, j * 2, none⟩) →
      Rnd P (c_weave_Weave_12 (ex Try.prog (n + 2)) (endE none) (outOf 1 (endE none) exitE) (endE (some E.ret)) t m3) := by
    intro m3 A3 va3 tag3 t w n3 o3 g3 e3 k3 l3 q1 q5 q9 q10 q11
    refine wv_tail n hb1 hLF hok hPB hi hml hj hjn w l3 (by omega) (by omega) q1 q5 q9 q10 q11 g3 (by omega) hLT hLO P fun m4 va4 vo4 tag4 r w4 n4 o4 g4 er => hP m4 (o4.trans o3) (by omega) ⟨_, _, _, _, _, _, w4, g4, fun k hk => ?_⟩
    by_cases e : k = j
    · subst e
      have hw : wStep es ms TH CE VA S i k = tsStep es ms CE VA i (S k) := by unfold wStep; rw [hj, upN_same]
      rw [hw, upN_same, List.map_append, e3, s2]
      unfold tsStep
      rw [← hf]
      cases hfr : fromE es i with
      | true =>
        rw [hfr] at er
        simp only [if_true] at er ⊢
        exact ⟨s1, by simp [er], s3⟩
      | false =>
        rw [hfr] at er
        simp only [Bool.false_eq_true, if_false] at er ⊢
        rw [upN_same, upN_same]
        exact ⟨by rw [s1], by simp [er, s1], by rw [s3]⟩
    · have hw : wStep es ms TH CE VA S i k = S k := by unfold wStep; rw [hj, upN_ne _ _ e]
      obtain ⟨k1, k2, k3'⟩ := hSj k hk
      rw [hw, upN_ne _ _ e, k3 k e]
      refine ⟨?_, k2, ?_⟩
      · split
        · exact k1
        · rw [upN_ne _ _ e]; exact k1
      · split
        · exact k3'
        · rw [upN_ne _ _ e]; exact k3'
  by_cases hz : f = 0
  · simp [hz, -c_weave_Weave_12_ap]
    refine fin m2 A va tag _ h2 g2.n (g2.obj L hLm) hL (by rw [hz]; simp [evF]) (fun _ _ => rfl) (by omega) ?_ ?_ ?_ ?_ ?_
    · simp [t1]
    · simp [t5]
    · simp [t9]
    · simp
    · simp
  · have lva := h2.lva hjn
    obtain ⟨M3, hM3⟩ : ∃ M3, M3 = Dx.newRow m2 [iv 7, iv 0, iv 0, iv 0, .slice none 0 0, .slice none 0 0, .slice none 0 0, iv f, iv 0, iv 0, iv 0] := ⟨_, rfl⟩
    have E3 : Ext m2 M3 := by rw [hM3]; exact Ext.row _ _
    obtain ⟨v', m4, m5, p1, p2, tag', p3, p4, p5⟩ := h2.act hb1 hjn ⟨7, 0, 0, f, none⟩ E3 (fun B op v hB => by cases hB) (X := m2.n) (sp := some 23) (by rw [hM3]; exact (Arr.row m2 _).loads (by simp)) (by omega)
    simp [hz, lva, ← hM3, p1, p2, -c_weave_Weave_12_ap]
    have hL2 : L < m2.n := by have := g2.n; omega
    refine fin m5 _ _ tag' _ p3 (by have := g2.n; have := E3.n; omega) (by rw [(p5 L hL2 hL).2 hLT, g2.obj L hLm]) (p5 L hL2 hL).1 (by rw [upN_same]; simp [evF, hz, AR.era]) (fun k hk => by rw [upN_ne _ _ hk]) (by rw [upN_same]; simp; omega) ?_ ?_ ?_ ?_ ?_
    · simp [t1]
    · simp [t5]
    · simp [t9]
    · simp
    · simp
end Go.Sx

set_option linter.unusedSimpArgs false
set_option linter.unusedVariables false
namespace Go.Dx
@[simp] theorem build_print (o : Int) (a : Option Addr) (x y : Nat) : buildV [.int .i64 0, .int .i64 0, .int .i64 0, .int .i64 0, .slice none 0 0, .slice none 0 0, .slice none 0 0, .int .i64 0, .int .i64 0, .int .i64 0, .int .i64 0] [(0, 1, .int .i64 o), (5, 1, .slice a x y)] =
    some (.agg ⟨[.int .i64 o, .int .i64 0, .int .i64 0, .int .i64 0, .slice none 0 0, .slice a x y, .slice none 0 0, .int .i64 0, .int .i64 0, .int .i64 0, .int .i64 0]⟩) := _root_.id rfl
end Go.Dx
namespace Go.Sx
open Go.Dx Go.Proofs
def WK (m1 m : M) (u : WB) (N nt : Nat) (fv : Value) (S : Nat → TS) : Prop := ∃ loc va vo A O tag, WI m1 m u N nt fv loc va vo A O tag ∧ ∀ j, j < nt → loc j = (S j).loc ∧ (A j).map AR.era = (S j).acts ∧ O j = (S j).outs
theorem WJ.toK {m1 m : M} {u : WB} {N nt : Nat} {fv : Value} {S : Nat → TS} {L : Nat} (h : WJ m1 m u N nt fv S L) : WK m1 m u N nt fv S := let ⟨a, b, c, d, f, g, h1, _, h3⟩ := h; ⟨a, b, c, d, f, g, h1, h3⟩
theorem WK.congr {m1 m : M} {u : WB} {N nt : Nat} {fv : Value} {S S' : Nat → TS} (h : WK m1 m u N nt fv S) (e : ∀ j, j < nt → S' j = S j) : WK m1 m u N nt fv S' := let ⟨a, b, c, d, f, g, h1, h3⟩ := h; ⟨a, b, c, d, f, g, h1, fun j hj => by rw [e j hj]; exact h3 j hj⟩
abbrev prA (k : Nat) : AB := (8, 0, 0, 0, some (2, k))
def prints (q : Nat) : List AB := (List.range q).map prA
theorem prints_succ (q : Nat) : prints (q + 1) = prints q ++ [prA q] := by unfold prints; rw [List.range_succ, List.map_append]; rfl
theorem prints_len (q : Nat) : (prints q).length = q := by unfold prints; simp
def TS.pr (s : TS) (q : Nat) : TS := ⟨s.loc, s.acts ++ prints q, s.outs⟩
def TS.fin (s : TS) : TS := s.pr s.loc
theorem wv_print (n : Nat) {m1 : M} {u : WB} {N nt : Nat} {fv : Value} (hb1 : m1.base ≤ m1.n) {S : Nat → TS} (hbd : ∀ j, (S j).loc ≤ 400 ∧ (S j).acts.length ≤ 400) {p : Nat} (hp : p < nt) (Q : Option Out → Prop) (kn0 kn kr : K) (ke : Nat → K) (t : Tm) (m : M)
    (h14 : Tm.get 14 t = .pointer (some ⟨u.TB, p * 2, none⟩)) (h187 : Tm.get 187 t = iv (S p).loc) (h188 : Tm.get 188 t = iv 0) (h : WK m1 m u N nt fv S) (I : Tm → Prop) (hI : I t) (hIk : ∀ t i v, I t → i ∉ [2, 3, 5, 8, 9, 176, 177] → I (Tm.set i v t))
    (hq : ∀ t m, I t → WK m1 m u N nt fv (upN S p (S p).fin) → Q (kn t m)) : Q (c_weave_Weave_26 (ex Try.prog n) kn0 (outOf 4 kn ke) kr t m) := by
  obtain ⟨q0, hq0⟩ : ∃ q, q = (S p).loc := ⟨_, rfl⟩
  have hq400 : q0 ≤ 400 := by rw [hq0]; exact (hbd p).1
  rw [← hq0] at h187
  refine loop_run (c := c_weave_Weave_26) rfl Q (fun i t m' => Tm.get 14 t = .pointer (some ⟨u.TB, p * 2, none⟩) ∧ Tm.get 187 t = iv q0 ∧ Tm.get 188 t = iv i ∧ I t ∧ WK m1 m' u N nt fv (upN S p ((S p).pr i))) q0 (by omega)
    ⟨h14, h187, h188, hI, h.congr fun j hj => ?_⟩ (fun i t m' k hi hJ hk => ?_)
  · by_cases e : j = p
    · subst e; rw [upN_same]; simp [TS.pr, prints]
    · rw [upN_ne _ _ e]
  obtain ⟨h14, h187, h188, hI, hW⟩ := hJ
  by_cases hil : i < q0
  · obtain ⟨loc, va, vo, A, O, tag, w, hS⟩ := hW
    obtain ⟨s1, s2, s3⟩ := hS p hp
    rw [upN_same] at s1 s2 s3
    have hAl : (A p).length ≤ 1000 := by
      have := congrArg List.length s2
      rw [List.length_map] at this
      simp only [TS.pr, List.length_append, prints_len] at this
      have := (hbd p).2
      omega
    have hd := dlt hil
    have w1 := nextI (i := i) (by omega)
    have cvv := convI_u64 i (by omega)
    have lva := w.lva hp
    obtain ⟨M1, hM1⟩ : ∃ M1, M1 = Dx.newRow m' [iv 2, .int .u64 i, iv 0, iv 0] := ⟨_, rfl⟩
    have n1 : M1.n = m'.n + 1 := by rw [hM1, newRow_n]
    obtain ⟨M2, hM2⟩ : ∃ M2, M2 = Dx.newRow M1 [iv 8, iv 0, iv 0, iv 0, .slice none 0 0, .slice (some ⟨m'.n, 0, some 9⟩) 1 1, .slice none 0 0, iv 0, iv 0, iv 0, iv 0] := ⟨_, rfl⟩
    have E1 : Ext m' M1 := by rw [hM1]; exact Ext.row _ _
    have E2 : Ext M1 M2 := by rw [hM2]; exact Ext.row _ _
    have hA1 : Arr M2 m'.n (nodeRow 2 i) := by
      have : Arr M1 m'.n (nodeRow 2 i) := by rw [hM1]; exact Arr.row m' _
      exact this.ext E2 (by omega)
    obtain ⟨v', m4, m5, p1, p2, tag', p3, p4, p5⟩ := w.act hb1 hp ⟨8, 0, 0, 0, some (m'.n, 2, i)⟩ (E1.trans E2) (fun B op v hB => by cases hB; exact ⟨Nat.le_refl _, by have := E2.n; omega, hA1⟩) (X := M1.n) (sp := some 23) (by rw [hM2]; exact (Arr.row M1 _).loads (by simp)) hAl
    rw [n1] at p1
    simp [h14, h187, h188, hd, lva, cvv, ← hM1, n1, ← hM2, p1, p2, w1]
    refine hk hil _ _ ⟨by simp [h14], by simp [h187], by simp, ?_, _, _, _, _, _, tag', p3, fun j hj => ?_⟩
    · repeat' (first | exact hI | refine hIk _ _ _ ?_ (by simp))
    · by_cases e : j = p
      · subst e
        rw [upN_same, upN_same]
        refine ⟨s1, ?_, s3⟩
        rw [List.map_append, s2]
        simp [TS.pr, prints_succ, AR.era]
      · have := hS j hj
        rw [upN_ne _ _ e] at this ⊢
        rw [upN_ne _ _ e]
        exact this
  · obtain rfl : i = q0 := by omega
    have hd : ((i : Int) < (i : Int)) = False := eq_false (by omega)
    simp [h187, h188, hd]
    refine hq _ _ ?_ ?_
    · repeat' (first | exact hI | refine hIk _ _ _ ?_ (by simp))
    · rw [hq0] at hW; exact hW
theorem wv_prints (n : Nat) {m1 : M} {u : WB} {N nt : Nat} {fv : Value} (hnt : nt ≤ 16) (hb1 : m1.base ≤ m1.n) {S : Nat → TS} (hbd : ∀ j, (S j).loc ≤ 100 ∧ (S j).acts.length ≤ 100) (Q : Option Out → Prop) (kn0 kn kr : K) (ke : Nat → K) (t : Tm) (m : M) {P2 P3 : Nat}
    (t2 : Tm.get 2 t = .pointer (some ⟨P2, 0, none⟩)) (t3 : Tm.get 3 t = .pointer (some ⟨P3, 0, none⟩)) (t5 : Tm.get 5 t = .pointer (some ⟨u.q5, 0, none⟩)) (t8 : Tm.get 8 t = .pointer (some ⟨u.P8, 0, none⟩)) (t9 : Tm.get 9 t = .pointer (some ⟨u.P9, 0, none⟩))
    (h176 : Tm.get 176 t = iv nt) (h177 : Tm.get 177 t = iv 0) (h : WK m1 m u N nt fv S)
    (hq : ∀ t m, Tm.get 2 t = .pointer (some ⟨P2, 0, none⟩) → Tm.get 3 t = .pointer (some ⟨P3, 0, none⟩) → Tm.get 5 t = .pointer (some ⟨u.q5, 0, none⟩) → Tm.get 9 t = .pointer (some ⟨u.P9, 0, none⟩) → Tm.get 8 t = .pointer (some ⟨u.P8, 0, none⟩) → WK m1 m u N nt fv (fun j => (S j).fin) → Q (kn t m)) : Q (c_weave_Weave_35 (ex Try.prog n) kn0 (outOf 2 kn ke) kr t m) := by
  refine loop_run (c := c_weave_Weave_35) rfl Q (fun i t m' => (Tm.get 2 t = .pointer (some ⟨P2, 0, none⟩) ∧ Tm.get 3 t = .pointer (some ⟨P3, 0, none⟩) ∧ Tm.get 5 t = .pointer (some ⟨u.q5, 0, none⟩) ∧ Tm.get 8 t = .pointer (some ⟨u.P8, 0, none⟩) ∧ Tm.get 9 t = .pointer (some ⟨u.P9, 0, none⟩) ∧ Tm.get 176 t = iv nt) ∧ Tm.get 177 t = iv i ∧
      WK m1 m' u N nt fv (fun j => if j < i then (S j).fin else S j)) nt (by omega)
    ⟨⟨t2, t3, t5, t8, t9, h176⟩, h177, h.congr fun j hj => by simp⟩ (fun i t m' k hi hJ hk => ?_)
  obtain ⟨⟨t2, t3, t5, t8, t9, h176⟩, h177, hW⟩ := hJ
  by_cases hil : i < nt
  · have hd := dlt hil
    have w1 := nextI (i := i) (by omega)
    have xT := idxE (e := 2) (c := 5) u.TB nt i hil
    have ⟨l8, ll⟩ : load1 m' ⟨u.P8, 1, none⟩ = some (.slice (some ⟨u.TB, 0, some 5⟩) nt nt) ∧ load1 m' ⟨u.TB, i * 2, none⟩ = some (iv (S i).loc) := by
      obtain ⟨loc, va, vo, A, O, tag, w, hS⟩ := hW
      have := (hS i hil).1
      simp only [Nat.lt_irrefl, if_false] at this
      exact ⟨w.lt8, by rw [w.lloc hil, this]⟩
    simp [t8, h176, h177, hd, l8, ll, xT]
    refine wv_print n hb1 (S := fun j => if j < i then (S j).fin else S j) (fun j => ?_) hil Q _ _ _ _ _ _ ?_ ?_ ?_ hW
      (fun t => (Tm.get 2 t = .pointer (some ⟨P2, 0, none⟩) ∧ Tm.get 3 t = .pointer (some ⟨P3, 0, none⟩) ∧ Tm.get 5 t = .pointer (some ⟨u.q5, 0, none⟩) ∧ Tm.get 8 t = .pointer (some ⟨u.P8, 0, none⟩) ∧ Tm.get 9 t = .pointer (some ⟨u.P9, 0, none⟩) ∧ Tm.get 176 t = iv nt) ∧ Tm.get 177 t = iv i)
      ?_ (fun t i v h hm => ?_) (fun t m hI hW' => ?_)
    · have := hbd j
      split
      · simp only [TS.fin, TS.pr, List.length_append, prints_len]; omega
      · omega
    · simp
    · simp
    · simp
    · exact ⟨⟨by simp [t2], by simp [t3], by simp [t5], by simp [t8], by simp [t9], by simp [h176]⟩, by simp [h177]⟩
    · simp only [List.mem_cons, List.not_mem_nil, or_false, not_or] at hm
      obtain ⟨a1, a2, a3, a4, a5, a6, a7⟩ := hm
      simp only [get_set]
      rw [if_neg (Ne.symm a1), if_neg (Ne.symm a2), if_neg (Ne.symm a3), if_neg (Ne.symm a4), if_neg (Ne.symm a5), if_neg (Ne.symm a6), if_neg (Ne.symm a7)]
      exact h
    · obtain ⟨⟨t2, t3, t5, t8, t9, h176⟩, h177⟩ := hI
      simp [h177, w1]
      refine hk hil _ _ ⟨⟨by simp [t2], by simp [t3], by simp [t5], by simp [t8], by simp [t9], by simp [h176]⟩, by simp, hW'.congr fun j hj => ?_⟩
      by_cases e : j = i
      · subst e; rw [upN_same]; simp
      · rw [upN_ne _ _ e]
        by_cases h' : j < i
        · rw [if_pos (by omega), if_pos h']
        · rw [if_neg (by omega), if_neg h']
  · obtain rfl : i = nt := by omega
    have hd : ((i : Int) < (i : Int)) = False := eq_false (by omega)
    simp [h176, h177, hd]
    exact hq _ _ (by simp [t2]) (by simp [t3]) (by simp [t5]) (by simp [t9]) (by simp [t8]) (hW.congr fun j hj => by rw [if_pos hj])
end Go.Sx

set_option linter.unusedSimpArgs false
set_option linter.unusedVariables false
namespace Go.Dx
section
variable {m0 m m' : M} {σ σ' : List (Nat × List Value)} {k b : Nat} {l : List Value}
theorem St.sub (h : St m0 m σ) (hs : ∀ p ∈ σ', p ∈ σ) (hn : (σ'.map (·.1)).Nodup) : St m0 m σ' := ⟨h.ext, h.base, fun p hp => h.arr p (hs p hp), hn⟩
theorem Grown.low {α : Type} {m0 m0' m : M} {v : Value} {e : Nat} {f : α → List Value} {es : List α} (h : Grown m0 m v e f es) (hn : m0'.n ≤ m0.n) : Grown m0' m v e f es := by
  rcases h with h | ⟨B, h1, h2⟩
  · exact .inl h
  · exact .inr ⟨B, by omega, h2⟩
/-- a whole block is written, in a region that draws -/
theorem St.fillAny (h : St m0 m σ) (k : Nat) (hk : σ[k]? = some (b, l)) {n : Nat} {l' : List Value} (hn0 : 0 < n) (hl : l.length = n) (hl' : l'.length = n) (hv : ∀ v ∈ l', okC v = true) :
    ∃ m', storeS n (.pointer (some ⟨b, 0, none⟩)) (.agg ⟨l'⟩) (forAny m) = some (undef, m') ∧ m'.log = [b] ∧ St m0 (Dx.behind m m') (σ.set k (b, l')) ∧ (Dx.behind m m').n = m.n ∧ (∀ X, X ≠ b → (Dx.behind m m').obj X = m.obj X) := by
  obtain ⟨h1, h2, h3⟩ := h.get k hk
  have h3' : Arr (forAny m) b l := h3.congr (forAny_obj m b)
  have e := storeS_arr (n := n) (o := 0) (v := .agg ⟨l'⟩) (l := l') h3' rfl hl' (by omega) hv
  obtain ⟨s1, s2, s3, s4, s5, s6⟩ := stores_putN (o := 0) (l := l') h3' (by omega) hv
  rw [over_fill (by omega)] at s2
  have hlog : (putN (forAny m) b 0 l').log = [b] := by
    obtain ⟨c, hc, hcl⟩ := h3'
    obtain ⟨v0, vs, rfl⟩ : ∃ v0 vs, l' = v0 :: vs := by
      cases l' with
      | nil => simp at hl'; omega
      | cons a b => exact ⟨a, b, rfl⟩
    have : ∃ c', stores (forAny m) ⟨b, 0, none⟩ (v0 :: vs) = some ((forAny m).put b (.cells c')) := by
      have hs : stores (forAny m) ⟨b, 0, none⟩ (v0 :: vs) = ob (oCells ((forAny m).obj b)) fun c => ob (stn c 0 (v0 :: vs)) fun c' => some ((forAny m).put b (.cells c')) := rfl
      rw [hs, hc]
      obtain ⟨c', e', _⟩ := stn_of (vs := v0 :: vs) (o := 0) hcl (by omega) hv
      exact ⟨c', by show ob (stn c 0 (v0 :: vs)) _ = _; rw [e']; rfl⟩
    obtain ⟨c', e'⟩ := this
    have hp : putN (forAny m) b 0 (v0 :: vs) = (forAny m).put b (.cells c') := by unfold putN; rw [e']; rfl
    rw [hp]
    cases m with | mk a nx bs wl =>
    show note nx b [] = [b]
    have h2' : b < nx := h2
    unfold note
    have : Nat.ble nx b = false := by
      cases q : Nat.ble nx b with
      | false => rfl
      | true => exact absurd (Nat.le_of_ble_eq_true q) (by omega)
    rw [this]; rfl
  refine ⟨_, e, hlog, h.put' k hk (by rw [behind_n, s3, forAny_n]) (behind_base _ _) ?_ (fun X hX => by rw [behind_obj, s5 X hX, forAny_obj]) (s2.congr (behind_obj _ _ _)), by rw [behind_n, s3, forAny_n], fun X hX => by rw [behind_obj, s5 X hX, forAny_obj]⟩
  rw [behind_log, hlog]
  refine notes_ge fun B hB => ?_
  rw [List.mem_singleton.1 hB, h.ext.base]
  have := h.base
  omega
end
end Go.Dx
namespace Go.Sx
open Go.Dx Go.Proofs
/-- the writes of each cell -/
theorem wv_final (n : Nat) {m1 m5 : M} {u : WB} {N nt : Nat} (hN : N ≤ 16) (hb1 : m1.base ≤ m1.n) {A8 : Nat} (h8m : A8 < m1.n) {WR : Nat → Nat} (hsm : ∀ x, WR x < 1000000) (h8 : ∀ x, x < N → load1 m1 ⟨A8, x, none⟩ = some (iv (WR x))) {loc : Nat → Nat} {va vo : Nat → Value} (h : St m1 m5 (u.σ N nt (.slice none 0 0) loc va vo)) (Q : Option Out → Prop) (kn0 kn kr : K) (ke : Nat → K) (t : Tm) {P2 P3 : Nat}
    (t2 : Tm.get 2 t = .pointer (some ⟨P2, 0, none⟩)) (t3 : Tm.get 3 t = .pointer (some ⟨P3, 0, none⟩)) (t8 : Tm.get 8 t = .pointer (some ⟨u.P8, 0, none⟩)) (t9 : Tm.get 9 t = .pointer (some ⟨u.P9, 0, none⟩)) (h210 : Tm.get 210 t = .slice (some ⟨A8, 0, some 3⟩) N N) (h211 : Tm.get 211 t = iv N) (h212 : Tm.get 212 t = iv 0)
    (hq : ∀ t m fv, Tm.get 2 t = .pointer (some ⟨P2, 0, none⟩) → Tm.get 3 t = .pointer (some ⟨P3, 0, none⟩) → Tm.get 8 t = .pointer (some ⟨u.P8, 0, none⟩) → Tm.get 9 t = .pointer (some ⟨u.P9, 0, none⟩) → St m1 m (u.σ N nt fv loc va vo) → Grown m1 m fv 1 outRow ((List.range N).map WR) → (∀ B, blk fv = some B → m5.n ≤ B) → m5.n ≤ m.n → (∀ B, B < m5.n → B ≠ u.P9 → m.obj B = m5.obj B) → Q (kn t m)) :
    Q (c_weave_Weave_44 (ex Try.prog n) kn0 (outOf 6 kn ke) kr t m5) := by
  refine loop_run (c := c_weave_Weave_44) rfl Q (fun i t m' => (Tm.get 2 t = .pointer (some ⟨P2, 0, none⟩) ∧ Tm.get 3 t = .pointer (some ⟨P3, 0, none⟩) ∧ Tm.get 8 t = .pointer (some ⟨u.P8, 0, none⟩) ∧ Tm.get 9 t = .pointer (some ⟨u.P9, 0, none⟩) ∧ Tm.get 210 t = .slice (some ⟨A8, 0, some 3⟩) N N ∧ Tm.get 211 t = iv N) ∧ Tm.get 212 t = iv i ∧
      ∃ fv, St m1 m' (u.σ N nt fv loc va vo) ∧ Grown m1 m' fv 1 outRow ((List.range i).map WR) ∧ (∀ B, blk fv = some B → m5.n ≤ B) ∧ m5.n ≤ m'.n ∧ ∀ B, B < m5.n → B ≠ u.P9 → m'.obj B = m5.obj B) N (by omega)
    ⟨⟨t2, t3, t8, t9, h210, h211⟩, h212, _, h, by simpa using Grown.nil, fun B hB => by (cases hB), Nat.le_refl _, fun _ _ _ => rfl⟩ (fun i t m' k hi hJ hk => ?_)
  obtain ⟨⟨t2, t3, t8, t9, h210, h211⟩, h212, fv, st, hG, hfv, hn5, ho⟩ := hJ
  by_cases hil : i < N
  · have hd := dlt hil
    have w1 := nextI (i := i) (by omega)
    have x8 := idxE (e := 1) (c := 3) A8 N i hil
    rw [Nat.mul_one] at x8
    have l8 : load1 m' ⟨A8, i, none⟩ = some (iv (WR i)) := (load1_sees st.sees h8m).trans (h8 i hil)
    obtain ⟨w, hw⟩ : ∃ w, w = WR i := ⟨_, rfl⟩
    have cvv := convI_u64 w (by rw [hw]; exact hsm i)
    rw [← hw] at l8
    have lf : load1 m' ⟨u.P9, 0, none⟩ = some fv := by rw [(st.get 3 rfl).2.2.load1]; rfl
    obtain ⟨M1, hM1⟩ : ∃ M1, M1 = Dx.newRow m' [.int .u64 w] := ⟨_, rfl⟩
    have E1 : Ext m' M1 := by rw [hM1]; exact Ext.row _ _
    have hlen : ((List.range i).map WR).length = i := by simp
    obtain ⟨v', m2, p1, p2, p3, p4, p5, p6⟩ := (hG.ext E1).append (st.ext.trans E1) hb1 (by omega) outRow_len outRow_ok (x := w) (X := m'.n) (sp := some 3) (by rw [hM1]; exact (Arr.row m' _).loads (by simp)) (bytes := 8) (by rw [hlen]; unfold most; omega) (by rw [hlen]; omega)
    have hE1n := E1.n
    have st2 : St m1 m2 (u.σ N nt fv loc va vo) := (st.step E1).keepOn p2 p4 fun p hp => p5 p.1 (by have := (st.arr p hp).2.1; omega) fun hc => by
      have := hfv _ hc
      have hp' : p.1 ∈ (u.σ N nt (.slice none 0 0) loc va vo).map (·.1) := by
        have e : (u.σ N nt (.slice none 0 0) loc va vo).map (·.1) = (u.σ N nt fv loc va vo).map (·.1) := rfl
        rw [e]; exact List.mem_map.2 ⟨_, hp, rfl⟩
      obtain ⟨q, hq, e⟩ := List.mem_map.1 hp'
      have := (h.arr q hq).2.1
      omega
    obtain ⟨m3, s1, s2, s3, s4⟩ := st2.store 3 rfl (o := 0) (v := v') (by simp) p3.okC
    have h9m : u.P9 < m5.n := (h.get 3 rfl).2.1
    simp [t2, t3, t8, t9, h210, h211, h212, hd, x8, l8, lf, cvv, ← hM1, p1, s1, w1]
    refine hk hil _ _ ⟨⟨by simp [t2], by simp [t3], by simp [t8], by simp [t9], by simp [h210], by simp [h211]⟩, by simp, v', s2, ?_, fun B hB => by have := p6 B hB; omega, by omega, fun B hB hne => ?_⟩
    · have e : (List.range (i + 1)).map WR = (List.range i).map WR ++ [w] := by rw [List.range_succ, List.map_append, hw]; rfl
      rw [e]
      exact p3.keep (by omega) fun B hB hb => s4 B (by have := p6 B hb; omega)
    · rw [s4 B hne, p5 B (by omega) (fun hc => by have := hfv B hc; omega), E1.obj B (by omega)]
      exact ho B hB hne
  · obtain rfl : i = N := by omega
    have hd : ((i : Int) < (i : Int)) = False := eq_false (by omega)
    simp [h211, h212, hd]
    exact hq _ _ fv (by simp [t2]) (by simp [t3]) (by simp [t8]) (by simp [t9]) st hG hfv hn5 ho
end Go.Sx

set_option linter.unusedSimpArgs false
set_option linter.unusedVariables false
namespace Go.Dx
theorem ret_cct {m0 m : M} {Q : Value → M → Prop} {t : Tm} {p q r : Nat} {a b : Addr} {l1 l2 : List Value} (h1 : Tm.get p t = .pointer (some a)) (h2 : loads m a 2 = some l1) (h3 : Tm.get q t = .pointer (some b)) (h4 : loads m b 2 = some l2) (he : Ext m0 m) (hq : Q (.tuple #[.agg ⟨l1⟩, .agg ⟨l2⟩, Tm.get r t]) m) :
    Ret m0 Q (resK [.cell p 2, .cell q 2, .t r] t m) := by
  refine ret_of (l := [.agg ⟨l1⟩, .agg ⟨l2⟩, Tm.get r t]) ?_ he hq
  simp only [resV, resOne, h1, h3, vPtr_ptr, ob_some', h2, h4]
@[simp] theorem build_pair0 : buildV [.int .i64 0, .slice none 0 0] [] = some (.agg ⟨[.int .i64 0, .slice none 0 0]⟩) := _root_.id rfl
@[simp] theorem build_sl0 : buildV [.slice none 0 0, .slice none 0 0] [] = some (.agg ⟨[.slice none 0 0, .slice none 0 0]⟩) := _root_.id rfl
@[simp] theorem build_prog (a : Int) (x : Option Addr) (y z : Nat) : buildV [.int .i64 0, .slice none 0 0] [(0, 1, .int .i64 a), (1, 1, .slice x y z)] = some (.agg ⟨[.int .i64 a, .slice x y z]⟩) := _root_.id rfl
@[simp] theorem build_outc (x : Option Addr) (y z : Nat) : buildV [.slice none 0 0, .slice none 0 0] [(1, 1, .slice x y z)] = some (.agg ⟨[.slice none 0 0, .slice x y z]⟩) := _root_.id rfl
end Go.Dx
namespace Go.Sx
open Go.Dx Go.Proofs
def TS0 : Nat → TS := fun _ => ⟨0, [], []⟩
/-- what is woven -/
def Woven (m : M) (v : Value) (N nt : Nat) (S : Nat → TS) (W : List Nat) : Prop :=
  ∃ (tsl osl fsl : Value) (loc : Nat → Nat) (va vo : Nat → Value) (A : Nat → List AR), v = .tuple #[.agg #[iv N, tsl], .agg #[fsl, osl], iv 0] ∧ Rd m fsl 1 outRow W ∧ Rd m tsl 2 (fun p : Int × Value => [iv p.1, p.2]) ((List.range nt).map fun (j : Nat) => (((loc j : Nat) : Int), (va j : Value))) ∧ Rd m osl 1 (fun v => [v]) ((List.range nt).map vo) ∧
    ∀ j, j < nt → loc j = (S j).loc ∧ (A j).map AR.era = (S j).acts ∧ Rd m (va j) 11 actRow (A j) ∧ Rd m (vo j) 1 outRow (S j).outs ∧ ∀ r, r ∈ A j → ∀ B op v, r.e = some (B, op, v) → B < m.n ∧ Arr m B (nodeRow op v)
/-- what lay leaves, event by event -/
structure LayLaw (es : List (Int × Int)) (va : List Nat) (TH CE VA WR : Nat → Nat) : Prop where
  th : ∀ i, i < es.length → (lays es (es.length - cnt es) (ordL es (begE es))).th[i]? = some (TH i)
  tl : ∀ i, i < es.length → TH i < cnt es
  ce : ∀ i, i < es.length → (lays es (es.length - cnt es) (ordL es (begE es))).ce[i]? = some (CE i)
  va : ∀ i, i < es.length → va[i]? = some (VA i)
  wr : ∀ x, x < es.length - cnt es → (lays es (es.length - cnt es) (ordL es (begE es))).wr[x]? = some (WR x)
  vs : ∀ i, VA i < 1000000
  ws : ∀ i, WR i < 1000000
theorem wfold_bd (es : List (Int × Int)) (ms : List Int) (TH CE VA : Nat → Nat) : ∀ (l : List Nat) (k : Nat) (S : Nat → TS), (∀ j, (S j).loc ≤ k ∧ (S j).acts.length ≤ 2 * k ∧ (S j).outs.length ≤ k) →
    ∀ j, (l.foldl (wStep es ms TH CE VA) S j).loc ≤ k + l.length ∧ (l.foldl (wStep es ms TH CE VA) S j).acts.length ≤ 2 * (k + l.length) ∧ (l.foldl (wStep es ms TH CE VA) S j).outs.length ≤ k + l.length
  | [], k, S, h => h
  | i :: l, k, S, h => by
    have := wfold_bd es ms TH CE VA l (k + 1) (wStep es ms TH CE VA S i) fun j => by
      unfold wStep
      by_cases e : j = TH i
      · subst e
        rw [upN_same]
        obtain ⟨h1, h2, h3⟩ := h (TH i)
        have hf : (evF (fenE es i)).length ≤ 1 := by unfold evF; split <;> simp
        unfold tsStep
        split
        · refine ⟨by simp only; omega, by simp only [List.length_append, List.length_singleton]; omega, by simp only; omega⟩
        · refine ⟨by simp only; omega, by simp only [List.length_append, List.length_singleton]; omega, by simp only [List.length_append, List.length_singleton]; omega⟩
      · rw [upN_ne _ _ e]
        obtain ⟨h1, h2, h3⟩ := h j
        exact ⟨by omega, by omega, by omega⟩
    rw [List.foldl_cons, List.length_cons, show k + (l.length + 1) = k + 1 + l.length by omega]
    exact this
set_option maxHeartbeats 1000000 in
theorem Weave_c (n : Nat) (ed md : Value) (es : List (Int × Int)) (ms : List Int) (m : M) (hm : m.base ≤ m.n) (hl : es.length < 9223372036854775807) (hed : Rd m ed 2 edgeRow es) (hmd : Rd m md 1 modeRow ms) (ch : Nat → List Nat)
    (hch : (layA es ms).2 = 0 → ∀ c, c < es.length - cnt es → ChainOK es (lays es (es.length - cnt es) (ordL es (begE es))).ce (begE es) c (ch c)) (TH CE VA WR : Nat → Nat)
    (hlaw : (layA es ms).2 = 0 → LayLaw es (valsF es ch (List.replicate es.length 0) (es.length - cnt es)) TH CE VA WR) :
    Dx.Call (ex Try.prog (n + 9)) 12 [.agg #[ed, md]] m fun v m' => ((layA es ms).2 ≠ 0 ∧ v = .tuple #[.agg #[iv 0, .slice none 0 0], .agg #[.slice none 0 0, .slice none 0 0], iv (layA es ms).2]) ∨
      ((layA es ms).2 = 0 ∧ Woven m' v (es.length - cnt es) (cnt es) (fun j => ((ordL es (begE es)).foldl (wStep es ms TH CE VA) TS0 j).fin) ((List.range (es.length - cnt es)).map WR)) := by
  suffices H : ∀ Q : Value → M → Prop, (∀ v m', (((layA es ms).2 ≠ 0 ∧ v = .tuple #[.agg #[iv 0, .slice none 0 0], .agg #[.slice none 0 0, .slice none 0 0], iv (layA es ms).2]) ∨
      ((layA es ms).2 = 0 ∧ Woven m' v (es.length - cnt es) (cnt es) (fun j => ((ordL es (begE es)).foldl (wStep es ms TH CE VA) TS0 j).fin) ((List.range (es.length - cnt es)).map WR))) → Q v m') → Dx.Call (ex Try.prog (n + 9)) 12 [.agg #[ed, md]] m Q from H _ fun _ _ h => h
  intro Q hQ
  refine call_ret d_weave_Weave_ok (by simp) ?_
  have st0 : St m m [] := St.nil hm (Ext.refl m)
  have stA := ((st0.row [ed, md]).row [.int .i64 0, .slice none 0 0]).row [.slice none 0 0, .slice none 0 0]
  simp only [newRow_n] at stA
  obtain ⟨mA, hmA⟩ : ∃ mA, mA = Dx.newRow (Dx.newRow (Dx.newRow m [ed, md]) [.int .i64 0, .slice none 0 0]) [.slice none 0 0, .slice none 0 0] := ⟨_, rfl⟩
  rw [← hmA] at stA
  have lbA : loads mA ⟨m.n, 0, none⟩ 2 = some [ed, md] := (stA.get 2 rfl).2.2.loads (by simp)
  obtain ⟨v1, m1, c1, c2, c3⟩ := lay_c n ed md es ms mA stA.sees.base hl (hed.sees stA.sees) (hmd.sees stA.sees) ch hch
  have st1 := stA.step c2
  have hb1 : m1.base ≤ m1.n := st1.sees.base
  have s0 : St m1 m1 [] := St.nil hb1 (Ext.refl m1)
  have s1 := s0.row [.pointer none]
  simp [← hmA, lbA, loadNS_ptr, c1]
  rcases c3 with ⟨hz, rfl⟩ | ⟨hz, PB, rfl, hLaid⟩
  · obtain ⟨q1, hq1⟩ : ∃ q, q = (layA es ms).1 := ⟨_, rfl⟩
    obtain ⟨q2, hq2⟩ : ∃ q, q = (layA es ms).2 := ⟨_, rfl⟩
    rw [← hq2] at hz hQ ⊢
    rw [← hq1]
    have s1' := st1.row [.pointer none]
    obtain ⟨m2, a1, a2, a3, a4⟩ := s1'.store 0 rfl (o := 0) (v := .pointer none) (by simp) rfl
    obtain ⟨m3, b1, b2, b3, b4⟩ := a2.fill 2 rfl (n := 2) (l' := [iv 0, .slice none 0 0]) rfl rfl (by simp [okC])
    obtain ⟨m4, d1, d2, d3, d4⟩ := b2.fill 1 rfl (n := 2) (l' := [.slice none 0 0, .slice none 0 0]) rfl rfl (by simp [okC])
    simp [a1, hz, b1, d1]
    refine ret_cct (a := ⟨m.n + 1, 0, none⟩) (b := ⟨m.n + 1 + 1, 0, none⟩) (by simp) ((d2.get 2 rfl).2.2.loads (by simp)) (by simp) ((d2.get 1 rfl).2.2.loads (by simp)) d2.ext (hQ _ _ (.inl ⟨hz, by simp⟩))
  · obtain ⟨law1, law2, law3, law4, law5, law6, law7⟩ := hlaw hz
    obtain ⟨hl16, hml, hA2, hN1, hok⟩ : es.length ≤ 16 ∧ ms.length = es.length ∧ 2 ≤ cnt es ∧ 1 ≤ es.length - cnt es ∧ ∀ (i : Nat) e, es[i]? = some e → badE e = false := by
      unfold layA at hz
      by_cases h1 : (plainR es ms).2 ≠ 0
      · rw [if_pos h1] at hz; exact absurd hz h1
      · rw [if_neg h1] at hz
        have h1' : (plainR es ms).2 = 0 := by omega
        by_cases h2 : cnt es < 2 ∨ es.length - cnt es < 1
        · rw [if_pos h2] at hz; simp at hz
        · exact ⟨(plainR_len h1').1, (plainR_len h1').2, by omega, by omega, plainR_ok h1'⟩
    obtain ⟨N, hNe⟩ : ∃ N, N = es.length - cnt es := ⟨_, rfl⟩
    obtain ⟨nt, hnt⟩ : ∃ nt, nt = cnt es := ⟨_, rfl⟩
    have hcl : cnt es ≤ es.length := by unfold cnt; exact List.countP_le_length
    obtain ⟨b, hbe⟩ : ∃ b, b = begE es := ⟨_, rfl⟩
    have hb := begE_ok (es := es) (by omega)
    rw [← hbe] at hb
    have hbl : b < es.length := by unfold first at hb; rw [List.find?_range_eq_some] at hb; simpa using hb.2.1
    obtain ⟨ed', md', A5, A6, A7, A8, hPl, hmd', p1, p3, p4, p5, p7, p8, r5, r6, r7, r8, k5, k6, k7, k8⟩ := hLaid.ex
    rw [← hNe] at law1 law3 law4 law5 hPl p3 p4 p8 r5 r6 r7 r8 hQ hN1
    rw [← hbe] at law1 law3 law5 hPl r5 r6 r8 hQ
    rw [← hnt] at law2 hQ hA2
    have hp3 : es.length - N = nt := by omega
    rw [hp3] at p3
    have hLF : LF m1 PB A5 A6 A7 m.n ed' ed md es ms TH CE VA := by
      refine ⟨hPl.lt, k5, k6, k7, by have := (st1.get 2 rfl).2.1; exact this, hPl.p0 none, p5 none, hPl.p6 none, p7 none, fun i hi => ?_, fun i hi => ?_, fun i hi => ?_, hPl.hed, ?_, hmd.sees st1.sees, law6⟩
      · rw [r5.load1]; exact nums_get _ _ _ (law1 i hi)
      · rw [r6.load1]; exact nums_get _ _ _ (law3 i hi)
      · rw [r7.load1]; exact nums_get _ _ _ (law4 i hi)
      · rw [(st1.get 2 rfl).2.2.load1]; rfl
    obtain ⟨m2, a1, a2, a3, a4⟩ := s1.store 0 rfl (o := 0) (v := .pointer (some ⟨PB, 0, none⟩)) (by simp) rfl
    have a2' : St m1 m2 [(m1.n, [.pointer (some ⟨PB, 0, none⟩)])] := a2
    have n2 : m2.n = m1.n + 1 := by rw [a3, newRow_n]
    have lq : load1 m2 ⟨m1.n, 0, none⟩ = some (.pointer (some ⟨PB, 0, none⟩)) := by rw [(a2'.get 0 rfl).2.2.load1]; rfl
    have lP4 : load1 m2 ⟨PB, 4, none⟩ = some (iv N) := (load1_sees a2'.sees hPl.lt).trans (p4 none)
    have lP3 : load1 m2 ⟨PB, 3, none⟩ = some (iv nt) := (load1_sees a2'.sees hPl.lt).trans (p3 none)
    have mk2 := mk_rows (n := nt) (e := 2) (bytes := 32) (zs := [.int .i64 0, .slice none 0 0]) rfl (by omega) (by omega) (by omega) m2
    have b1' := a2'.row ((List.range nt).flatMap fun _ => [.int .i64 0, .slice none 0 0])
    have b2' := b1'.row [.int .i64 0, .slice none 0 0]
    simp only [newRow_n] at b2'
    obtain ⟨m3', d1, d1l, d2, d3, d4⟩ := b2'.fillAny 0 rfl (n := 2) (l' := [iv N, .slice (some ⟨m2.n, 0, some 5⟩) nt nt]) (by omega) rfl rfl (by simp [okC])
    obtain ⟨M3, hM3⟩ : ∃ M, M = behind (Dx.newRow (Dx.newRow m2 ((List.range nt).flatMap fun _ => [.int .i64 0, .slice none 0 0])) [.int .i64 0, .slice none 0 0]) m3' := ⟨_, rfl⟩
    rw [← hM3] at d2 d3 d4
    simp only [newRow_n] at d3
    have d2' : St m1 M3 [(m2.n + 1, [iv N, .slice (some ⟨m2.n, 0, some 5⟩) nt nt]), (m2.n, (List.range nt).flatMap fun _ => [.int .i64 0, .slice none 0 0]), (m1.n, [.pointer (some ⟨PB, 0, none⟩)])] := d2
    have lq3 : load1 M3 ⟨m1.n, 0, none⟩ = some (.pointer (some ⟨PB, 0, none⟩)) := by rw [(d2'.get 2 rfl).2.2.load1]; rfl
    have lP33 : load1 M3 ⟨PB, 3, none⟩ = some (iv nt) := (load1_sees d2'.sees hPl.lt).trans (p3 none)
    have mk1 := mk_rows (n := nt) (e := 1) (bytes := 24) (zs := [.slice none 0 0]) rfl (by omega) (by omega) (by omega) M3
    have e1' := d2'.row ((List.range nt).flatMap fun _ => [.slice none 0 0])
    have e2' := e1'.row [.slice none 0 0, .slice none 0 0]
    simp only [newRow_n] at e2'
    obtain ⟨M4, f1, f2, f3, f4⟩ := e2'.fill 0 rfl (n := 2) (l' := [.slice none 0 0, .slice (some ⟨M3.n, 0, some 3⟩) nt nt]) rfl rfl (by simp [okC])
    simp only [newRow_n] at f3
    have lq4 : load1 M4 ⟨m1.n, 0, none⟩ = some (.pointer (some ⟨PB, 0, none⟩)) := by rw [(f2.get 4 rfl).2.2.load1]; rfl
    have hwk := walk_c (n + 7) ⟨PB, 0, none⟩ M4
    have stW := f2.row [.pointer (some ⟨PB, 0, none⟩)]
    obtain ⟨M5, hM5⟩ : ∃ M, M = Dx.newRow M4 [.pointer (some ⟨PB, 0, none⟩)] := ⟨_, rfl⟩
    rw [← hM5] at stW
    have n5 : M5.n = M4.n + 1 := by rw [hM5, newRow_n]
    have code2 : code 2 true = 5 := rfl
    have code1 : code 1 true = 3 := rfl
    rw [code2] at mk2
    rw [code1] at mk1
    simp [a1, lq, lP4, lP3, mk2, d1, ← hM3, lq3, lP33, mk1, f1, lq4, hwk, ← hM5]
    generalize hT0 : Tm.set 46 _ _ = T0
    have g1 : Tm.get 1 T0 = .pointer (some ⟨m.n, 0, none⟩) := by rw [← hT0]; simp
    have g2 : Tm.get 2 T0 = .pointer (some ⟨m.n + 1, 0, none⟩) := by rw [← hT0]; simp
    have g3 : Tm.get 3 T0 = .pointer (some ⟨m.n + 1 + 1, 0, none⟩) := by rw [← hT0]; simp
    have g5 : Tm.get 5 T0 = .pointer (some ⟨m1.n, 0, none⟩) := by rw [← hT0]; simp
    have g8 : Tm.get 8 T0 = .pointer (some ⟨m2.n + 1, 0, none⟩) := by rw [← hT0]; simp
    have g9 : Tm.get 9 T0 = .pointer (some ⟨M3.n + 1, 0, none⟩) := by rw [← hT0]; simp
    have g46 : Tm.get 46 T0 = .func (.func 71) #[] #[.pointer (some ⟨M4.n, 0, none⟩)] := by rw [← hT0]; simp
    clear hT0
    obtain ⟨T, hT⟩ : ∃ T, T = keepT [9, 8, 5, 1] T0 := ⟨_, rfl⟩
    have kp : ∀ i, i ∈ [9, 8, 5, 1] → Tm.get i T = Tm.get i T0 := fun i hi => by
      rw [hT]; exact keep_get i (by simp at hi; omega) T0 _ (by simp) hi
    have T1 := (kp 1 (by simp)).trans g1
    have T5 := (kp 5 (by simp)).trans g5
    have T8 := (kp 8 (by simp)).trans g8
    have T9 := (kp 9 (by simp)).trans g9
    obtain ⟨u, hu⟩ : ∃ u : WB, u = ⟨m1.n, M4.n, m2.n + 1, m2.n, M3.n + 1, M3.n, PB⟩ := ⟨_, rfl⟩
    have u5 : u.q5 = m1.n := by rw [hu]
    have uW : u.W = M4.n := by rw [hu]
    have u8 : u.P8 = m2.n + 1 := by rw [hu]
    have uT : u.TB = m2.n := by rw [hu]
    have u9 : u.P9 = M3.n + 1 := by rw [hu]
    have uO : u.OB = M3.n := by rw [hu]
    have uP : u.PB = PB := by rw [hu]
    have stu : St m1 M5 (u.σ N nt (.slice none 0 0) (fun _ => 0) (fun _ => .slice none 0 0) (fun _ => .slice none 0 0)) := by
      refine stW.sub (fun p hp => ?_) ?_
      · rw [hu] at hp
        simp only [WB.σ, List.mem_cons, List.not_mem_nil, or_false] at hp
        rcases hp with rfl | rfl | rfl | rfl | rfl | rfl
        · exact List.mem_of_getElem? (i := 0) rfl
        · exact List.mem_of_getElem? (i := 4) rfl
        · exact List.mem_of_getElem? (i := 2) rfl
        · exact List.mem_of_getElem? (i := 1) rfl
        · exact List.mem_of_getElem? (i := 3) rfl
        · exact List.mem_of_getElem? (i := 5) rfl
      · rw [hu]; simp only [WB.σ, List.map_cons, List.map_nil, List.nodup_cons, List.mem_cons, List.not_mem_nil, or_false, not_false_eq_true, List.nodup_nil, and_true]; omega
    have wi0 : WI m1 M5 u N nt (.slice none 0 0) (fun _ => 0) (fun _ => .slice none 0 0) (fun _ => .slice none 0 0) (fun _ => []) (fun _ => []) (fun _ => 0) :=
      ⟨stu, fun _ _ => rfl, fun j _ => ⟨.nil, fun B hB => by cases hB⟩, fun j _ => ⟨.nil, fun B hB => by cases hB⟩, fun j _ r hr => by cases hr⟩
    obtain ⟨L, hLe⟩ : ∃ L, L = M5.n := ⟨_, rfl⟩
    have wj0 : WJ m1 M5 u N nt (.slice none 0 0) TS0 L := ⟨_, _, _, _, _, _, wi0, rfl, fun j _ => ⟨rfl, rfl, rfl⟩⟩
    have hLb : ∀ b ∈ [u.W, u.TB, u.OB, u.P9, u.P8, u.q5], b ≠ L := by
      intro x hx
      simp only [List.mem_cons, List.not_mem_nil, or_false] at hx
      omega
    have hm1L : m1.n ≤ L := by omega
    obtain ⟨ca, hca⟩ : ∃ ca : Code, ca = (cL (cL (cR (cL (cR (cR (cR (cR (cR (bodyOf Try.f12)))))))))) := ⟨_, rfl⟩
    obtain ⟨cb, hcb⟩ : ∃ cb : Code, cb = (cR (cL (cR (cL (cR (cR (cR (cR (cR (bodyOf Try.f12)))))))))) := ⟨_, rfl⟩
    have ha := ya_weave_Weave_1_ok
    have hbb := yb_weave_Weave_1_ok
    rw [← hca] at ha; rw [← hcb] at hbb
    obtain ⟨mE, hmE⟩ : ∃ mE, mE = M5.alloc (.loop 0 T 226 #[47] ca cb none) := ⟨_, rfl⟩
    have nE : mE.n = M5.n + 1 := by rw [hmE, M.n_alloc]
    have EE : Ext M5 mE := by rw [hmE]; exact ⟨by rw [M.n_alloc]; omega, fun X hX => by rw [M.obj_alloc, if_neg (by omega)], M.base_alloc _ _, M.log_alloc _ _⟩
    have obE : mE.obj L = some (.loop 0 T 226 #[47] ca cb none) := by rw [hmE, M.obj_alloc, if_pos hLe]
    let S : Nat → Nat → TS := fun k => ((ordL es b).take k).foldl (wStep es ms TH CE VA) TS0
    have hol : (ordL es b).length = es.length := by unfold ordL; simp
    have hSb : ∀ k j, (S k j).loc ≤ 16 ∧ (S k j).acts.length ≤ 32 ∧ (S k j).outs.length ≤ 16 := fun k j => by
      have := wfold_bd es ms TH CE VA ((ordL es b).take k) 0 TS0 (fun j => by simp [TS0]) j
      rw [List.length_take, hol] at this
      have h2 : min k es.length ≤ 16 := by omega
      simp only [S]
      omega
    have hwalk := walk1_c (n + 7) (.func (.yield L) #[] #[]) PB u.W b es.length (by omega) (by omega) hbl
      (fun k m' => WJ m1 m' u N nt (.slice none 0 0) (S k) L ∧ m'.obj L = some (.loop 0 T 226 #[47] ca cb none) ∧ L < m'.n) (fun _ => False)
      (fun k m' _ h => by
        obtain ⟨⟨loc, va, vo, A, O, tag, w, -, -⟩, -, -⟩ := h
        have lf := hLF.sees w.st.sees
        have hPl' := hPl.sees w.st.sees
        refine ⟨by rw [(w.st.get 0 rfl).2.2.load1]; show some (Value.pointer (some ⟨u.PB, 0, none⟩)) = _; rw [uP], ⟨ed', hPl'.p0 none, hPl'.hed.len⟩, hPl'.p2 none⟩)
      (fun k m' hk h => by
        obtain ⟨w, hob, hLn⟩ := h
        obtain ⟨i, hi⟩ : ∃ i, i = (b + k) % es.length := ⟨_, rfl⟩
        have hil : i < es.length := by rw [hi]; exact Nat.mod_lt _ (by omega)
        rw [← hi]
        have hki : (ordL es b)[k]? = some i := by
          rw [hi]; unfold ordL; rw [List.getElem?_map, List.getElem?_range hk]; rfl
        have hSk : S (k + 1) = wStep es ms TH CE VA (S k) i := by
          obtain ⟨h, e⟩ := List.getElem?_eq_some_iff.1 hki
          simp only [S]
          rw [List.take_succ_eq_append_getElem h, List.foldl_append, e]; rfl
        have hrd := yield_run (P := Try.prog) (n := n + 6) (L := L) (args := [iv i]) (t' := Tm.set 47 (iv i) T) (t'' := Tm.set 10 (iv i) (Tm.set 47 (iv i) T)) (m := m')
          (R := fun e m2 => e = none ∧ m'.n ≤ m2.n ∧ WJ m1 m2 u N nt (.slice none 0 0) (wStep es ms TH CE VA (S k) i) L) hob ha hbb rfl (by omega) (fun k => by unfold ya_weave_Weave_1; simp) (by
            have w1 := w.putL hLb hm1L (.loop 1 T 226 #[47] ca cb none)
            have := wv_round (n + 4) hl16 hb1 hLF hok uP hil hml (law2 i hil) w1 (fun j => by have := hSb k j; omega) T1 (by rw [u5]; exact T5) (by rw [u8]; exact T8) (by rw [u9]; exact T9) (by rw [M.n_put]; exact hLn) hLb
            obtain ⟨e, m2, r1, r2, r3, r4, r5⟩ := this
            rw [M.n_put] at r4
            rw [M.obj_put, if_pos rfl] at r3
            exact ⟨e, m2, r1, r3, r2, r4, r5⟩)
        obtain ⟨e, m2, ho2, ⟨rfl, hn2, hw2⟩, hrun⟩ := hrd
        rw [← hSk] at hw2
        exact .inl ⟨_, hrun, hw2.putL hLb hm1L _, by rw [M.obj_put, if_pos rfl], by rw [M.n_put]; omega⟩)
      mE ⟨by simpa [S] using wj0.step EE, obE, by omega⟩
    obtain ⟨m6, hw, hend⟩ := hwalk
    rcases hend with ⟨w6, ob6, hL6⟩ | hF
    rotate_left
    · exact hF.elim
    rw [uW] at hw
    rw [hLe] at hw ob6
    refine rf_run (c := c_weave_Weave_16) rfl (g := 71) (u := []) (v := [.pointer (some ⟨M4.n, 0, none⟩)]) g46 (r := .tuple #[]) (m1 := m6) (st := 0) (by rw [← hT, ← hca, ← hcb, ← hmE]; exact hw) (by rw [hca, hcb] at ob6; exact ob6) (by omega) ?_
    unfold goOn
    rw [← hLe]
    have w7 := (w6.putL hLb hm1L (.loop 3 T 226 #[47] (cL (cL (cR (cL (cR (cR (cR (cR (cR (bodyOf Try.f12)))))))))) (cR (cL (cR (cL (cR (cR (cR (cR (cR (bodyOf Try.f12)))))))))) none)).toK
    obtain ⟨m7, hm7⟩ : ∃ m7, m7 = m6.put L (.loop 3 T 226 #[47] (cL (cL (cR (cL (cR (cR (cR (cR (cR (bodyOf Try.f12)))))))))) (cR (cL (cR (cL (cR (cR (cR (cR (cR (bodyOf Try.f12)))))))))) none) := ⟨_, rfl⟩
    rw [← hm7] at w7 ⊢
    have l8 : load1 m7 ⟨u.P8, 1, none⟩ = some (.slice (some ⟨u.TB, 0, some 5⟩) nt nt) := by
      obtain ⟨loc, va, vo, A, O, tag, w, -⟩ := w7; exact w.lt8
    have hlenS : lenS (.slice (some ⟨u.TB, 0, some 5⟩) nt nt) = some (iv nt) := rfl
    rw [← u8] at g8
    rw [← u9] at g9
    rw [← u5] at g5
    simp [g8, l8, hlenS]
    have hSn : S es.length = (ordL es b).foldl (wStep es ms TH CE VA) TS0 := by simp only [S]; rw [List.take_of_length_le (by omega)]
    refine wv_prints (n + 8) (by omega) hb1 (S := S es.length) (fun j => by have := hSb es.length j; omega) (Ret m Q) _ _ _ _ _ _ (P2 := m.n + 1) (P3 := m.n + 1 + 1) ?_ ?_ ?_ ?_ ?_ ?_ ?_ w7 (fun t8 m8 x2 x3 x5 x9 x8 w8 => ?_)
    · simp [g2]
    · simp [g3]
    · simp [g5]
    · simp [g8]
    · simp [g9]
    · simp
    · simp
    obtain ⟨loc, va, vo, A, O, tag, w, hS⟩ := w8
    have lq8 := w.lq
    rw [uP] at lq8
    have lP8 : load1 m8 ⟨PB, 8, none⟩ = some (.slice (some ⟨A8, 0, some 3⟩) N N) := (load1_sees w.st.sees hPl.lt).trans (p8 none)
    have hlenN : lenS (.slice (some ⟨A8, 0, some 3⟩) N N) = some (iv N) := rfl
    simp [x5, lq8, lP8, hlenN]
    refine wv_final (n + 8) (by omega) hb1 (A8 := A8) k8 (WR := WR) law7 (fun x hx => ?_) w.st (Ret m Q) _ _ _ _ _ (P2 := m.n + 1) (P3 := m.n + 1 + 1) ?_ ?_ ?_ ?_ ?_ ?_ ?_ (fun t9 m9 fv y2 y3 y8 y9 st9 hG hfv hn9 ho9 => ?_)
    · rw [r8.load1]; exact nums_get _ _ _ (law5 x hx)
    · simp [x2]
    · simp [x3]
    · simp [x8]
    · simp [x9]
    · simp
    · simp
    · simp
    have st10 := st1.step st9.ext
    have lT : loads m9 ⟨u.P8, 0, none⟩ 2 = some [iv N, .slice (some ⟨u.TB, 0, some 5⟩) nt nt] := (st9.get 4 rfl).2.2.loads (by simp)
    have lO : loads m9 ⟨u.P9, 0, none⟩ 2 = some [fv, .slice (some ⟨u.OB, 0, some 3⟩) nt nt] := (st9.get 3 rfl).2.2.loads (by simp)
    obtain ⟨m10', i1, i2, i3, i4, i5⟩ := st10.fillAny 1 rfl (n := 2) (l' := [iv N, .slice (some ⟨u.TB, 0, some 5⟩) nt nt]) (by omega) rfl rfl (by simp [okC])
    obtain ⟨m10, hm10⟩ : ∃ m10, m10 = behind m9 m10' := ⟨_, rfl⟩
    rw [← hm10] at i3 i4 i5
    obtain ⟨m11', j1, j2, j3, j4, j5⟩ := i3.fillAny 0 rfl (n := 2) (l' := [fv, .slice (some ⟨u.OB, 0, some 3⟩) nt nt]) (by omega) rfl rfl (by simp [okC]; exact hG.okC)
    obtain ⟨m11, hm11⟩ : ∃ m11, m11 = behind m10 m11' := ⟨_, rfl⟩
    rw [← hm11] at j3 j4 j5
    have hP3 : m.n + 1 + 1 < m1.n := (st1.get 0 rfl).2.1
    have hne9 : ¬ (u.P9 = m.n + 1) := by rw [u9]; omega
    simp [y2, y3, y8, y9, lT, lO, loadNS_ptr, i1, i2, ← hm10, hne9, j1, j2, ← hm11]
    have keep : ∀ B, m1.n ≤ B → m11.obj B = m9.obj B := fun B hB => by
      have e1 := j5 B (by omega)
      have e2 := i5 B (by omega)
      rw [e1, e2]
    have n11 : m11.n = m9.n := by rw [j4, i4]
    have keep8 : ∀ B, m1.n ≤ B → B < m8.n → B ≠ u.P9 → m11.obj B = m8.obj B := fun B h1 h2 h3 => (keep B h1).trans (ho9 B h2 h3)
    have t9z : tag u.P9 = 0 := w.t0 (u.P9, [.slice none 0 0, .slice (some ⟨u.OB, 0, some 3⟩) nt nt]) (by unfold WB.σ; simp)
    refine ret_cct (a := ⟨m.n + 1, 0, none⟩) (b := ⟨m.n + 1 + 1, 0, none⟩) (by simp [y2]) ((j3.get 1 rfl).2.2.loads (by simp)) (by simp [y3]) ((j3.get 0 rfl).2.2.loads (by simp)) j3.ext (hQ _ _ (.inr ⟨hz, .slice (some ⟨u.TB, 0, some 5⟩) nt nt, .slice (some ⟨u.OB, 0, some 3⟩) nt nt, fv, loc, va, vo, A, by simp, ?_, ?_, ?_, fun j hj => ?_⟩))
    · have h5 : Grown m1 m11 fv 1 outRow ((List.range N).map WR) := hG.keep (by omega) fun B hB hb => keep B (grown_low hG B hb).1
      exact h5.rd outRow_len
    · have hA := (st9.get 1 rfl).2.2
      have hm1 := (st9.get 1 rfl).1
      have hlt := (st9.get 1 rfl).2.1
      have hA' : Arr m11 u.TB (((List.range nt).map fun (j : Nat) => (((loc j : Nat) : Int), (va j : Value))).flatMap fun p : Int × Value => [iv p.1, p.2]) := by
        rw [List.flatMap_map]; exact hA.congr (keep _ hm1)
      have := rd_made (m := m11) (c := 5) (e := 2) (f := fun p : Int × Value => [iv p.1, p.2]) (fun _ => rfl) hA' (by omega)
      rwa [List.length_map, List.length_range] at this
    · have hA := (st9.get 2 rfl).2.2
      have hm1 := (st9.get 2 rfl).1
      have hlt := (st9.get 2 rfl).2.1
      have hA' : Arr m11 u.OB (((List.range nt).map vo).flatMap fun v => [v]) := by
        rw [List.flatMap_map]; exact hA.congr (keep _ hm1)
      have := rd_made (m := m11) (c := 3) (e := 1) (f := fun v : Value => [v]) (fun _ => rfl) hA' (by omega)
      rwa [List.length_map, List.length_range] at this
    · obtain ⟨e1, e2, e3⟩ := hS j hj
      rw [← hSn]
      obtain ⟨ga, gt⟩ := w.ga j hj
      obtain ⟨go, ot⟩ := w.go j hj
      refine ⟨e1, e2, ?_, ?_, fun r hr B op v hB => ?_⟩
      · have : Grown m1 m11 (va j) 11 actRow (A j) := ga.keep (by omega) fun B hB hb => keep8 B (grown_low ga B hb).1 hB (by rintro rfl; have := gt _ hb; omega)
        exact this.rd actRow_len
      · have : Grown m1 m11 (vo j) 1 outRow (O j) := go.keep (by omega) fun B hB hb => keep8 B (grown_low go B hb).1 hB (by rintro rfl; have := ot _ hb; omega)
        rw [e3] at this
        exact this.rd outRow_len
      · obtain ⟨k1, k2, k3, k4⟩ := w.ge j hj r hr B op v hB
        exact ⟨by omega, k3.congr (keep8 B k1 k2 (by rintro rfl; omega))⟩
end Go.Sx

set_option linter.unusedSimpArgs false
set_option linter.unusedVariables false
namespace Go.Dx
@[simp] theorem eqFV_ap (neg : Bool) (ks : List Nat) (a b : List Value) : eqFV neg ks (.agg ⟨a⟩) (.agg ⟨b⟩) = ob (eqFlat ks a b) fun r => some (.bool (bif neg then !r else r)) := _root_.id rfl
theorem eqFlat_int (ks : List Nat) (k : IntKind) (x : Int) (l r : List Value) : eqFlat (1 :: ks) (.int k x :: l) (.int k x :: r) = eqFlat ks l r := by
  have h : eqK 1 (.int k x) (.int k x) = some true := by
    show (bif Nat.beq (ik k) (ik k) then some (eqI x x) else none) = _
    rw [Nat.beq_refl, eqI_eq]; simp
  show ob (eqK 1 (.int k x) (.int k x)) _ = _
  rw [h]; rfl
theorem eqFlat_nil (l r : List Value) : eqFlat [] l r = some true := rfl
end Go.Dx
namespace Go.Sx
open Go.Dx Go.Proofs
theorem nodes_c (n : Nat) (B : Nat) (op : Int) (v : Nat) (m : M) (h : Arr m B (nodeRow op v)) : CallV (ex Try.prog (n + 1)) 51 [.slice (some ⟨B, 0, some 9⟩) 1 1, iv op, .int .u64 v] m (.bool true) := by
  refine call_ret d_sextantlaw29_nodes_ok (by simp) ?_
  have hl : lenS (.slice (some ⟨B, 0, some 9⟩) 1 1) = some (iv 1) := rfl
  have hi : iaddrSV 4 (.slice (some ⟨B, 0, some 9⟩) 1 1) (.int .i64 0) = some (.pointer (some ⟨B, 0, none⟩)) := rfl
  have hr : loads m ⟨B, 0, none⟩ 4 = some (nodeRow op v) := h.loads (by simp [nodeRow])
  have he : eqFlat [1, 1, 1, 1] (nodeRow op v) [iv op, .int .u64 v, iv 0, iv 0] = some true := by
    unfold nodeRow; rw [eqFlat_int, eqFlat_int, eqFlat_int, eqFlat_int, eqFlat_nil]
  simp [hl, hi, hr, loadNS_ptr, he]
  exact ret_1 (by simp) (by simp)
theorem eV_len0 : lenS (eV none) = some (iv 0) := rfl
theorem act_c (n : Nat) (r : AR) (m : M) (hm : m.base ≤ m.n) : CallV (ex Try.prog (n + 1)) 49 [.agg ⟨actRow r⟩, iv r.op, iv r.dst, iv r.base, iv r.mode] m (.bool true) := by
  refine call_ret d_sextantlaw29_act_ok (by simp) ?_
  obtain ⟨m1, hm1⟩ : ∃ m1, m1 = Dx.newRow m (actRow r) := ⟨_, rfl⟩
  have E1 : Ext m m1 := by rw [hm1]; exact Ext.row _ _
  have b0 : ∀ o s, load1 m1 ⟨m.n, o, s⟩ = [iv r.op, iv r.dst, iv r.base, iv 0, .slice none 0 0, eV r.e, .slice none 0 0, iv r.mode, iv 0, iv 0, iv 0][o]? := (boxS_at (m := m) (l := actRow r) (m' := m1) (by rw [hm1]; exact sees_row0 hm _)).2
  have hl : lenS (.slice none 0 0) = some (iv 0) := rfl
  simp [← hm1, b0, hl]
  exact ret_1 E1 (by simp)
end Go.Sx

set_option linter.unusedSimpArgs false
set_option linter.unusedVariables false
namespace Go.Sx
open Go.Dx Go.Proofs
theorem wfold_pre (es : List (Int × Int)) (ms : List Int) (TH CE VA : Nat → Nat) (j : Nat) : ∀ (l : List Nat) (S : Nat → TS), ∃ ra ro, (l.foldl (wStep es ms TH CE VA) S j).acts = (S j).acts ++ ra ∧ (l.foldl (wStep es ms TH CE VA) S j).outs = (S j).outs ++ ro
  | [], S => ⟨[], [], by simp, by simp⟩
  | i :: l, S => by
    obtain ⟨ra, ro, h1, h2⟩ := wfold_pre es ms TH CE VA j l (wStep es ms TH CE VA S i)
    have : ∃ xa xo, (wStep es ms TH CE VA S i j).acts = (S j).acts ++ xa ∧ (wStep es ms TH CE VA S i j).outs = (S j).outs ++ xo := by
      unfold wStep
      by_cases e : j = TH i
      · subst e
        rw [upN_same]; unfold tsStep
        split
        · exact ⟨evF (fenE es i) ++ [stA (CE i) (mAt ms i) (VA i)], [], by simp, by simp⟩
        · exact ⟨evF (fenE es i) ++ [ldA (S (TH i)).loc (CE i) (mAt ms i)], [VA i], by simp, by simp⟩
      · rw [upN_ne _ _ e]; exact ⟨[], [], by simp, by simp⟩
    obtain ⟨xa, xo, k1, k2⟩ := this
    exact ⟨xa ++ ra, xo ++ ro, by rw [List.foldl_cons, h1, k1, List.append_assoc], by rw [List.foldl_cons, h2, k2, List.append_assoc]⟩
theorem wfold_outs (es : List (Int × Int)) (ms : List Int) (TH CE VA : Nat → Nat) : ∀ (l : List Nat) (S : Nat → TS), (∀ j, (S j).outs.length = (S j).loc) → ∀ j, (l.foldl (wStep es ms TH CE VA) S j).outs.length = (l.foldl (wStep es ms TH CE VA) S j).loc
  | [], S, h => h
  | i :: l, S, h => by
    rw [List.foldl_cons]
    refine wfold_outs es ms TH CE VA l _ fun j => ?_
    unfold wStep
    by_cases e : j = TH i
    · subst e
      rw [upN_same]; unfold tsStep
      split
      · exact h (TH i)
      · simp [h (TH i)]
    · rw [upN_ne _ _ e]; exact h j
theorem act_at {A : List AR} {P rest : List AB} {x : AB} (h : A.map AR.era = P ++ x :: rest) : ∃ r, A[P.length]? = some r ∧ r.era = x := by
  have h2 := congrArg (fun l => l[P.length]?) h
  simp only [List.getElem?_map, List.getElem?_append_right (Nat.le_refl P.length), Nat.sub_self, List.getElem?_cons_zero] at h2
  cases hr : A[P.length]? with
  | none => rw [hr] at h2; cases h2
  | some r => rw [hr] at h2; exact ⟨r, rfl, by simpa using h2⟩
/-- an access is looked at -/
theorem thr_tail (n : Nat) {m0 m : M} {ed md va outs : Value} {es : List (Int × Int)} {ms : List Int} {A : List AR} {O : List Nat} {B4 B6 b : Nat} (hl : es.length ≤ 16) (hml : ms.length = es.length) (hS : Sees m0 m) (hed : Rd m0 ed 2 edgeRow es) (hmd : Rd m0 md 1 modeRow ms) (hA : Rd m0 va 11 actRow A) (hO : Rd m0 outs 1 outRow O) (hAl : A.length ≤ 1000) (hOl : O.length ≤ 1000)
    (b4 : ∀ m', Sees m0 m' → ∀ s, load1 m' ⟨B4, 1, s⟩ = some va) (b6 : ∀ m', Sees m0 m' → (∀ s, loads m' ⟨B6, 0, s⟩ 2 = some [ed, md]) ∧ ∀ o s, load1 m' ⟨B6, o, s⟩ = [ed, md][o]?) (hb : first es.length (begP es) = some b)
    (V : Nat → Nat) (hV : ∀ i, i < es.length → fromE es i = true → ∃ d, Stop es i d ∧ V i = 1 + bw es i d) (hVs : ∀ i, vRef es V i < 1000000) {x J0 R : Nat} (hx : x < es.length) {r : AR} (hr : A[J0]? = some r) (hera : r.era = (if fromE es x then stA (rankE es b true x) (mAt ms x) (vRef es V x) else ldA R (rankE es b true x) (mAt ms x)))
    (hE : ∀ B op v, r.e = some (B, op, v) → B < m0.n ∧ Arr m0 B (nodeRow op v)) (hOR : fromE es x = false → O[R]? = some (vRef es V x)) (hR : R ≤ 1000) {t : Tm} (t1 : Tm.get 1 t = outs) (t4 : Tm.get 4 t = .pointer (some ⟨B4, 0, none⟩)) (t6 : Tm.get 6 t = .pointer (some ⟨B6, 0, none⟩)) (t10 : Tm.get 10 t = iv J0) (t11 : Tm.get 11 t = iv R) (t13 : Tm.get 13 t = iv x)
    (I : Tm → Prop) (hI : I t) (hIk : ∀ t i v, I t → i ∉ [1, 3, 4, 6, 9, 12] → I (Tm.set i v t)) (Q : Option Out → Prop) (kn kr : Dx.K) (ke : Nat → Dx.K)
    (hq : ∀ t' m', I t' → Tm.get 10 t' = iv (J0 + 1 : Nat) → Tm.get 11 t' = iv (if fromE es x then R else R + 1 : Nat) → Ext m m' → Q (kn t' m')) :
    Q (c_sextantlaw29_thread_28 (ex Try.prog (n + 5)) kn (outOf 1 kn ke) kr t m) := by
  obtain ⟨e, he⟩ : ∃ e, es[x]? = some e := ⟨_, List.getElem?_eq_getElem hx⟩
  obtain ⟨md', hmd'⟩ : ∃ e, ms[x]? = some e := ⟨_, List.getElem?_eq_getElem (by omega)⟩
  have hmi : mAt ms x = md' := mAt_of hmd'
  have hfe : fromE es x = fromI e.1 := by unfold fromE; rw [eAt_of he]
  have hS' := hS.self
  have hKl : J0 < A.length := (List.getElem?_eq_some_iff.1 hr).1
  have hge : ((A.length : Int) ≤ (J0 : Int)) = False := eq_false (by omega)
  have hal := hA.len
  have hol := hO.len
  have ⟨a1, a2, a3⟩ := (hA.sees hS).at hr
  have a2' := a2 m hS'
  obtain ⟨z, hz⟩ : ∃ z : List Value, z = actRow r := ⟨_, rfl⟩
  have b4m := b4 m hS
  have b6m := b6 m hS
  obtain ⟨m2, f1, f2, f3, f4, f5⟩ := local_fill' (m := m) hS'.base (zs := [.int .i64 0, .int .i64 0, .int .i64 0, .int .i64 0, .slice none 0 0, .slice none 0 0, .slice none 0 0, .int .i64 0, .int .i64 0, .int .i64 0, .int .i64 0]) (l := actRow r) (v := .agg ⟨actRow r⟩) (n := 11) rfl rfl rfl (actRow_ok r)
  have hS2 : Sees m0 m2 := hS.ext f4
  have hS2' := hS2.self
  obtain ⟨W, hW⟩ : ∃ W, W = vRef es V x := ⟨_, rfl⟩
  obtain ⟨v3, m3, g1, g2, rfl⟩ := Value_c (n + 2) ed md es hl m2 hS2.base (hed.sees hS2) V hV x hx
  rw [← hW] at g1 hera hOR
  have hS3 := hS2.ext g2
  have hS3' := hS3.self
  have cvv := convI_u64 W (by rw [hW]; exact hVs x)
  have ⟨u1, u2, u3⟩ := (hed.sees hS3).at he
  have u4 : ∀ m'', Sees m3 m'' → load1 m'' ⟨(adr 2 ed x).block, (adr 2 ed x).off, none⟩ = some (iv e.1) := fun m'' h => u3 m'' 0 none h (by simp [edgeRow])
  obtain ⟨v4, m4, q1, q2, rfl⟩ := From_c (n + 4) e.1 m3
  have hS4 := hS3.ext q2
  have hS4' := hS4.self
  have wK := nextI (i := J0) (by omega)
  have b6m2 := b6 m2 hS2
  have b6m3 := b6 m3 hS3
  have b6m4 := b6 m4 hS4
  obtain ⟨J0', hK'⟩ : ∃ J0', J0' = J0 + 1 := ⟨_, rfl⟩
  rw [← hK'] at wK hq
  have E4 : Ext m m4 := (f4.trans g2).trans q2
  have l15 : ∀ m', Sees m4 m' → loads m' ⟨m.n, 0, none⟩ 11 = some (actRow r) := fun m' h => by
    rw [loads_sees ((hS2'.ext (g2.trans q2)).trans h) f5]; exact f3 none
  have l15e : ∀ m', Sees m4 m' → load1 m' ⟨m.n, 5, none⟩ = some (eV r.e) := fun m' h => by
    rw [load1_sees ((hS2'.ext (g2.trans q2)).trans h) f5, f2]; rfl
  obtain ⟨C, hC⟩ : ∃ C, C = rankE es b true x := ⟨_, rfl⟩
  rw [← hC] at hera
  have d1 := Call.use (m0 := m4) fun m'' h => by have := Cell_c n ed md es hl m'' h.base (hed.sees (hS4.trans h)) b hb x hx _ (rankE_ok hx); rwa [← hC] at this
  have b64 : ∀ m'', Sees m4 m'' → (∀ s, loads m'' ⟨B6, 0, s⟩ 2 = some [ed, md]) ∧ ∀ o s, load1 m'' ⟨B6, o, s⟩ = [ed, md][o]? := fun m'' h => b6 m'' (hS4.trans h)
  have ⟨w1, w2⟩ := Rd.at1 (g := fun (x : Int) => iv x) (hmd.sees hS4) hmd'
  simp (maxDischargeDepth := 30) [t4, t6, t10, t11, t13, hge, hal, b4m, b6m, b6m2, b6m3, a1, a2', loadNS_ptr, f1, g1, cvv, wK, u1, u4, hS3', q1]
  cases hf : fromI e.1 with
  | true =>
    rw [hfe, hf, hmi] at hera
    simp only [if_true] at hera
    obtain ⟨h1, h2, h3, h4, h5⟩ : r.op = 3 ∧ r.dst = 0 ∧ r.base = C ∧ r.mode = md' ∧ r.e.map (·.2) = some (1, W) := by
      unfold AR.era stA at hera
      simpa using hera
    obtain ⟨BE, hBE⟩ : ∃ BE, r.e = some (BE, 1, W) := by
      cases hh : r.e with
      | none => rw [hh] at h5; cases h5
      | some p => obtain ⟨p1, p2⟩ := p; rw [hh] at h5; simp at h5; exact ⟨p1, by rw [h5]⟩
    obtain ⟨hBl, hBa⟩ := hE BE 1 W hBE
    have d2 := Call.use (m0 := m4) fun m'' h => by have := act_c (n + 4) r m'' h.base; rwa [h1, h2, h3, h4] at this
    have d3 := Call.use (m0 := m4) fun m'' h => nodes_c (n + 4) BE 1 W m'' (hBa.sees (hS4.trans h) hBl)
    have heV : eV r.e = .slice (some ⟨BE, 0, some 9⟩) 1 1 := by rw [hBE]; rfl
    rw [heV] at l15e
    simp (maxDischargeDepth := 30) [t6, t13, l15, l15e, hS4', b64, loadNS_ptr, d1, d2, d3, w1, w2]
    refine hq _ _ ?_ ?_ ?_ ?_
    · repeat' (first | exact hI | refine hIk _ _ _ ?_ (by simp))
    · simp
    · rw [hfe, hf]; simp [t11]
    · simp (maxDischargeDepth := 30) [E4, hS4', d1, d2, d3]
  | false =>
    rw [hfe, hf, hmi] at hera
    simp only [Bool.false_eq_true, if_false] at hera
    obtain ⟨h1, h2, h3, h4, h5⟩ : r.op = 2 ∧ r.dst = R ∧ r.base = C ∧ r.mode = md' ∧ r.e.map (·.2) = none := by
      unfold AR.era ldA at hera
      simpa using hera
    have heN : r.e = none := by simpa using h5
    have heV : eV r.e = .slice none 0 0 := by rw [heN]; rfl
    rw [heV] at l15e
    have d2 := Call.use (m0 := m4) fun m'' h => by have := act_c (n + 4) r m'' h.base; rwa [h1, h2, h3, h4] at this
    have hOx := hOR (by rw [hfe, hf])
    have hRl : R < O.length := (List.getElem?_eq_some_iff.1 hOx).1
    have hge2 : ((O.length : Int) ≤ (R : Int)) = False := eq_false (by omega)
    have ⟨o1, o2⟩ := Rd.at1 (g := fun (x : Nat) => Value.int .u64 (x : Int)) (hO.sees hS4) hOx
    have wR := nextI (i := R) (by omega)
    have l0 : lenS (.slice none 0 0) = some (iv 0) := rfl
    simp (maxDischargeDepth := 30) [t1, t6, t11, t13, l15, l15e, hS4', b64, loadNS_ptr, d1, d2, w1, w2, l0, hol, hge2, o1, o2, wR]
    refine hq _ _ ?_ ?_ ?_ ?_
    · repeat' (first | exact hI | refine hIk _ _ _ ?_ (by simp))
    · simp
    · rw [hfe, hf]; simp
    · simp (maxDischargeDepth := 30) [E4, hS4', d1, d2]
end Go.Sx

set_option linter.unusedSimpArgs false
set_option linter.unusedVariables false
namespace Go.Sx
open Go.Dx Go.Proofs
abbrev wSt (es : List (Int × Int)) (ms : List Int) (b : Nat) (V : Nat → Nat) : (Nat → TS) → Nat → Nat → TS := wStep es ms (rankE es b false) (rankE es b true) (vRef es V)
theorem thread_c (n : Nat) (ed md va outs : Value) (es : List (Int × Int)) (ms : List Int) (m : M) (hm : m.base ≤ m.n) (hl : es.length ≤ 16) (hml : ms.length = es.length) (hed : Rd m ed 2 edgeRow es) (hmd : Rd m md 1 modeRow ms) (b : Nat) (hb : first es.length (begP es) = some b)
    (V : Nat → Nat) (hV : ∀ i, i < es.length → fromE es i = true → ∃ d, Stop es i d ∧ V i = 1 + bw es i d) (hVs : ∀ i, vRef es V i < 1000000) (nn : Nat) (G : TS) (hG : (ordL es b).foldl (wSt es ms b V) TS0 nn = G) (A : List AR) (hAe : A.map AR.era = G.fin.acts) (hA : Rd m va 11 actRow A) (hO : Rd m outs 1 outRow G.outs)
    (hE : ∀ r, r ∈ A → ∀ B op v, r.e = some (B, op, v) → B < m.n ∧ Arr m B (nodeRow op v)) :
    CallV (ex Try.prog (n + 6)) 19 [.agg ⟨[iv G.loc, va]⟩, outs, .agg #[ed, md], iv nn] m (.bool true) := by
  refine call_ret d_sextantlaw29_thread_ok (by simp) ?_
  have hol : (ordL es b).length = es.length := by unfold ordL; simp
  have hbd := wfold_bd es ms (rankE es b false) (rankE es b true) (vRef es V) (ordL es b) 0 TS0 (fun j => by simp [TS0]) nn
  have hG' : (ordL es b).foldl (wStep es ms (rankE es b false) (rankE es b true) (vRef es V)) TS0 nn = G := hG
  rw [hG', hol] at hbd
  have hou : G.outs.length = G.loc := by rw [← hG]; exact wfold_outs es ms _ _ _ (ordL es b) TS0 (fun _ => rfl) nn
  have hAl : A.length = G.acts.length + G.loc := by have := congrArg List.length hAe; rw [List.length_map] at this; simp only [TS.fin, TS.pr, List.length_append, prints_len] at this; exact this
  -- the two boxes
  obtain ⟨m1, hm1⟩ : ∃ m1, m1 = Dx.newRow (Dx.newRow m [iv G.loc, va]) [ed, md] := ⟨_, rfl⟩
  have E1 : Ext m m1 := by rw [hm1]; exact (Ext.row _ _).trans (Ext.row _ _)
  have S1 : Sees m m1 := (Sees.refl hm).ext E1
  have b4 : ∀ m', Sees m1 m' → ∀ o s, load1 m' ⟨m.n, o, s⟩ = [iv G.loc, va][o]? := fun m' h => (boxS_at (m := m) (l := [iv G.loc, va]) (m' := m') (by
    have : Ext (Dx.newRow m [iv G.loc, va]) m1 := by rw [hm1]; exact Ext.row _ _
    exact ((sees_row0 hm _).ext this).trans h)).2
  have b6 : ∀ m', Sees m1 m' → (∀ s, loads m' ⟨m.n + 1, 0, s⟩ 2 = some [ed, md]) ∧ ∀ o s, load1 m' ⟨m.n + 1, o, s⟩ = [ed, md][o]? := fun m' h => by
    have k := boxS_at (m := Dx.newRow m [iv G.loc, va]) (l := [ed, md]) (m' := m') (by rw [← hm1]; exact h)
    rw [newRow_n] at k
    exact ⟨fun s => k.1 0 2 s (by simp), k.2⟩
  obtain ⟨v3, m3, s1, s2, s3⟩ := Order_c (n + 2) ed md es hl m1 S1.base (hed.sees S1) b hb
  have S3 := S1.self.ext s2
  have S3m := S1.ext s2
  have hrd := s3.rd natRow_len
  have hrl : lenS v3 = some (.int .i64 (es.length : Int)) := by have := hrd.len; rwa [hol] at this
  have b61 := b6 m1 S1.self
  simp [← hm1, b61, loadNS_ptr, s1]
  have E3 := E1.trans s2
  refine loop_run (c := c_sextantlaw29_thread_36) rfl (Ret m _) (fun i t m' => (Tm.get 1 t = outs ∧ Tm.get 3 t = iv nn ∧ Tm.get 4 t = .pointer (some ⟨m.n, 0, none⟩) ∧ Tm.get 6 t = .pointer (some ⟨m.n + 1, 0, none⟩) ∧ Tm.get 9 t = v3 ∧ Tm.get 12 t = iv i) ∧
      Tm.get 10 t = iv (((ordL es b).take i).foldl (wSt es ms b V) TS0 nn).acts.length ∧ Tm.get 11 t = iv (((ordL es b).take i).foldl (wSt es ms b V) TS0 nn).loc ∧ Ext m3 m') es.length (by omega)
    ⟨⟨by simp, by simp, by simp, by simp, by simp, by simp⟩, by simp [TS0], by simp [TS0], by simp⟩ (fun i t m' k hi hI hk => ?_)
  obtain ⟨⟨t1, t3, t4, t6, t9, t12⟩, t10, t11, hE'⟩ := hI
  have S' : Sees m3 m' := S3.self.ext hE'
  have Sm' : Sees m m' := S3m.trans S'
  have S1' : Sees m1 m' := S3.trans S'
  by_cases hil : i < es.length
  · obtain ⟨x, hx⟩ : ∃ e, (ordL es b)[i]? = some e := ⟨_, List.getElem?_eq_getElem (by omega)⟩
    have hxl : x < es.length := by
      have := List.mem_of_getElem? hx
      unfold ordL at this
      simp only [List.mem_map] at this
      obtain ⟨k, -, rfl⟩ := this
      exact Nat.mod_lt _ (by omega)
    have htake : (ordL es b).take (i + 1) = (ordL es b).take i ++ [x] := by
      obtain ⟨h, e⟩ := List.getElem?_eq_some_iff.1 hx
      rw [List.take_succ_eq_append_getElem h, e]
    obtain ⟨Si, hSi⟩ : ∃ S, S = ((ordL es b).take i).foldl (wSt es ms b V) TS0 := ⟨_, rfl⟩
    have hSn : ((ordL es b).take (i + 1)).foldl (wSt es ms b V) TS0 = wSt es ms b V Si x := by rw [htake, List.foldl_append, ← hSi]; rfl
    rw [hSn] at hk
    rw [← hSi] at t10 t11
    have hpre : ∃ ra ro, G.acts = (wSt es ms b V Si x nn).acts ++ ra ∧ G.outs = (wSt es ms b V Si x nn).outs ++ ro := by
      have := wfold_pre es ms (rankE es b false) (rankE es b true) (vRef es V) nn ((ordL es b).drop (i + 1)) (wSt es ms b V Si x)
      rw [← hSn] at this
      have e : ((ordL es b).drop (i + 1)).foldl (wStep es ms (rankE es b false) (rankE es b true) (vRef es V)) (((ordL es b).take (i + 1)).foldl (wSt es ms b V) TS0) = (ordL es b).foldl (wSt es ms b V) TS0 := by
        rw [← List.foldl_append, List.take_append_drop]
      rw [e, hG] at this
      rw [← hSn]; exact this
    have hou' : (Si nn).outs.length = (Si nn).loc := by rw [hSi]; exact wfold_outs es ms _ _ _ ((ordL es b).take i) TS0 (fun _ => rfl) nn
    have hlocb : (Si nn).loc ≤ 16 := by
      have := (wfold_bd es ms (rankE es b false) (rankE es b true) (vRef es V) ((ordL es b).take i) 0 TS0 (fun j => by simp [TS0]) nn).1
      rw [hSi]; rw [List.length_take] at this; show (List.foldl (wStep es ms (rankE es b false) (rankE es b true) (vRef es V)) TS0 (List.take i (ordL es b)) nn).loc ≤ 16; omega
    obtain ⟨q1, hq1⟩ : ∃ q, q = (Si nn).acts.length := ⟨_, rfl⟩
    obtain ⟨q2, hq2⟩ : ∃ q, q = (Si nn).loc := ⟨_, rfl⟩
    rw [← hq1] at t10
    rw [← hq2] at t11
    have ⟨o1, o2⟩ := Rd.at1 (g := fun (x : Nat) => iv x) (hrd.sees S') hx
    have o2' := o2 m' S'.self
    have hd := dlt hil
    have w1 := nextI (i := i) (by omega)
    have b6' := b6 m' S1'
    have b4' := b4 m' S1'
    obtain ⟨T, hT⟩ : ∃ T, T = rankE es b false x := ⟨_, rfl⟩
    obtain ⟨v4, m4, p1, p2, hv4⟩ := Thread_c n ed md es hl m' Sm'.base (hed.sees Sm') b hb x hxl _ (rankE_ok hxl)
    rw [← hT] at hv4
    subst hv4
    simp [t1, t3, t4, t6, t9, t10, t11, t12, hrl, hd, o1, o2', b6', loadNS_ptr, p1]
    by_cases hTn : T = nn
    rotate_left
    · have e2 : ((T : Int) = (nn : Int)) = False := eq_false (by omega)
      simp [hTn, e2, t12, w1]
      have hsame : wSt es ms b V Si x nn = Si nn := by show upN Si (rankE es b false x) _ nn = _; rw [upN_ne _ _ (by rw [← hT]; exact fun h => hTn h.symm)]
      refine hk hil _ _ ⟨⟨by simp [t1], by simp [t3], by simp [t4], by simp [t6], by simp [t9], by simp⟩, ?_, ?_, hE'.trans p2⟩
      · rw [hsame, ← hq1]; simp [t10]
      · rw [hsame, ← hq2]; simp [t11]
    have hstep : wSt es ms b V Si x nn = tsStep es ms (rankE es b true) (vRef es V) x (Si nn) := by
      show upN Si (rankE es b false x) _ nn = _
      rw [← hT, hTn, upN_same]
    rw [hstep] at hpre
    obtain ⟨ra, ro, hra, hro⟩ := hpre
    have S4 := S'.self.ext p2
    have S4m := Sm'.trans S4
    have b64 := b6 m4 (S1'.trans S4)
    obtain ⟨v5, m5, f1, f2, hv5⟩ := Fence_c (n + 3) ed md es hl m4 S4.base (hed.sees S4m) x hxl
    have hfe : (eAt es (ahN es.length x)).2 = fenE es x := rfl
    rw [hfe] at hv5
    obtain ⟨f, hf⟩ : ∃ f, f = fenE es x := ⟨_, rfl⟩
    rw [← hf] at hv5
    subst hv5
    have S5 := S4.ext f2
    have S5m := S4m.ext f2
    have E5 := (hE'.trans p2).trans f2
    -- what the access must be
    obtain ⟨C, hC⟩ : ∃ C : AB, C = if fromE es x then stA (rankE es b true x) (mAt ms x) (vRef es V x) else ldA (Si nn).loc (rankE es b true x) (mAt ms x) := ⟨_, rfl⟩
    have hacts : G.fin.acts = (Si nn).acts ++ (evF f ++ C :: (ra ++ prints G.loc)) := by
      show G.acts ++ prints G.loc = _
      rw [hra]
      unfold tsStep
      cases hfr : fromE es x <;> rw [hfr] at hC <;> simp at hC <;> simp [hC, hf]
    have htl : (tsStep es ms (rankE es b true) (vRef es V) x (Si nn)).acts.length = q1 + (evF f).length + 1 := by
      unfold tsStep
      split <;> simp [hq1, hf] <;> omega
    have hloc : (tsStep es ms (rankE es b true) (vRef es V) x (Si nn)).loc = if fromE es x then q2 else q2 + 1 := by
      unfold tsStep
      split <;> simp [hq2]
    obtain ⟨r, hr, hera⟩ := act_at (A := A) (P := (Si nn).acts ++ evF f) (x := C) (rest := ra ++ prints G.loc) (by rw [hAe, hacts]; simp)
    rw [List.length_append, ← hq1] at hr
    have hOR : fromE es x = false → G.outs[q2]? = some (vRef es V x) := fun hfr => by
      rw [hro]; unfold tsStep; rw [hfr]
      rw [hq2, ← hou']; simp
    rw [hC, ← hq2] at hera
    have fin : ∀ (t : Tm) (m6 : M) (kr : Dx.K) (kn : Dx.K) (ke : Nat → Dx.K), Ext m5 m6 → Tm.get 1 t = outs → Tm.get 3 t = iv nn → Tm.get 4 t = .pointer (some ⟨m.n, 0, none⟩) → Tm.get 6 t = .pointer (some ⟨m.n + 1, 0, none⟩) → Tm.get 9 t = v3 → Tm.get 12 t = iv i → Tm.get 10 t = iv (q1 + (evF f).length : Nat) → Tm.get 11 t = iv q2 → Tm.get 13 t = iv x →
        (∀ t' m', (Tm.get 1 t' = outs ∧ Tm.get 3 t' = iv nn ∧ Tm.get 4 t' = .pointer (some ⟨m.n, 0, none⟩) ∧ Tm.get 6 t' = .pointer (some ⟨m.n + 1, 0, none⟩) ∧ Tm.get 9 t' = v3 ∧ Tm.get 12 t' = iv i) → Tm.get 10 t' = iv (tsStep es ms (rankE es b true) (vRef es V) x (Si nn)).acts.length → Tm.get 11 t' = iv (tsStep es ms (rankE es b true) (vRef es V) x (Si nn)).loc → Ext m6 m' → Ret m (fun u _ => u = .bool true) (kn t' m')) →
        Ret m (fun u _ => u = .bool true) (c_sextantlaw29_thread_28 (ex Try.prog (n + 5)) kn (outOf 1 kn ke) kr t m6) := by
      intro t m6 kr kn ke e6 g1 g3 g4 g6 g9 g12 g10 g11 g13 hend
      have S6 := S5.ext e6
      refine thr_tail n (m0 := m3) hl hml (S'.trans S6) (hed.sees S3m) (hmd.sees S3m) (hA.sees S3m) (hO.sees S3m) (by omega) (by omega) (fun m' h s => by rw [b4 m' (S3.trans h)]; rfl) (fun m' h => b6 m' (S3.trans h)) hb V hV hVs hxl hr hera
        (fun B op v hB => by obtain ⟨h1, h2⟩ := hE r (List.mem_of_getElem? hr) B op v hB; exact ⟨Nat.lt_of_lt_of_le h1 S3m.n, h2.sees S3m h1⟩) hOR (by omega) g1 g4 g6 g10 g11 g13
        (fun t' => Tm.get 1 t' = outs ∧ Tm.get 3 t' = iv nn ∧ Tm.get 4 t' = .pointer (some ⟨m.n, 0, none⟩) ∧ Tm.get 6 t' = .pointer (some ⟨m.n + 1, 0, none⟩) ∧ Tm.get 9 t' = v3 ∧ Tm.get 12 t' = iv i) ⟨g1, g3, g4, g6, g9, g12⟩ (fun t i v h hm => ?_) _ _ _ _ (fun t' m' hI x10 x11 e => hend t' m' hI ?_ ?_ e)
      · simp only [List.mem_cons, List.not_mem_nil, or_false, not_or] at hm
        obtain ⟨a1, a2, a3, a4, a5, a6⟩ := hm
        simp only [get_set]
        rw [if_neg (Ne.symm a1), if_neg (Ne.symm a2), if_neg (Ne.symm a3), if_neg (Ne.symm a4), if_neg (Ne.symm a5), if_neg (Ne.symm a6)]
        exact h
      · rw [x10, htl]
      · rw [x11, hloc]
    have done : ∀ t' m', (Tm.get 1 t' = outs ∧ Tm.get 3 t' = iv nn ∧ Tm.get 4 t' = .pointer (some ⟨m.n, 0, none⟩) ∧ Tm.get 6 t' = .pointer (some ⟨m.n + 1, 0, none⟩) ∧ Tm.get 9 t' = v3 ∧ Tm.get 12 t' = iv i) → Tm.get 10 t' = iv (tsStep es ms (rankE es b true) (vRef es V) x (Si nn)).acts.length → Tm.get 11 t' = iv (tsStep es ms (rankE es b true) (vRef es V) x (Si nn)).loc → Ext m5 m' →
        Ret m (fun u _ => u = .bool true) (sReg (seqI o_sextantlaw29_thread_25) (ex Try.prog (n + 5)) k (outOf 0 (c_sextantlaw29_thread_55 (ex Try.prog (n + 5)) (resK [RV.t 8]) noK (resK [RV.t 8])) noK) (resK [RV.t 8]) t' m') := by
      intro t' m' ⟨g1, g3, g4, g6, g9, g12⟩ x10 x11 e
      simp [g12, w1]
      refine hk hil _ _ ⟨⟨by simp [g1], by simp [g3], by simp [g4], by simp [g6], by simp [g9], by simp⟩, ?_, ?_, E5.trans e⟩
      · rw [hstep]; simp [x10]
      · rw [hstep]; simp [x11]
    have hal := hA.len
    by_cases hz : f = 0
    · simp [hTn, t1, t3, t4, t6, t9, t10, t11, t12, b64, loadNS_ptr, f1, hz, -c_sextantlaw29_thread_28_ap]
      refine fin _ m5 _ _ _ (Ext.refl _) ?_ ?_ ?_ ?_ ?_ ?_ ?_ ?_ ?_ done
      · simp [t1]
      · simp [t3]
      · simp [t4]
      · simp [t6]
      · simp [t9]
      · simp [t12]
      · simp [t10, hz, evF]
      · simp [t11]
      · simp
    · have hev : evF f = [fenA f] := by unfold evF; rw [if_neg hz]
      obtain ⟨rf, hrf, heraf⟩ := act_at (A := A) (P := (Si nn).acts) (x := fenA f) (rest := C :: (ra ++ prints G.loc)) (by rw [hAe, hacts, hev]; simp)
      rw [← hq1] at hrf
      obtain ⟨h1, h2, h3, h4, h5⟩ : rf.op = 7 ∧ rf.dst = 0 ∧ rf.base = 0 ∧ rf.mode = f ∧ rf.e.map (·.2) = none := by
        unfold AR.era fenA at heraf
        simpa using heraf
      have heV : eV rf.e = .slice none 0 0 := by rw [show rf.e = none by simpa using h5]; rfl
      have hql : q1 < A.length := (List.getElem?_eq_some_iff.1 hrf).1
      have hge : ((A.length : Int) ≤ (q1 : Int)) = False := eq_false (by omega)
      have ⟨a1, a2, a3⟩ := (hA.sees S5m).at hrf
      obtain ⟨v6, m6, g1, g2, rfl⟩ := act_c (n + 4) rf m5 S5.base
      rw [h1, h2, h3, h4] at g1
      have a2' := a2 m5 S5.self
      have S6 := S5.self.ext g2
      have a5 : load1 m6 ⟨(adr 11 va q1).block, (adr 11 va q1).off + 5, none⟩ = some (eV rf.e) := a3 m6 5 none S6 (by simp [actRow])
      rw [heV] at a5
      have b45 := b4 m5 (S1'.trans S5)
      have b46 := b4 m6 (S1'.trans (S5.trans S6))
      have l0 : lenS (.slice none 0 0) = some (iv 0) := rfl
      have wq := nextI (i := q1) (by omega)
      obtain ⟨q1', hq1'⟩ : ∃ q, q = q1 + 1 := ⟨_, rfl⟩
      rw [← hq1'] at wq
      simp [hTn, t1, t3, t4, t6, t9, t10, t11, t12, b64, loadNS_ptr, f1, hz, b45, b46, hal, hge, a1, a2', g1, a5, l0, wq, -c_sextantlaw29_thread_28_ap]
      refine fin _ m6 _ _ _ g2 ?_ ?_ ?_ ?_ ?_ ?_ ?_ ?_ ?_ fun t' m' hI x10 x11 e => done t' m' hI x10 x11 (g2.trans e)
      · simp [t1]
      · simp [t3]
      · simp [t4]
      · simp [t6]
      · simp [t9]
      · simp [t12]
      · simp [t10, hev, hq1']
      · simp [t11]
      · simp
  · obtain rfl : i = es.length := by omega
    have htk : (ordL es b).take es.length = ordL es b := List.take_of_length_le (by omega)
    rw [htk, hG] at t10 t11
    have hd : ((es.length : Int) < (es.length : Int)) = False := eq_false (by omega)
    obtain ⟨q1, hq1⟩ : ∃ q, q = G.acts.length := ⟨_, rfl⟩
    obtain ⟨q2, hq2⟩ : ∃ q, q = G.loc := ⟨_, rfl⟩
    rw [← hq1] at t10
    rw [← hq2] at t11
    have hal := hA.len
    rw [hAl, ← hq1, ← hq2] at hal
    have hoL := hO.len
    rw [hou, ← hq2] at hoL
    have b4' := b4 m' S1'
    rw [← hq2] at b4'
    have wq : IntKind.i64.wrap ((q1 : Int) + q2) = ((q1 + q2 : Nat) : Int) := by rw [wrap64 _ (by omega) (by omega)]; omega
    simp [t1, t3, t4, t6, t9, t10, t11, t12, hrl, hd, b4', hal, hoL, wq]
    refine loop_run (c := c_sextantlaw29_thread_50) rfl (Ret m _) (fun j t m' => Tm.get 4 t = .pointer (some ⟨m.n, 0, none⟩) ∧ Tm.get 10 t = iv q1 ∧ Tm.get 11 t = iv q2 ∧ Tm.get 17 t = iv j ∧ Ext m3 m') q2 (by omega)
      ⟨by simp [t4], by simp [t10], by simp [t11], by simp, hE'⟩ (fun j t m' k hj hI hk => ?_)
    obtain ⟨t4, t10, t11, t17, hE'⟩ := hI
    have S' : Sees m3 m' := S3.self.ext hE'
    by_cases hjl : j < q2
    · have hd := dlt hjl
      have w1 := nextI (i := j) (by omega)
      obtain ⟨rf, hrf, heraf⟩ : ∃ r, A[q1 + j]? = some r ∧ r.era = prA j := by
        have h2 := congrArg (fun l => l[q1 + j]?) hAe
        simp only [List.getElem?_map, TS.fin, TS.pr, prints] at h2
        rw [List.getElem?_append_right (by omega), ← hq1, show q1 + j - q1 = j by omega, List.getElem?_map, List.getElem?_range (by omega)] at h2
        cases hr : A[q1 + j]? with
        | none => rw [hr] at h2; cases h2
        | some r => rw [hr] at h2; exact ⟨r, rfl, by simpa using h2⟩
      obtain ⟨h1, h2, h3, h4, h5⟩ : rf.op = 8 ∧ rf.dst = 0 ∧ rf.base = 0 ∧ rf.mode = 0 ∧ rf.e.map (·.2) = some (2, j) := by
        unfold AR.era prA at heraf
        simpa using heraf
      obtain ⟨BE, hBE⟩ : ∃ BE, rf.e = some (BE, 2, j) := by
        cases hh : rf.e with
        | none => rw [hh] at h5; cases h5
        | some p => obtain ⟨p1, p2⟩ := p; rw [hh] at h5; simp at h5; exact ⟨p1, by rw [h5]⟩
      have heV : eV rf.e = .slice (some ⟨BE, 0, some 9⟩) 1 1 := by rw [hBE]; rfl
      obtain ⟨hBl, hBa⟩ := hE rf (List.mem_of_getElem? hrf) BE 2 j hBE
      have ⟨a1, a2, a3⟩ := (hA.sees (S3m.trans S')).at hrf
      obtain ⟨v6, m6, g1, g2, rfl⟩ := act_c (n + 4) rf m' S'.base
      rw [h1, h2, h3, h4] at g1
      have S6 := S'.ext g2
      obtain ⟨v7, m7, f1, f2, rfl⟩ := nodes_c (n + 4) BE 2 j m6 (hBa.sees (S3m.trans S6) hBl)
      have a2' := a2 m' S'.self
      have a5 : load1 m6 ⟨(adr 11 va (q1 + j : Nat)).block, (adr 11 va (q1 + j : Nat)).off + 5, none⟩ = some (eV rf.e) := a3 m6 5 none (S'.self.ext g2) (by simp [actRow])
      rw [heV] at a5
      have b4' := b4 m' (S3.trans S')
      have b46 := b4 m6 (S3.trans S6)
      have cvv := convI_u64 j (by omega)
      obtain ⟨q3, hq3⟩ : ∃ q, q = q1 + j := ⟨_, rfl⟩
      have wq : IntKind.i64.wrap ((q1 : Int) + j) = (q3 : Int) := by rw [wrap64 _ (by omega) (by omega)]; omega
      rw [← hq3] at a1 a2' a5
      simp [t4, t10, t11, t17, hd, b4', b46, wq, a1, a2', loadNS_ptr, g1, a5, cvv, f1, w1]
      exact hk hjl _ _ ⟨by simp [t4], by simp [t10], by simp [t11], by simp, (hE'.trans g2).trans f2⟩
    · obtain rfl : j = q2 := by omega
      have hd : ((j : Int) < (j : Int)) = False := eq_false (by omega)
      simp [t11, t17, hd]
      exact ret_1 (E3.trans hE') (by simp)
end Go.Sx

set_option linter.unusedSimpArgs false
set_option linter.unusedVariables false
namespace Go.Sx
open Go.Dx Go.Proofs
theorem _root_.Go.Dx.Rd.okV {α : Type} {m : M} {v : Value} {e : Nat} {f : α → List Value} {es : List α} (h : Rd m v e f es) : Dx.okC v = true := by
  have := h.len
  cases v with
  | slice a n c => rfl
  | _ => cases this
theorem WeaveWeaves_c (ed md : Value) (es : List (Int × Int)) (ms : List Int) (m : M) (hm : m.base ≤ m.n) (he16 : es.length * 16 ≤ most) (hm8 : ms.length * 8 ≤ most) (hed : Rd m ed 2 edgeRow es) (hmd : Rd m md 1 modeRow ms) (ch : Nat → List Nat)
    (hch : (layA es ms).2 = 0 → ∀ c, c < es.length - cnt es → ChainOK es (lays es (es.length - cnt es) (ordL es (begE es))).ce (begE es) c (ch c)) (V : Nat → Nat) (hV : (layA es ms).2 = 0 → ∀ i, i < es.length → fromE es i = true → ∃ d, Stop es i d ∧ V i = 1 + bw es i d)
    (hlaw : (layA es ms).2 = 0 → LayLaw es (valsF es ch (List.replicate es.length 0) (es.length - cnt es)) (rankE es (begE es) false) (rankE es (begE es) true) (vRef es V) (wrR es (begE es))) :
    CallV (Ex.step Try.prog (xA 9)) 3 [.agg #[ed, md]] m (.bool true) := by
  refine step_ret d_sextantlaw29_WeaveWeaves_ok (by simp) ?_
  have hl : es.length < 9223372036854775807 := by unfold most at he16; omega
  have st0 : St m m [] := St.nil hm (Ext.refl m)
  have st1 := st0.row [ed, md]
  obtain ⟨v1, m1, p1, p2, pQ⟩ := Weave_c 0 ed md es ms (Dx.newRow m [ed, md]) st1.sees.base hl (hed.sees st1.sees) (hmd.sees st1.sees) ch hch _ _ _ _ hlaw
  have st2 := st1.step p2
  have hb : loads (Dx.newRow m [ed, md]) ⟨m.n, 0, none⟩ 2 = some [ed, md] := loads_row m _ 0 2 (by simp)
  obtain ⟨x1, x2, y1, y2, e2, rfl, hx1, hx2, hy1, hy2, he2⟩ : ∃ (x1 x2 y1 y2 : Value) (e2 : Nat), v1 = .tuple #[.agg #[x1, x2], .agg #[y1, y2], iv e2] ∧ okC x1 = true ∧ okC x2 = true ∧ okC y1 = true ∧ okC y2 = true ∧ e2 = (layA es ms).2 := by
    rcases pQ with ⟨hz, rfl⟩ | ⟨hz, tsl, osl, fsl, loc, va, vo, A, rfl, h1, h2, h3, -⟩
    · exact ⟨_, _, _, _, _, rfl, rfl, rfl, rfl, rfl, rfl⟩
    · exact ⟨_, _, _, _, 0, rfl, rfl, h2.okV, h1.okV, h3.okV, hz.symm⟩
  -- the copies
  have st3 := (st2.row [.int .i64 0, .slice none 0 0]).row [.slice none 0 0, .slice none 0 0]
  simp only [newRow_n] at st3
  obtain ⟨m2, a1, a2, a3, a4⟩ := st3.fill 1 rfl (n := 2) (l' := [x1, x2]) rfl rfl (by simp [hx1, hx2])
  obtain ⟨m3, b1, b2, b3, b4⟩ := a2.fill 0 rfl (n := 2) (l' := [y1, y2]) rfl rfl (by simp [hy1, hy2])
  have Em3 : Ext m1 m3 := ⟨by rw [b3, a3]; simp; omega, fun B hB => by
    rw [b4 B (by omega), a4 B (by omega)]
    have e1 := (Ext.row m1 [.int .i64 0, .slice none 0 0])
    have e2 := Ext.row (Dx.newRow m1 [.int .i64 0, .slice none 0 0]) [.slice none 0 0, .slice none 0 0]
    exact (e1.trans e2).obj B hB, by rw [b2.ext.base, st2.ext.base], by rw [b2.ext.log, st2.ext.log]⟩
  have hb3 : loads m3 ⟨m.n, 0, none⟩ 2 = some [ed, md] := (b2.get 2 rfl).2.2.loads (by simp)
  obtain ⟨v4, m4, c1, c2, ed', md', rfl, c3, c4⟩ := Ref_c 8 ed md es ms m3 b2.sees.base he16 hm8 (hed.sees b2.sees) (hmd.sees b2.sees)
  have st4 := b2.step c2
  have st5 := st4.row [.slice none 0 0, .slice none 0 0]
  obtain ⟨m5, d1, d2, d3, d4⟩ := st5.fill 0 rfl (n := 2) (l' := [ed', md']) rfl rfl (by simp [c3.okV, c4.okV])
  have Em5 : Ext m4 m5 := ⟨by rw [d3]; simp, fun B hB => by rw [d4 B (by omega)]; exact (Ext.row m4 _).obj B hB, by rw [d2.ext.base, st4.ext.base], by rw [d2.ext.log, st4.ext.log]⟩
  have S45 : Sees m4 m5 := st4.sees.self.ext Em5
  have hb5 : loads m5 ⟨m4.n, 0, none⟩ 2 = some [ed', md'] := (d2.get 0 rfl).2.2.loads (by simp)
  have c3' := c3.sees S45
  have c4' := c4.sees S45
  obtain ⟨v6, m6, f1, f2, rfl⟩ := Check_c 3 ed' md' es ms m5 d2.sees.base hl c3' c4'
  have st6 := d2.step f2
  have S56 : Sees m5 m6 := d2.sees.self.ext f2
  have l31 := fun o (s : Option Nat) => (st6.get 2 rfl).2.2.load1 o s
  have l41 := fun o (s : Option Nat) => (st6.get 1 rfl).2.2.load1 o s
  have S16 : Sees m1 m6 := (st2.sees.self.ext Em3).trans ((b2.sees.self.ext c2).trans (S45.trans S56))
  rw [← layA_checkR] at f1
  obtain ⟨q1, hq1⟩ : ∃ a, a = (layA es ms).1 := ⟨_, rfl⟩
  rw [← hq1, ← he2] at f1
  rw [← he2] at pQ hV hlaw
  simp [hb, loadNS_ptr, xA_f, p1, a1, b1, hb3, c1, d1, hb5, f1]
  rcases pQ with ⟨hz, hv⟩ | ⟨hz, tsl, osl, fsl, loc, va, vo, A, hv, h1, h2, h3, h4⟩
  · simp at hv
    obtain ⟨⟨rfl, rfl⟩, rfl, rfl⟩ := hv
    have l0 : lenS (.slice none 0 0) = some (iv 0) := rfl
    simp [hz, l31, l41, xA_aw, l0]
    exact ret_1 st6.ext (by simp)
  · simp at hv
    obtain ⟨⟨rfl, rfl⟩, ⟨rfl, rfl⟩, -⟩ := hv
    have hz' : (layA es ms).2 = 0 := by omega
    obtain ⟨hl16, hml, hA2, hN1⟩ : es.length ≤ 16 ∧ ms.length = es.length ∧ 2 ≤ cnt es ∧ 1 ≤ es.length - cnt es := by
      unfold layA at hz'
      by_cases h1 : (plainR es ms).2 ≠ 0
      · rw [if_pos h1] at hz'; exact absurd hz' h1
      · rw [if_neg h1] at hz'
        have h1' : (plainR es ms).2 = 0 := by omega
        by_cases h2 : cnt es < 2 ∨ es.length - cnt es < 1
        · rw [if_pos h2] at hz'; simp at hz'
        · exact ⟨(plainR_len h1').1, (plainR_len h1').2, by omega, by omega⟩
    obtain ⟨law1, law2, law3, law4, law5, law6, law7⟩ := hlaw hz
    have hV' := hV hz
    have hbg := begE_ok (es := es) (by omega)
    obtain ⟨b, hbe⟩ : ∃ b, b = begE es := ⟨_, rfl⟩
    rw [← hbe] at hbg law7 h1 h4
    have c36 := c3'.sees S56
    have c46 := c4'.sees S56
    have k1 := h1.sees S16
    have k2 := h2.sees S16
    have k3 := h3.sees S16
    have k1l := k1.len
    have k2l := k2.len
    have k3l := k3.len
    simp only [List.length_map, List.length_range] at k1l k2l k3l
    obtain ⟨N, hN⟩ : ∃ N, N = es.length - cnt es := ⟨_, rfl⟩
    obtain ⟨nt, hnt⟩ : ∃ nt, nt = cnt es := ⟨_, rfl⟩
    rw [← hN] at k1l l31 k1 ⊢
    rw [← hnt] at k2l k3l k2 k3 h4
    have u1 := Call.use (m0 := m6) fun m'' h => by have := Cells_c 6 ed' md' es hl16 m'' h.base (c36.sees h); rwa [← hN] at this
    have u2 := Call.use (m0 := m6) fun m'' h => by have := Threads_c 6 ed' md' es hl16 m'' h.base (c36.sees h); rwa [← hnt] at this
    have l3m : ∀ m'', Sees m6 m'' → ∀ o s, load1 m'' ⟨m1.n, o, s⟩ = [iv N, x2][o]? := fun m'' h o s => by rw [load1_sees h (st6.get 2 rfl).2.1]; exact l31 o s
    have l4m : ∀ m'', Sees m6 m'' → ∀ o s, load1 m'' ⟨m1.n + 1, o, s⟩ = [y1, y2][o]? := fun m'' h o s => by rw [load1_sees h (st6.get 1 rfl).2.1]; exact l41 o s
    have l6m : ∀ m'', Sees m6 m'' → ∀ s, loads m'' ⟨m4.n, 0, s⟩ 2 = some [ed', md'] := fun m'' h s => by rw [loads_sees h (st6.get 0 rfl).2.1]; exact (st6.get 0 rfl).2.2.loads (by simp)
    have S6 := st6.sees.self
    simp (maxDischargeDepth := 30) [hz, l3m, l4m, l6m, S6, xA_aw, xA_f, loadNS_ptr, u1, u2, k1l, k2l, k3l]
    refine loop_run (c := c_sextantlaw29_WeaveWeaves_15) rfl (Ret m _) (fun i t m' => Tm.get 3 t = .pointer (some ⟨m1.n, 0, none⟩) ∧ Tm.get 4 t = .pointer (some ⟨m1.n + 1, 0, none⟩) ∧ Tm.get 6 t = .pointer (some ⟨m4.n, 0, none⟩) ∧ Tm.get 9 t = iv i ∧ Ext m6 m') N (by omega)
      ⟨by simp, by simp, by simp, by simp, by simp (maxDischargeDepth := 30) [S6, u1, u2]⟩ (fun i t m' k hi hI hk => ?_)
    obtain ⟨t3, t4, t6, t9, hE⟩ := hI
    have S' := S6.ext hE
    have Ss := S'.self
    have l3' := fun m'' (h : Sees m' m'') => l3m m'' (S'.trans h)
    have l4' := fun m'' (h : Sees m' m'') => l4m m'' (S'.trans h)
    have l6' := fun m'' (h : Sees m' m'') => l6m m'' (S'.trans h)
    by_cases hil : i < N
    · have hd := dlt hil
      have w1 := nextI (i := i) (by omega)
      obtain ⟨w, hw⟩ : ∃ w, w = wrR es b i := ⟨_, rfl⟩
      have hwi : ((List.range N).map (wrR es b))[i]? = some w := by rw [List.getElem?_map, List.getElem?_range (by omega), hw]; rfl
      have ⟨o1, o2⟩ := Rd.at1 (g := fun (x : Nat) => Value.int .u64 (x : Int)) (k1.sees S') hwi
      have cvv := convI_u64 w (by rw [hw]; exact law7 i)
      have u3 := Call.use (m0 := m') fun m'' h => by have := Writes_c 3 ed' md' es hl16 m'' h.base (c36.sees (S'.trans h)) b hbg i; rwa [← hw] at this
      simp (maxDischargeDepth := 30) [t3, t4, t6, t9, l3', l4', l6', Ss, hd, xA_f, loadNS_ptr, o1, o2, u3, cvv, w1]
      refine hk hil _ _ ⟨by simp [t3], by simp [t4], by simp [t6], by simp, by simp (maxDischargeDepth := 30) [hE, Ss, u3]⟩
    obtain rfl : i = N := by omega
    have hd : ((i : Int) < (i : Int)) = False := eq_false (by omega)
    simp [t3, t4, t6, t9, l3', Ss, hd]
    refine loop_run (c := c_sextantlaw29_WeaveWeaves_26) rfl (Ret m _) (fun j t m' => Tm.get 3 t = .pointer (some ⟨m1.n, 0, none⟩) ∧ Tm.get 4 t = .pointer (some ⟨m1.n + 1, 0, none⟩) ∧ Tm.get 6 t = .pointer (some ⟨m4.n, 0, none⟩) ∧ Tm.get 10 t = iv j ∧ Ext m6 m') nt (by omega)
      ⟨by simp [t3], by simp [t4], by simp [t6], by simp, hE⟩ (fun j t m' k hj hI hk => ?_)
    obtain ⟨t3, t4, t6, t10, hE⟩ := hI
    have S' := S6.ext hE
    have Ss := S'.self
    have l3' := fun m'' (h : Sees m' m'') => l3m m'' (S'.trans h)
    have l4' := fun m'' (h : Sees m' m'') => l4m m'' (S'.trans h)
    have l6' := fun m'' (h : Sees m' m'') => l6m m'' (S'.trans h)
    by_cases hjl : j < nt
    · have hd := dlt hjl
      have w1 := nextI (i := j) (by omega)
      obtain ⟨g1, g2, g3, g4, g5⟩ := h4 j hjl
      have ⟨o1, o2, _⟩ := Rd.at (i := j) (r := (((loc j : Nat) : Int), va j)) (k2.sees S') (by rw [List.getElem?_map, List.getElem?_range hjl]; rfl)
      have ⟨r1, r2⟩ := Rd.at1 (g := fun (v : Value) => v) (i := j) (r := vo j) (k3.sees S') (by rw [List.getElem?_map, List.getElem?_range hjl]; rfl)
      obtain ⟨G, hG⟩ : ∃ G, (ordL es b).foldl (wSt es ms b (V)) TS0 j = G := ⟨_, rfl⟩
      have g2' : (A j).map AR.era = G.fin.acts := by rw [g2, ← hG]
      have g4' : Rd m1 (vo j) 1 outRow G.outs := by rw [← hG]; exact g4
      have g1' : loc j = G.loc := by rw [g1, ← hG]; rfl
      have u4 := Call.use (m0 := m') fun m'' h => thread_c 3 ed' md' (va j) (vo j) es ms m'' h.base hl16 hml (c36.sees (S'.trans h)) (c46.sees (S'.trans h)) b hbg V hV' law6 j G hG (A j) g2' (g3.sees (S16.trans (S'.trans h))) (g4'.sees (S16.trans (S'.trans h))) (fun r hr B op v hB => by
        obtain ⟨a, c⟩ := g5 r hr B op v hB
        exact ⟨Nat.lt_of_lt_of_le a (S16.trans (S'.trans h)).n, c.sees (S16.trans (S'.trans h)) a⟩)
      rw [← g1'] at u4
      simp (maxDischargeDepth := 30) [t3, t4, t6, t10, l3', l4', l6', Ss, k2l, hd, xA_f, loadNS_ptr, o1, o2, r1, r2, u4, w1]
      exact hk hjl _ _ ⟨by simp [t3], by simp [t4], by simp [t6], by simp, by simp (maxDischargeDepth := 30) [hE, Ss, u4]⟩
    · obtain rfl : j = nt := by omega
      have hd : ((j : Int) < (j : Int)) = False := eq_false (by omega)
      simp [t3, t4, t6, t10, l3', Ss, k2l, hd]
      exact ret_1 (st6.ext.trans hE) (by simp)
end Go.Sx
