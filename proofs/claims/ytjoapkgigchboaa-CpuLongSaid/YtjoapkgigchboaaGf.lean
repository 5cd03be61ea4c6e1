/- Contracts. -/
import Derived.Test.YtjoapkgigchboaaGe
import Derived.Test.YtjoapkgigchboaaGb1
set_option linter.unusedVariables false
set_option linter.unusedSimpArgs false
set_option linter.defProp false
namespace Go.Sx
open Go.Dx Go.Proofs
set_option maxRecDepth 10000
def pairRow (x : Nat × Nat) : List Value := [iv x.1, iv x.2]
abbrev wordRow (x : Nat) : List Value := [uv x]
theorem cloneE_c (n : Nat) {m : M} (hm : m.base ≤ m.n) {v : Value} {es : List EvR} (h : Gro m v 5 evRow es) (hl : es.length ≤ 100000) :
    Dx.Call (ex Try.prog (n + 1)) 56 [v] m fun v' m' => Gro m' v' 5 evRow es ∧ ∀ B, blk v' = some B → m.n ≤ B := by
  refine call_ret dc6_ok (by simp) ?_
  have hln := h.len
  have hrd : Rd m v 5 evRow es := Grown.rd (fun _ => rfl) h
  have heq := eqN_nilS hln
  rcases h with ⟨rfl, rfl⟩ | ⟨B, h1, h2, h3, rfl, h5⟩
  · simp [heq]
    exact ret_1 (Ext.refl m) ⟨.inl ⟨rfl, by simp⟩, by simp [blk]⟩
  · obtain ⟨v', m', a1, a2, a3, a4, a5⟩ := append_clone hm hrd (fun _ => rfl) 40 (by unfold most; omega) (by omega)
    have hv' := a5 h3
    have ha4 := a4 (m.n + 1) (by rw [hv']; rfl)
    have hlt := a3.lt (m.n + 1) (by rw [hv']; rfl)
    have bs : bsliceS 5 0 (rep 0 [.int .i64 0, .int .i64 0, .int .i64 0, .int .u64 0, .int .i64 0]) [] m = some (.slice (some ⟨m.n, 0, some (code 5 true)⟩) 0 0, Dx.newRow m []) := rfl
    rw [hv'] at a1
    simp [heq, bs, a1]
    exact ret_1 a2 ⟨.inr ⟨m.n + 1, Nat.zero_le _, hlt, h3, by simp, ha4.2⟩, by simp [blk]⟩
theorem cloneP_c (n : Nat) {m : M} (hm : m.base ≤ m.n) {v : Value} {es : List (Nat × Nat)} (h : Gro m v 2 pairRow es) (hl : es.length ≤ 100000) :
    Dx.Call (ex Try.prog (n + 1)) 58 [v] m fun v' m' => Gro m' v' 2 pairRow es ∧ ∀ B, blk v' = some B → m.n ≤ B := by
  refine call_ret dc8_ok (by simp) ?_
  have hln := h.len
  have hrd : Rd m v 2 pairRow es := Grown.rd (fun _ => rfl) h
  have heq := eqN_nilS hln
  rcases h with ⟨rfl, rfl⟩ | ⟨B, h1, h2, h3, rfl, h5⟩
  · simp [heq]
    exact ret_1 (Ext.refl m) ⟨.inl ⟨rfl, by simp⟩, by simp [blk]⟩
  · obtain ⟨v', m', a1, a2, a3, a4, a5⟩ := append_clone hm hrd (fun _ => rfl) 16 (by unfold most; omega) (by omega)
    have hv' := a5 h3
    have ha4 := a4 (m.n + 1) (by rw [hv']; rfl)
    have hlt := a3.lt (m.n + 1) (by rw [hv']; rfl)
    have bs : bsliceS 2 0 (rep 0 [.int .i64 0, .int .i64 0]) [] m = some (.slice (some ⟨m.n, 0, some (code 2 true)⟩) 0 0, Dx.newRow m []) := rfl
    rw [hv'] at a1
    simp [heq, bs, a1]
    exact ret_1 a2 ⟨.inr ⟨m.n + 1, Nat.zero_le _, hlt, h3, by simp, ha4.2⟩, by simp [blk]⟩
theorem cloneW_c (n : Nat) {m : M} (hm : m.base ≤ m.n) {v : Value} {es : List Nat} (h : Gro m v 1 wordRow es) (hl : es.length ≤ 100000) :
    Dx.Call (ex Try.prog (n + 1)) 57 [v] m fun v' m' => Gro m' v' 1 wordRow es ∧ ∀ B, blk v' = some B → m.n ≤ B := by
  refine call_ret dc7_ok (by simp) ?_
  have hln := h.len
  have hrd : Rd m v 1 wordRow es := Grown.rd (fun _ => rfl) h
  have heq := eqN_nilS hln
  rcases h with ⟨rfl, rfl⟩ | ⟨B, h1, h2, h3, rfl, h5⟩
  · simp [heq]
    exact ret_1 (Ext.refl m) ⟨.inl ⟨rfl, by simp⟩, by simp [blk]⟩
  · obtain ⟨v', m', a1, a2, a3, a4, a5⟩ := append_clone hm hrd (fun _ => rfl) 8 (by unfold most; omega) (by omega)
    have hv' := a5 h3
    have ha4 := a4 (m.n + 1) (by rw [hv']; rfl)
    have hlt := a3.lt (m.n + 1) (by rw [hv']; rfl)
    have bs : bsliceS 1 0 (rep 0 [.int .u64 0]) [] m = some (.slice (some ⟨m.n, 0, some (code 1 true)⟩) 0 0, Dx.newRow m []) := rfl
    rw [hv'] at a1
    simp [heq, bs, a1]
    exact ret_1 a2 ⟨.inr ⟨m.n + 1, Nat.zero_le _, hlt, h3, by simp, ha4.2⟩, by simp [blk]⟩
def runV (ev : Value) (st lc us : Int) : List Value := [ev, nilS, nilS, nilS, nilS, nilS, iv st, iv lc, iv us]
abbrev z9 : List Value := [nilS, nilS, nilS, nilS, nilS, nilS, .int .i64 0, .int .i64 0, .int .i64 0]
set_option maxHeartbeats 1000000 in
theorem told_c (n : Nat) {m : M} (hm : m.base ≤ m.n) {ev : Value} {evs : List EvR} (h : Gro m ev 5 evRow evs) (hl : evs.length ≤ 100000) (st lc us : Int) :
    Dx.Call (ex Try.prog (n + 2)) 38 [.agg ⟨runV ev st lc us⟩] m fun v' m' => ∃ ev', v' = .agg ⟨runV ev' st lc us⟩ ∧ Gro m' ev' 5 evRow evs ∧ ∀ B, blk ev' = some B → m.n ≤ B := by
  refine call_ret db9_ok (by simp) ?_
  have st1 := ((St.nil hm (Ext.refl m)).row (runV ev st lc us)).row z9
  obtain ⟨m0, hm0⟩ : ∃ m0, m0 = Dx.newRow m (runV ev st lc us) := ⟨_, rfl⟩
  have hb : boxS (.agg ⟨runV ev st lc us⟩) m = some (.pointer (some ⟨m.n, 0, none⟩), m0) := by rw [hm0]; rfl
  have hn0 : m0.n = m.n + 1 := by rw [hm0, newRow_n]
  obtain ⟨m1, hm1⟩ : ∃ m1, m1 = Dx.newRow m0 z9 := ⟨_, rfl⟩
  have hm1' : Dx.newRow m0 [.slice none 0 0, .slice none 0 0, .slice none 0 0, .slice none 0 0, .slice none 0 0, .slice none 0 0, .int .i64 0, .int .i64 0, .int .i64 0] = m1 := hm1.symm
  rw [← hm0, ← hm1] at st1
  have hnil : ∀ {α : Type} (m : M) (e : Nat) (f : α → List Value), Gro m nilS e f ([] : List α) := fun m e f => .inl ⟨rfl, rfl⟩
  have l0 : load1 m1 ⟨m.n, 0, none⟩ = some ev := (st1.get 1 rfl).2.2.load1 0 none
  have hg1 : Gro (forAny m1) ev 5 evRow evs := h.keep (by rw [forAny_n]; exact st1.ext.n) fun B hB hbB => by rw [forAny_obj]; exact st1.ext.obj B hB
  obtain ⟨ev', m2, a1, a0, a2, a3, a4⟩ := any_call (cloneE_c n (by rw [forAny_base, forAny_n]; exact Nat.le_refl _) hg1 hl)
  obtain ⟨M2, hM2⟩ : ∃ M2, M2 = Dx.behind m1 m2 := ⟨_, rfl⟩
  rw [← hM2] at a2
  have st2 := st1.step a2
  have l5 : load1 M2 ⟨m.n, 5, none⟩ = some nilS := (st2.get 1 rfl).2.2.load1 5 none
  obtain ⟨o2, m3, b1, b0, b2, b3, b4⟩ := any_call (cloneW_c n (m := forAny M2) (by rw [forAny_base, forAny_n]; exact Nat.le_refl _) (hnil (forAny M2) 1 wordRow) (by simp))
  have nil_of : ∀ {α : Type} {m : M} {v : Value} {e : Nat} {f : α → List Value}, Gro m v e f ([] : List α) → v = nilS := fun h => by
    rcases h with ⟨_, h⟩ | ⟨_, _, _, h, _⟩
    · exact h
    · exact absurd rfl h
  obtain rfl := nil_of b3
  obtain ⟨M3, hM3⟩ : ∃ M3, M3 = Dx.behind M2 m3 := ⟨_, rfl⟩
  rw [← hM3] at b2
  have st3 := st2.step b2
  have hv' : okC ev' = true := Grown.okC a3
  obtain ⟨m4, c1, c0, st4, c2, c3⟩ := st3.storeAny 1 (b := m.n) rfl (o := 0) (v := ev') (by simp [runV]) hv'
  obtain ⟨M4, hM4⟩ : ∃ M4, M4 = Dx.behind M3 m4 := ⟨_, rfl⟩
  rw [← hM4] at st4 c2 c3
  obtain ⟨m5, d1, d0, st5, d2, d3⟩ := st4.storeAny 1 (b := m.n) rfl (o := 5) (v := nilS) (by simp [runV]) rfl
  obtain ⟨M5, hM5⟩ : ∃ M5, M5 = Dx.behind M4 m5 := ⟨_, rfl⟩
  rw [← hM5] at st5 d2 d3
  have l1 : load1 M5 ⟨m.n, 1, none⟩ = some nilS := (st5.get 1 rfl).2.2.load1 1 none
  obtain ⟨o1v, m1e, e1a, e1b, e1c, e1d, -⟩ := any_call (cloneP_c n (m := forAny M5) (by rw [forAny_base, forAny_n]; exact Nat.le_refl _) (hnil (forAny M5) 2 pairRow) (by simp))
  obtain rfl := nil_of e1d
  obtain ⟨N1, hN1⟩ : ∃ x, x = Dx.behind M5 m1e := ⟨_, rfl⟩
  rw [← hN1] at e1c
  have stN1 := st5.step e1c
  have l2 : load1 N1 ⟨m.n, 2, none⟩ = some nilS := (stN1.get 1 rfl).2.2.load1 2 none
  obtain ⟨o2v, m2e, e2a, e2b, e2c, e2d, -⟩ := any_call (cloneP_c n (m := forAny N1) (by rw [forAny_base, forAny_n]; exact Nat.le_refl _) (hnil (forAny N1) 2 pairRow) (by simp))
  obtain rfl := nil_of e2d
  obtain ⟨N2, hN2⟩ : ∃ x, x = Dx.behind N1 m2e := ⟨_, rfl⟩
  rw [← hN2] at e2c
  have stN2 := stN1.step e2c
  have l3 : load1 N2 ⟨m.n, 3, none⟩ = some nilS := (stN2.get 1 rfl).2.2.load1 3 none
  obtain ⟨o3v, m3e, e3a, e3b, e3c, e3d, -⟩ := any_call (cloneP_c n (m := forAny N2) (by rw [forAny_base, forAny_n]; exact Nat.le_refl _) (hnil (forAny N2) 2 pairRow) (by simp))
  obtain rfl := nil_of e3d
  obtain ⟨N3, hN3⟩ : ∃ x, x = Dx.behind N2 m3e := ⟨_, rfl⟩
  rw [← hN3] at e3c
  have stN3 := stN2.step e3c
  have l4 : load1 N3 ⟨m.n, 4, none⟩ = some nilS := (stN3.get 1 rfl).2.2.load1 4 none
  obtain ⟨o4v, m4e, e4a, e4b, e4c, e4d, -⟩ := any_call (cloneP_c n (m := forAny N3) (by rw [forAny_base, forAny_n]; exact Nat.le_refl _) (hnil (forAny N3) 2 pairRow) (by simp))
  obtain rfl := nil_of e4d
  obtain ⟨N4, hN4⟩ : ∃ x, x = Dx.behind N3 m4e := ⟨_, rfl⟩
  rw [← hN4] at e4c
  have stN4 := stN3.step e4c
  obtain ⟨m1f, f1a, f1b, stQ1, f1c, f1d⟩ := stN4.storeAny 1 (b := m.n) rfl (o := 1) (v := nilS) (by simp [runV]) rfl
  obtain ⟨Q1, hQ1⟩ : ∃ x, x = Dx.behind N4 m1f := ⟨_, rfl⟩
  rw [← hQ1] at stQ1 f1c f1d
  obtain ⟨m2f, f2a, f2b, stQ2, f2c, f2d⟩ := stQ1.storeAny 1 (b := m.n) rfl (o := 2) (v := nilS) (by simp [runV]) rfl
  obtain ⟨Q2, hQ2⟩ : ∃ x, x = Dx.behind Q1 m2f := ⟨_, rfl⟩
  rw [← hQ2] at stQ2 f2c f2d
  obtain ⟨m3f, f3a, f3b, stQ3, f3c, f3d⟩ := stQ2.storeAny 1 (b := m.n) rfl (o := 3) (v := nilS) (by simp [runV]) rfl
  obtain ⟨Q3, hQ3⟩ : ∃ x, x = Dx.behind Q2 m3f := ⟨_, rfl⟩
  rw [← hQ3] at stQ3 f3c f3d
  obtain ⟨m4f, f4a, f4b, stQ4, f4c, f4d⟩ := stQ3.storeAny 1 (b := m.n) rfl (o := 4) (v := nilS) (by simp [runV]) rfl
  obtain ⟨Q4, hQ4⟩ : ∃ x, x = Dx.behind Q3 m4f := ⟨_, rfl⟩
  rw [← hQ4] at stQ4 f4c f4d
  have lr : loads Q4 ⟨m.n, 0, none⟩ 9 = some (runV ev' st lc us) := (stQ4.get 1 rfl).2.2.loads (o := 0) (n := 9) (by simp [runV])
  obtain ⟨m9, g1, st9, g2, g3⟩ := stQ4.fill 0 (b := m0.n) (l := z9) rfl (n := 9) (l' := runV ev' st lc us) rfl rfl (by simp [runV, okC]; exact hv')
  have g4 := (st9.get 0 rfl).2.2.loads (o := 0) (n := 9) (s := none) (by simp [runV])
  simp [hb, hm1', l0, loadNS_ptr, lr, g1, a1, a0, ← hM2, l5, b1, b0, ← hM3, c1, c0, ← hM4, d1, d0, ← hM5, l1, e1a, e1b, ← hN1, l2, e2a, e2b, ← hN2, l3, e3a, e3b, ← hN3, l4, e4a, e4b, ← hN4, f1a, f1b, ← hQ1, f2a, f2b, ← hQ2, f3a, f3b, ← hQ3, f4a, f4b, ← hQ4]
  refine ret_cell (a := ⟨m0.n, 0, none⟩) (by simp) g4 st9.ext ⟨ev', rfl, ?_, fun B hB => ?_⟩
  · have hge : ∀ B, blk ev' = some B → m1.n ≤ B := fun B hB => by have := a4 B hB; rwa [forAny_n] at this
    have hm1n : m1.n = m.n + 2 := by rw [hm1, newRow_n, hn0]
    have kp : ∀ {a b : M} (Z : Nat), Z < m1.n → Gro a ev' 5 evRow evs → b.n = a.n → (∀ X, X ≠ Z → b.obj X = a.obj X) → Gro b ev' 5 evRow evs := fun Z hZ g hn ho => g.keep (by omega) fun B _ hB => ho B (by have := hge B hB; omega)
    have g0 : Gro M2 ev' 5 evRow evs := a3.keep (by rw [hM2, behind_n]; exact Nat.le_refl _) fun B _ _ => by rw [hM2, behind_obj]
    have gg1 := kp m.n (by omega) (kp m.n (by omega) (Grown.ext g0 b2) c2 c3) d2 d3
    have gg2 := Grown.ext (Grown.ext (Grown.ext (Grown.ext gg1 e1c) e2c) e3c) e4c
    have gg3 := kp m.n (by omega) (kp m.n (by omega) (kp m.n (by omega) (kp m.n (by omega) gg2 f1c f1d) f2c f2d) f3c f3d) f4c f4d
    exact kp m0.n (by omega) gg3 g2 g3
  · have := a4 B hB
    rw [forAny_n] at this
    have := st1.ext.n
    omega
end Go.Sx
namespace Go.Sx
open Go.Dx Go.Proofs
set_option maxRecDepth 10000
abbrev fn40 : Value := .func (.func 40) #[] #[]
theorem len0_c (n : Nat) (m : M) : CallV (ex Try.prog (n + 1)) 84 [.int .u64 0] m (iv 0) := by
  refine call_ret de1_ok (by simp) ?_
  have h1 : convIV .u8 (.int .u64 0) = some (.int .u8 0) := by rw [convI_any]; rfl
  have h2 : ∀ (x y : V) (t : Tm), pSidx x y t = sidxV (x t) (y t) := fun _ _ _ => rfl
  simp [h1, h2]
  rw [show sidxV (.string _) (.int .u8 0) = some (.int .u8 0) from rfl]
  simp [convI_any, wrap64]
  exact ret_1 (Ext.refl m) (by simp)
theorem lenI_c (n : Nat) (m : M) : CallV (ex Try.prog (n + 2)) 60 [.int .u64 0] m (iv 0) := by
  refine call_ret dd0_ok (by simp) ?_
  obtain ⟨v, m1, a1, a2, rfl⟩ := len0_c n m
  simp [a1]
  exact ret_1 a2 (by simp)
theorem ins0_c (n : Nat) (m : M) : Dx.Call (ex Try.prog (n + 1)) 75 [nilS, iv 0, iv 0, fn40] m fun _ m' => m' = m := by
  refine call_ret de0_ok (by simp) ?_
  have w : IntKind.i64.wrap 1 = 1 := wrap64 _ (by omega) (by omega)
  simp [w]
  refine loop_run (c := ce0_14) rfl (Ret m _) (fun i t m' => Tm.get 8 t = iv 1 ∧ Tm.get 2 t = iv 0 ∧ m' = m) 0 (by omega) ⟨by simp, by simp, rfl⟩ (fun i t m' k hi hI hk => ?_)
  obtain ⟨t8, t2, he⟩ := hI
  rw [he]
  simp [t8, t2]
  exact ret_0 (Ext.refl m) rfl
theorem pdq0_c (n : Nat) (m : M) : Dx.Call (ex Try.prog (n + 2)) 59 [nilS, iv 0, iv 0, iv 0, fn40] m fun _ m' => m' = m := by
  refine call_ret dc9_ok (by simp) ?_
  simp
  refine loop_run (c := cc9_41) rfl (Ret m _) (fun i t m' => Tm.get 0 t = nilS ∧ Tm.get 1 t = iv 0 ∧ Tm.get 2 t = iv 0 ∧ Tm.get 4 t = fn40 ∧ m' = m) 0 (by omega) ⟨by simp, by simp, by simp, by simp, rfl⟩ (fun i t m' k hi hI hk => ?_)
  obtain ⟨t0, t1, t2, t4, he⟩ := hI
  rw [he]
  obtain ⟨v1, m1, a1, a2, a3⟩ := ins0_c n m
  have w : IntKind.i64.wrap 0 = 0 := wrap64 _ (by omega) (by omega)
  simp [t0, t1, t2, t4, w, a1]
  exact ret_0 a2 a3
theorem sort0_c (n : Nat) (m : M) : Dx.Call (ex Try.prog (n + 3)) 39 [nilS, fn40] m fun _ m' => True := by
  refine call_ret dc0_ok (by simp) ?_
  have ln : lenS nilS = some (.int .i64 0) := rfl
  have h1 : convIV .u64 (.int .i64 0) = some (.int .u64 0) := by rw [convI_any]; rfl
  obtain ⟨v1, m1, a1, a2, rfl⟩ := lenI_c n m
  obtain ⟨v2, m2, b1, b2, b3⟩ := pdq0_c n m1
  simp [ln, h1, a1, b1]
  exact ret_0 (a2.trans b2) trivial
def stF (w : Wnt) : Int × Int := if w.what = 1 then (2, w.loc) else if w.what = 2 ∧ w.ex = true then (3, w.loc) else if w.what = 5 then (1, 0) else if w.what = 6 then (4, 0) else if w.what = 7 then (5, 0) else (0, 0)
theorem state_c (n : Nat) {m : M} (hm : m.base ≤ m.n) (w : Wnt) : CallV (ex Try.prog (n + 1)) 24 [.agg ⟨wntL w⟩] m (.tuple #[iv (stF w).1, iv (stF w).2]) := by
  refine call_ret db2_ok (by simp) ?_
  obtain ⟨m1, hb, E, hn1, l, -⟩ := box_row (m := m) (l := wntL w) (by simp [wntL])
  have l0 : load1 m1 ⟨m.n, 0, none⟩ = some (iv w.what) := l 0
  have l1 : load1 m1 ⟨m.n, 1, none⟩ = some (iv w.loc) := l 1
  have l4 : load1 m1 ⟨m.n, 4, none⟩ = some (.bool w.ex) := l 4
  by_cases h1 : w.what = 1
  · simp [hb, l0, l1, l4, h1]
    exact ret_2 E (by simp [stF, h1])
  · by_cases h2 : w.what = 2
    · cases hx : w.ex with
      | true =>
        rw [hx] at l4
        simp [hb, l0, l1, l4, h1, h2]
        exact ret_2 E (by simp [stF, h1, h2, hx])
      | false =>
        rw [hx] at l4
        simp [hb, l0, l1, l4, h1, h2]
        exact ret_2 E (by simp [stF, h1, h2, hx])
    · by_cases h5 : w.what = 5
      · simp [hb, l0, l1, l4, h1, h2, h5]
        exact ret_2 E (by simp [stF, h1, h2, h5])
      · by_cases h6 : w.what = 6
        · simp [hb, l0, l1, l4, h1, h2, h5, h6]
          exact ret_2 E (by simp [stF, h1, h2, h5, h6])
        · by_cases h7 : w.what = 7
          · simp [hb, l0, l1, l4, h1, h2, h5, h6, h7]
            exact ret_2 E (by simp [stF, h1, h2, h5, h6, h7])
          · simp [hb, l0, l1, l4, h1, h2, h5, h6, h7]
            exact ret_2 E (by simp [stF, h1, h2, h5, h6, h7])
end Go.Sx
namespace Go.Sx
open Go.Dx Go.Proofs
set_option maxRecDepth 10000
theorem runV_ok {ev : Value} (h : okC ev = true) (st lc us : Int) : ∀ v ∈ runV ev st lc us, okC v = true := by simp [runV, okC]; exact h
set_option maxHeartbeats 1000000 in
theorem sorted_c (n : Nat) {m : M} (hm : m.base ≤ m.n) {ev : Value} {evs : List EvR} (h : Gro m ev 5 evRow evs) (hl : evs.length ≤ 100000) (sx lc us : Int) :
    Dx.Call (ex Try.prog (n + 4)) 23 [.agg ⟨runV ev sx lc us⟩] m fun v' m' => ∃ ev', v' = .agg ⟨runV ev' sx lc us⟩ ∧ Gro m' ev' 5 evRow evs ∧ ∀ B, blk ev' = some B → m.n ≤ B := by
  refine call_ret db1_ok (by simp) ?_
  have st1 := ((St.nil hm (Ext.refl m)).row (runV ev sx lc us)).row z9
  obtain ⟨m0, hm0⟩ : ∃ m0, m0 = Dx.newRow m (runV ev sx lc us) := ⟨_, rfl⟩
  have hb : boxS (.agg ⟨runV ev sx lc us⟩) m = some (.pointer (some ⟨m.n, 0, none⟩), m0) := by rw [hm0]; rfl
  have hn0 : m0.n = m.n + 1 := by rw [hm0, newRow_n]
  obtain ⟨m1, hm1⟩ : ∃ m1, m1 = Dx.newRow m0 z9 := ⟨_, rfl⟩
  have hm1' : Dx.newRow m0 [.slice none 0 0, .slice none 0 0, .slice none 0 0, .slice none 0 0, .slice none 0 0, .slice none 0 0, .int .i64 0, .int .i64 0, .int .i64 0] = m1 := hm1.symm
  have hm1n : m1.n = m.n + 2 := by rw [hm1, newRow_n, hn0]
  rw [← hm0, ← hm1] at st1
  have lr : loads m1 ⟨m.n, 0, none⟩ 9 = some (runV ev sx lc us) := (st1.get 1 rfl).2.2.loads (o := 0) (n := 9) (by simp [runV])
  have hg1 : Gro m1 ev 5 evRow evs := h.keep st1.ext.n fun B hB hbB => st1.ext.obj B hB
  obtain ⟨v2, m2, a1, a2, ev', rfl, a3, a4⟩ := told_c (n + 1) st1.sees.base hg1 hl sx lc us
  have st2 := st1.step a2
  have hv' : okC ev' = true := Grown.okC a3
  obtain ⟨m3, b1, st3, b2, b3⟩ := st2.fill 1 (b := m.n) rfl (n := 9) (l' := runV ev' sx lc us) rfl rfl (runV_ok hv' _ _ _)
  have l : ∀ o, load1 m3 ⟨m.n, o, none⟩ = (runV ev' sx lc us)[o]? := fun o => (st3.get 1 rfl).2.2.load1 o none
  have l1 := l 1; have l2 := l 2; have l3 := l 3; have l4 := l 4
  simp only [runV, List.getElem?_cons_succ, List.getElem?_cons_zero] at l1 l2 l3 l4
  have st4 := st3.row [nilS, nilS, nilS, nilS]
  obtain ⟨m4, hm4⟩ : ∃ m4, m4 = Dx.newRow m3 [nilS, nilS, nilS, nilS] := ⟨_, rfl⟩
  have bs : bsliceS 1 4 (rep 4 [.slice none 0 0]) [(0, 1, nilS), (1, 1, nilS), (2, 1, nilS), (3, 1, nilS)] m3 = some (.slice (some ⟨m3.n, 0, some 3⟩) 4 4, m4) := by rw [hm4]; rfl
  rw [← hm4] at st4
  have ln : lenS (.slice (some ⟨m3.n, 0, some 3⟩) 4 4) = some (.int .i64 4) := rfl
  have hge : ∀ B, blk ev' = some B → m1.n ≤ B := a4
  have g3 : Gro m3 ev' 5 evRow evs := a3.keep (by omega) fun B _ hB => b3 B (by have := hge B hB; omega)
  have g4 : Gro m4 ev' 5 evRow evs := Grown.ext g3 (by rw [hm4]; exact Ext.row _ _)
  simp [hb, hm1', loadNS_ptr, lr, a1, b1, l1, l2, l3, l4, bs, ln]
  refine loop_run (c := cb1_7) rfl (Ret m _) (fun i t m' => Tm.get 1 t = .pointer (some ⟨m.n, 0, none⟩) ∧ Tm.get 2 t = .pointer (some ⟨m0.n, 0, none⟩) ∧ Tm.get 15 t = .slice (some ⟨m3.n, 0, some 3⟩) 4 4 ∧ Tm.get 16 t = iv 4 ∧ Tm.get 17 t = iv i ∧ St m m' [(m3.n, [nilS, nilS, nilS, nilS]), (m0.n, z9), (m.n, runV ev' sx lc us)] ∧ Gro m' ev' 5 evRow evs) 4 (by omega)
    ⟨by simp, by simp, by simp, by simp, by simp, st4, g4⟩ (fun i t m' k hi hI hk => ?_)
  obtain ⟨t1, t2, t15, t16, t17, st, g⟩ := hI
  by_cases hil : i < 4
  · have hd : ((i : Int) < 4) = True := eq_true (by omega)
    have w1 := nextI (i := i) (by omega)
    have ia := idxE (e := 1) (c := 3) m3.n 4 i hil
    rw [Nat.mul_one] at ia
    have lx : load1 m' ⟨m3.n, i, none⟩ = some nilS := by
      rw [(st.get 0 rfl).2.2.load1]
      rcases (by omega : i = 0 ∨ i = 1 ∨ i = 2 ∨ i = 3) with rfl | rfl | rfl | rfl <;> rfl
    obtain ⟨v5, m5, c1, c2, -⟩ := sort0_c n m'
    simp [t1, t2, t15, t16, t17, hd, ia, lx, c1, w1]
    exact hk hil _ _ ⟨by simp [t1], by simp [t2], by simp [t15], by simp [t16], by simp, st.step c2, Grown.ext g c2⟩
  obtain rfl : i = 4 := by omega
  have t17' : Tm.get 17 t = iv 4 := t17
  have lz : loads m' ⟨m.n, 0, none⟩ 9 = some (runV ev' sx lc us) := (st.get 2 rfl).2.2.loads (o := 0) (n := 9) (by simp [runV])
  obtain ⟨m9, d1, st9, d2, d3⟩ := st.fill 1 (b := m0.n) rfl (n := 9) (l' := runV ev' sx lc us) rfl rfl (runV_ok hv' _ _ _)
  have d4 := (st9.get 1 rfl).2.2.loads (o := 0) (n := 9) (s := none) (by simp [runV])
  simp [t1, t2, t16, t17', loadNS_ptr, lz, d1]
  refine ret_cell (a := ⟨m0.n, 0, none⟩) (by simp [t2]) d4 st9.ext ⟨ev', rfl, g.keep (by omega) fun B _ hB => d3 B (by have := hge B hB; omega), fun B hB => by have := hge B hB; omega⟩
structure Bare (s : Mch) : Prop where
  rmw : s.rmw = nilS
  addr : s.addr = nilS
  data : s.data = nilS
  ctrl : s.ctrl = nilS
  outs : s.outs = nilS
theorem run_cells {m : M} {P : Nat} {s : Mch} (h : MAt m P s) (hb : Bare s) : loads m ⟨P, 78, none⟩ 9 = some (runV s.ev s.st s.lc s.us) := by
  rw [h.arr.loads (by rw [mcRow_len]; omega)]
  have : (mcRow s).drop 78 = [s.ev, s.rmw, s.addr, s.data, s.ctrl, s.outs, iv s.st, iv s.lc, iv s.us, iv s.limit] := by kernel_rfl
  rw [this, hb.rmw, hb.addr, hb.data, hb.ctrl, hb.outs]; rfl
structure OkM (s : Mch) : Prop where
  l : okC s.l = true
  t : ∀ k, okC (s.t k) = true
  ft : okC s.ft = true
  way : okC s.way = true
  half : okC s.half = true
  ev : okC s.ev = true
theorem mc_ok {s : Mch} (h : OkM s) (hb : Bare s) : ∀ v ∈ mcRow s, okC v = true := by
  intro v hv
  unfold mcRow at hv
  simp only [List.mem_append, List.mem_map, List.mem_range] at hv
  rcases hv with ((hv | ⟨k, _, rfl⟩) | ⟨k, _, rfl⟩) | hv
  · simp only [List.mem_cons, List.not_mem_nil, or_false] at hv
    rcases hv with rfl | rfl
    · exact h.l
    · rfl
  · rfl
  · exact h.t k
  · unfold mcTail at hv
    rw [hb.rmw, hb.addr, hb.data, hb.ctrl, hb.outs] at hv
    simp only [List.mem_cons, List.not_mem_nil, or_false] at hv
    rcases hv with rfl | rfl | rfl | rfl | rfl | rfl | rfl | rfl | rfl | rfl | rfl | rfl | rfl | rfl | rfl | rfl | rfl | rfl | rfl | rfl | rfl | rfl <;> first | rfl | exact h.ft | exact h.way | exact h.half | exact h.ev
def z88 : List Value := [.slice none 0 0, .int .i64 0, .int .u64 0, .int .u64 0, .int .u64 0, .int .u64 0, .int .u64 0, .int .u64 0, .int .u64 0, .int .u64 0, .int .u64 0, .int .u64 0, .int .u64 0, .int .u64 0, .int .u64 0, .int .u64 0, .int .u64 0, .int .u64 0, .int .u64 0, .int .u64 0, .int .u64 0, .int .u64 0, .int .u64 0, .int .u64 0, .int .u64 0, .int .u64 0, .int .u64 0, .int .u64 0, .int .u64 0, .int .u64 0, .int .u64 0, .int .u64 0, .int .u64 0, .int .u64 0, .slice none 0 0, .slice none 0 0, .slice none 0 0, .slice none 0 0, .slice none 0 0, .slice none 0 0, .slice none 0 0, .slice none 0 0, .slice none 0 0, .slice none 0 0, .slice none 0 0, .slice none 0 0, .slice none 0 0, .slice none 0 0, .slice none 0 0, .slice none 0 0, .slice none 0 0, .slice none 0 0, .slice none 0 0, .slice none 0 0, .slice none 0 0, .slice none 0 0, .slice none 0 0, .slice none 0 0, .slice none 0 0, .slice none 0 0, .slice none 0 0, .slice none 0 0, .slice none 0 0, .slice none 0 0, .slice none 0 0, .slice none 0 0, .bool false, .bool false, .bool false, .bool false, .slice none 0 0, .slice none 0 0, .bool false, .int .i64 0, .int .i64 0, .pointer none, .int .i64 0, .int .i64 0, .slice none 0 0, .slice none 0 0, .slice none 0 0, .slice none 0 0, .slice none 0 0, .slice none 0 0, .int .i64 0, .int .i64 0, .int .i64 0, .int .i64 0]
set_option maxHeartbeats 1000000 in
theorem Clone_c (n : Nat) {m : M} (hm : m.base ≤ m.n) {P : Nat} {s : Mch} (h : MAt m P s) (hb : Bare s) (ho : OkM s) {evs : List EvR} (hg : Gro m s.ev 5 evRow evs) (hl : evs.length ≤ 100000) :
    Dx.Call (ex Try.prog (n + 3)) 25 [mP P] m fun v' m' => ∃ ev', v' = mP m.n ∧ MAt m' m.n { s with ev := ev' } ∧ Gro m' ev' 5 evRow evs ∧ ∀ B, blk ev' = some B → m.n < B := by
  refine call_ret db3_ok (by simp) ?_
  have lP : loads m ⟨P, 0, none⟩ 88 = some (mcRow s) := by
    rw [h.arr.loads (by rw [mcRow_len]; omega), List.drop_zero, List.take_of_length_le (by rw [mcRow_len]; omega)]
  have st1 := (St.nil hm (Ext.refl m)).row z88
  obtain ⟨m1, s1, st2, s2, s3⟩ := st1.fill 0 rfl (n := 88) (l' := mcRow s) rfl (mcRow_len s) (mc_ok ho hb)
  have s1' : storeS 88 (.pointer (some ⟨m.n, 0, none⟩)) (.agg ⟨mcRow s⟩) (Dx.newRow m [.slice none 0 0, .int .i64 0, .int .u64 0, .int .u64 0, .int .u64 0, .int .u64 0, .int .u64 0, .int .u64 0, .int .u64 0, .int .u64 0, .int .u64 0, .int .u64 0, .int .u64 0, .int .u64 0, .int .u64 0, .int .u64 0, .int .u64 0, .int .u64 0, .int .u64 0, .int .u64 0, .int .u64 0, .int .u64 0, .int .u64 0, .int .u64 0, .int .u64 0, .int .u64 0, .int .u64 0, .int .u64 0, .int .u64 0, .int .u64 0, .int .u64 0, .int .u64 0, .int .u64 0, .int .u64 0, .slice none 0 0, .slice none 0 0, .slice none 0 0, .slice none 0 0, .slice none 0 0, .slice none 0 0, .slice none 0 0, .slice none 0 0, .slice none 0 0, .slice none 0 0, .slice none 0 0, .slice none 0 0, .slice none 0 0, .slice none 0 0, .slice none 0 0, .slice none 0 0, .slice none 0 0, .slice none 0 0, .slice none 0 0, .slice none 0 0, .slice none 0 0, .slice none 0 0, .slice none 0 0, .slice none 0 0, .slice none 0 0, .slice none 0 0, .slice none 0 0, .slice none 0 0, .slice none 0 0, .slice none 0 0, .slice none 0 0, .slice none 0 0, .bool false, .bool false, .bool false, .bool false, .slice none 0 0, .slice none 0 0, .bool false, .int .i64 0, .int .i64 0, .pointer none, .int .i64 0, .int .i64 0, .slice none 0 0, .slice none 0 0, .slice none 0 0, .slice none 0 0, .slice none 0 0, .slice none 0 0, .int .i64 0, .int .i64 0, .int .i64 0, .int .i64 0]) = some (undef, m1) := s1
  have E1 : Ext m m1 := st2.ext
  have h1 : MAt m1 P s := h.ext E1
  have lr := run_cells h1 hb
  have hg1 : Gro m1 s.ev 5 evRow evs := Grown.ext hg E1
  obtain ⟨v2, m2, a1, a2, ev', rfl, a3, a4⟩ := told_c n st2.sees.base hg1 hl s.st s.lc s.us
  have st3 := st2.step a2
  have hv' : okC ev' = true := Grown.okC a3
  obtain ⟨m3, b1, st4, b2, b3⟩ := st3.fillAt 0 (b := m.n) rfl (n := 9) (o := 78) (l' := runV ev' s.st s.lc s.us) rfl (by rw [mcRow_len]; omega) (runV_ok hv' _ _ _)
  have hov : over (mcRow s) 78 (runV ev' s.st s.lc s.us) = mcRow { s with ev := ev' } := by
    have e1 : over (mcRow s) 78 (runV ev' s.st s.lc s.us) = mcRow { s with ev := ev', rmw := nilS, addr := nilS, data := nilS, ctrl := nilS, outs := nilS } := by kernel_rfl
    rw [e1]
    have := hb
    cases s
    obtain ⟨h1, h2, h3, h4, h5⟩ := this
    simp only at h1 h2 h3 h4 h5
    subst h1 h2 h3 h4 h5
    rfl
  rw [hov] at st4
  have hlt : m.n < m1.n := (st2.get 0 rfl).2.1
  simp [lP, loadNS_ptr, s1', lr, a1, b1]
  refine ret_1 st4.ext ⟨by simp, ev', ⟨(st4.get 0 rfl).2.2, (st4.get 0 rfl).2.1⟩, a3.keep (by omega) fun B _ hB => b3 B (by have := a4 B hB; omega), fun B hB => by have := a4 B hB; omega⟩
end Go.Sx
namespace Go.Sx
open Go.Dx Go.Proofs
set_option maxRecDepth 10000
set_option maxHeartbeats 1000000 in
theorem Run_c (n : Nat) {m : M} (hm : m.base ≤ m.n) {P : Nat} {s : Mch} (h : MAt m P s) (hb : Bare s) (ho : OkM s) {evs : List EvR} (hg : Gro m s.ev 5 evRow evs) (hl : evs.length ≤ 100000) (w : Wnt)
    (hN : ∀ (m2 : M) (Q : Nat) (ev2 : Value), Ext m m2 → m2.base ≤ m2.n → m.n ≤ Q → MAt m2 Q { s with ev := ev2 } → Gro m2 ev2 5 evRow evs → (∀ B, blk ev2 = some B → Q < B) → ∃ s', NextsTo (n + 4) Q m2 s' w) :
    Dx.Call (ex Try.prog (n + 5)) 9 [mP P] m fun v' m' => ∃ ev', v' = .agg ⟨runV ev' (stF w).1 (stF w).2 s.us⟩ ∧ Gro m' ev' 5 evRow evs ∧ ∀ B, blk ev' = some B → m.n ≤ B := by
  refine call_ret da4_ok (by simp) ?_
  have st1 := (St.nil hm (Ext.refl m)).row z9
  obtain ⟨m1, hm1⟩ : ∃ m1, m1 = Dx.newRow m z9 := ⟨_, rfl⟩
  have hm1' : Dx.newRow m [.slice none 0 0, .slice none 0 0, .slice none 0 0, .slice none 0 0, .slice none 0 0, .slice none 0 0, .int .i64 0, .int .i64 0, .int .i64 0] = m1 := hm1.symm
  have hm1n : m1.n = m.n + 1 := by rw [hm1, newRow_n]
  rw [← hm1] at st1
  have h1 := h.ext st1.ext
  have lr := run_cells h1 hb
  obtain ⟨v2, m2, a1, a2, ev2, rfl, a3, a4⟩ := sorted_c n st1.sees.base (Grown.ext hg st1.ext) hl s.st s.lc s.us
  have st2 := st1.step a2
  have hv2 : okC ev2 = true := Grown.okC a3
  obtain ⟨m3, b1, st3, b2, b3⟩ := (st2.row z9).fill 0 rfl (n := 9) (l' := runV ev2 s.st s.lc s.us) rfl rfl (runV_ok hv2 _ _ _)
  have b1' : storeS 9 (.pointer (some ⟨m2.n, 0, none⟩)) (.agg ⟨runV ev2 s.st s.lc s.us⟩) (Dx.newRow m2 [.slice none 0 0, .slice none 0 0, .slice none 0 0, .slice none 0 0, .slice none 0 0, .slice none 0 0, .int .i64 0, .int .i64 0, .int .i64 0]) = some (undef, m3) := b1
  have h3 := h.ext st3.ext
  have hge2 : ∀ B, blk ev2 = some B → m1.n ≤ B ∧ B < m2.n := fun B hB => ⟨a4 B hB, Gro.lt a3 B hB⟩
  have g3 : Gro m3 ev2 5 evRow evs := a3.keep (by rw [b2, newRow_n]; omega) fun B hB hbB => by rw [b3 B (by omega)]; exact (Ext.row m2 _).obj B hB
  obtain ⟨v4, m4, c1, c2, ev4, rfl, c3, c4, c5⟩ := Clone_c (n + 1) st3.sees.base h3 hb ho (Grown.ext hg st3.ext) hl
  have st4 := st3.step c2
  have Q3 : m.n ≤ m3.n := st3.ext.n
  obtain ⟨s', v5, m5, d1, d2, d3, rfl⟩ := hN m4 m3.n ev4 st4.ext st4.sees.base Q3 c3 c4 c5
  have hb4 : m4.base = m.base := st4.ext.base
  have m34 : m3.n < m4.n := c3.lt
  have E45 : ∀ B, B < m4.n → B ≠ m3.n → m5.obj B = m4.obj B := fun B hB hne => d2.obj B hB (by simp; exact hne)
  have l5 : m5.log = m4.log := d2.low (by simp; omega)
  have E5 : Ext m m5 := ⟨by have := d2.n; have := st4.ext.n; omega, fun B hB => by rw [E45 B (by have := st4.ext.n; omega) (by omega)]; exact st4.ext.obj B hB, by rw [d2.base, hb4], by rw [l5, st4.ext.log]⟩
  have st5 : St m m5 [(m2.n, runV ev2 s.st s.lc s.us), (m.n, z9)] := by
    refine ⟨E5, hm, fun p hp => ?_, by have := st3.nd; exact this⟩
    have hp' := st4.arr p hp
    have hlt3 : p.1 < m3.n := by
      have := st3.arr p hp
      exact this.2.1
    exact ⟨hp'.1, Nat.lt_of_lt_of_le hp'.2.1 d2.n, hp'.2.2.congr (E45 _ hp'.2.1 (by omega))⟩
  have hbase5 : m5.base ≤ m5.n := st5.sees.base
  obtain ⟨v6, m6, e1, e2, rfl⟩ := state_c (n + 3) hbase5 w
  have st6 := st5.step e2
  obtain ⟨m7, f1, st7, f2, f3⟩ := st6.store 0 (b := m2.n) rfl (o := 6) (v := iv (stF w).1) (by simp [runV]) rfl
  obtain ⟨m8, g1, st8, g2, g3'⟩ := st7.store 0 (b := m2.n) rfl (o := 7) (v := iv (stF w).2) (by simp [runV]) rfl
  have st8' : St m m8 [(m2.n, runV ev2 (stF w).1 (stF w).2 s.us), (m.n, z9)] := st8
  have lz : loads m8 ⟨m2.n, 0, none⟩ 9 = some (runV ev2 (stF w).1 (stF w).2 s.us) := (st8'.get 0 rfl).2.2.loads (o := 0) (n := 9) (by simp [runV])
  obtain ⟨m9, k1, st9, k2, k3⟩ := st8'.fill 1 (b := m.n) (l := z9) rfl (n := 9) (l' := runV ev2 (stF w).1 (stF w).2 s.us) rfl rfl (runV_ok hv2 _ _ _)
  have k4 := (st9.get 1 rfl).2.2.loads (o := 0) (n := 9) (s := none) (by simp [runV])
  have G4 : Gro m4 ev2 5 evRow evs := Grown.ext g3 c2
  have G5 : Gro m5 ev2 5 evRow evs := G4.keep d2.n fun B hB hbB => E45 B hB (by have := hge2 B hbB; have := st3.get 0 rfl; rw [b2, newRow_n] at *; omega)
  have G6 := Grown.ext G5 e2
  have kp : ∀ {a b : M} (Z : Nat), (Z = m2.n ∨ Z = m.n) → Gro a ev2 5 evRow evs → b.n = a.n → (∀ X, X ≠ Z → b.obj X = a.obj X) → Gro b ev2 5 evRow evs := fun Z hZ g hn hoo => g.keep (by omega) fun B _ hB => hoo B (by have := hge2 B hB; omega)
  have G9 := kp m.n (.inr rfl) (kp m2.n (.inl rfl) (kp m2.n (.inl rfl) G6 f2 f3) g2 g3') k2 k3
  simp [hm1', lr, loadNS_ptr, a1, b1', c1, d1, e1, f1, g1, lz, k1]
  exact ret_cell (a := ⟨m.n, 0, none⟩) (by simp) k4 st9.ext ⟨ev2, rfl, G9, fun B hB => by have := hge2 B hB; omega⟩
end Go.Sx
namespace Go.Sx
open Go.Dx Go.Proofs
set_option maxRecDepth 10000
def u32Row (x : Nat) : List Value := [wv x]
abbrev fn29 : Value := .func (.func 29) #[] #[]
set_option maxHeartbeats 1000000 in
theorem each_c (n : Nat) {m : M} (hm : m.base ≤ m.n) {wl : Value} {ws : List Nat} (h : Rd m wl 1 u32Row ws) (hl : ws.length ≤ 16384) (hok : ∀ w ∈ ws, (decR w).2 = 0) :
    Dx.Call (ex Try.prog (n + 4)) 28 [wl, fn29] m fun v m' => ∃ lv, v = .tuple #[lv, iv 0, iv 0] ∧ Grown m m' lv 6 insL (ws.map fun w => (decR w).1) := by
  refine call_ret db4_ok (by simp) ?_
  have hlen := h.len
  have hd0 : ((16384 : Int) < ws.length) = False := eq_false (by omega)
  simp [hlen, hd0]
  refine loop_run (c := cb4_15) rfl (Ret m _) (fun i t m' => Tm.get 1 t = fn29 ∧ Tm.get 14 t = wl ∧ Tm.get 15 t = iv ws.length ∧ Tm.get 16 t = iv i ∧ Ext m m' ∧ Grown m m' (Tm.get 4 t) 6 insL ((ws.take i).map fun w => (decR w).1)) ws.length (by omega)
    ⟨by simp, by simp, by simp, by simp, Ext.refl m, by simp; exact .inl ⟨rfl, rfl⟩⟩ (fun i t m' k hi hI hk => ?_)
  obtain ⟨t1, t14, t15, t16, hE, hg⟩ := hI
  have hS : Sees m m' := (Sees.refl hm).ext hE
  by_cases hil : i < ws.length
  · obtain ⟨w, hw⟩ : ∃ w, ws[i]? = some w := ⟨_, List.getElem?_eq_getElem hil⟩
    have hd := dlt hil
    have w1 := nextI (i := i) (by omega)
    have ⟨a1, a2⟩ := Rd.at1 (g := fun (x : Nat) => wv x) (h.sees hS) hw
    have a2' := a2 m' hS.self
    have hok' := hok w (List.mem_of_getElem? hw)
    obtain ⟨v2, m2, b1, b2, rfl⟩ := Decode_c n w m' hS.base
    rw [hok'] at b1
    have S2 := hS.ext b2
    obtain ⟨m3, c1, c2, c3, c4, c5⟩ := local_fill' (m := m2) S2.base (zs := z6i) (l := insL (decR w).1) (v := .agg ⟨insL (decR w).1⟩) (n := 6) rfl rfl rfl (ins_ok _)
    have c1' : storeS 6 (.pointer (some ⟨m2.n, 0, none⟩)) (.agg ⟨insL (decR w).1⟩) (Dx.newRow m2 [.int .i64 0, .int .i64 0, .int .i64 0, .int .i64 0, .int .i64 0, .int .i64 0]) = some (undef, m3) := c1
    have E3 : Ext m m3 := (hE.trans b2).trans c4
    have bs : bsliceS 6 1 (rep 1 [.int .i64 0, .int .i64 0, .int .i64 0, .int .i64 0, .int .i64 0, .int .i64 0]) [(0, 6, .agg ⟨insL (decR w).1⟩)] m3 = some (.slice (some ⟨m3.n, 0, some 13⟩) 1 1, Dx.newRow m3 (insL (decR w).1)) := rfl
    have l6 := c3 none
    have hX : loads (Dx.newRow m3 (insL (decR w).1)) ⟨m3.n, 0, some 13⟩ 6 = some (insL (decR w).1) := by
      have := (Arr.row m3 (insL (decR w).1)).loads (o := 0) (n := 6) (s := some 13) (by simp [insL])
      rw [this]; simp [insL]
    have hg3 : Grown m (Dx.newRow m3 (insL (decR w).1)) (Tm.get 4 t) 6 insL ((ws.take i).map fun w => (decR w).1) := Grown.ext hg ((b2.trans c4).trans (Ext.row _ _))
    have hti : (ws.take i).length ≤ 16384 := by rw [List.length_take]; omega
    obtain ⟨v', m4, d1, d2, d3, d4, d5⟩ := hg3.append (E3.trans (Ext.row _ _)) hm (by omega) (fun _ => rfl) ins_ok (x := (decR w).1) hX (bytes := 48) (by rw [List.length_map]; unfold most; omega) (by rw [List.length_map]; omega)
    simp [t1, t14, t15, t16, hd, a1, a2', b1, c1', loadNS_ptr, l6, bs, d1, w1]
    refine hk hil _ _ ⟨by simp [t1], by simp [t14], by simp [t15], by simp, d2, ?_⟩
    have e : (ws.take (i + 1)).map (fun w => (decR w).1) = (ws.take i).map (fun w => (decR w).1) ++ [(decR w).1] := by
      rw [List.take_add_one, hw]; simp
    rw [e]
    simpa using d3
  obtain rfl : i = ws.length := by omega
  rw [List.take_length] at hg
  simp [t15, t16]
  refine ret_3 hE ⟨Tm.get 4 t, by simp, hg⟩
theorem List_c (n : Nat) {m : M} (hm : m.base ≤ m.n) {wl : Value} {ws : List Nat} (h : Rd m wl 1 u32Row ws) (hl : ws.length ≤ 16384) (hok : ∀ w ∈ ws, (decR w).2 = 0) :
    Dx.Call (ex Try.prog (n + 5)) 14 [wl] m fun v m' => ∃ lv, v = .tuple #[lv, iv 0, iv 0] ∧ Grown m m' lv 6 insL (ws.map fun w => (decR w).1) := by
  refine call_ret da5_ok (by simp) ?_
  obtain ⟨v, m1, a1, a2, lv, rfl, a3⟩ := each_c n hm h hl hok
  simp [a1]
  exact ret_3 a2 ⟨lv, by simp, a3⟩
def mcNew (lv : Value) : Mch := ⟨lv, 0, fun _ => 0, fun _ => nilS, false, false, false, false, nilS, nilS, false, 0, 0, .pointer none, 0, 0, nilS, nilS, nilS, nilS, nilS, nilS, 0, 0, 0, -1⟩
theorem New_c (n : Nat) {m : M} (hm : m.base ≤ m.n) {wl : Value} {ws : List Nat} (h : Rd m wl 1 u32Row ws) (hl : ws.length ≤ 16384) (hok : ∀ w ∈ ws, (decR w).2 = 0) :
    Dx.Call (ex Try.prog (n + 6)) 6 [wl] m fun v m' => ∃ P lv, v = .tuple #[mP P, iv 0] ∧ m.n ≤ P ∧ MAt m' P (mcNew lv) ∧ Grown m m' lv 6 insL (ws.map fun w => (decR w).1) ∧ ∀ B, blk lv = some B → B < P := by
  refine call_ret da1_ok (by simp) ?_
  obtain ⟨v, m1, a1, a2, lv, rfl, a3⟩ := List_c n hm h hl hok
  have bu : buildV [.slice none 0 0, .int .i64 0, .int .u64 0, .int .u64 0, .int .u64 0, .int .u64 0, .int .u64 0, .int .u64 0, .int .u64 0, .int .u64 0, .int .u64 0, .int .u64 0, .int .u64 0, .int .u64 0, .int .u64 0, .int .u64 0, .int .u64 0, .int .u64 0, .int .u64 0, .int .u64 0, .int .u64 0, .int .u64 0, .int .u64 0, .int .u64 0, .int .u64 0, .int .u64 0, .int .u64 0, .int .u64 0, .int .u64 0, .int .u64 0, .int .u64 0, .int .u64 0, .int .u64 0, .int .u64 0, .slice none 0 0, .slice none 0 0, .slice none 0 0, .slice none 0 0, .slice none 0 0, .slice none 0 0, .slice none 0 0, .slice none 0 0, .slice none 0 0, .slice none 0 0, .slice none 0 0, .slice none 0 0, .slice none 0 0, .slice none 0 0, .slice none 0 0, .slice none 0 0, .slice none 0 0, .slice none 0 0, .slice none 0 0, .slice none 0 0, .slice none 0 0, .slice none 0 0, .slice none 0 0, .slice none 0 0, .slice none 0 0, .slice none 0 0, .slice none 0 0, .slice none 0 0, .slice none 0 0, .slice none 0 0, .slice none 0 0, .slice none 0 0, .bool false, .bool false, .bool false, .bool false, .slice none 0 0, .slice none 0 0, .bool false, .int .i64 0, .int .i64 0, .pointer none, .int .i64 0, .int .i64 0, .slice none 0 0, .slice none 0 0, .slice none 0 0, .slice none 0 0, .slice none 0 0, .slice none 0 0, .int .i64 0, .int .i64 0, .int .i64 0, .int .i64 0] [(0, 1, lv), (87, 1, .int .i64 (-1))] = some (.agg ⟨mcRow (mcNew lv)⟩) := by
    obtain ⟨a, k, hlv⟩ : ∃ a k, lv = .slice a k k := by
      rcases a3 with ⟨_, h⟩ | ⟨B', _, _, _, h, _⟩
      · exact ⟨_, _, h⟩
      · exact ⟨_, _, h⟩
    rw [hlv]
    kernel_rfl
  obtain ⟨m2, b1, b2, b3, b4, b5⟩ := box_row (m := m1) (l := mcRow (mcNew lv)) (by intro hc; have := congrArg List.length hc; rw [mcRow_len] at this; simp at this)
  simp [a1, bu, b1]
  refine ret_2 (a2.trans b2) ⟨m1.n, by simp, a2.n, lv, ⟨b5, by omega⟩, Grown.ext a3 b2, fun B hB => ?_⟩
  rcases a3 with ⟨_, h⟩ | ⟨B', _, h2, _, h, _⟩
  · rw [h] at hB; cases hB
  · rw [h] at hB; cases hB; exact h2
end Go.Sx
namespace Go.Dx
theorem Ext.mcx {mb m m' : M} {W : List Nat} (h : Ext mb m) (k : Mc m m' W) (hW : ∀ B ∈ W, mb.n ≤ B) (hb : mb.base ≤ mb.n) : Ext mb m' := by
  have hl : m'.log = m.log := k.low fun B hB => by rw [h.base]; have := hW B hB; omega
  exact ⟨Nat.le_trans h.n k.n, fun B hB => by rw [k.obj B (Nat.lt_of_lt_of_le hB h.n) (fun hc => by have := hW B hc; omega)]; exact h.obj B hB, k.base.trans h.base, hl.trans h.log⟩
end Go.Dx
namespace Go.Sx
open Go.Dx Go.Proofs
set_option maxRecDepth 10000
structure MM (mb m : M) (P : Nat) (s : Mch) (cs : List Ins) (evs : List EvR) : Prop where
  ext : Ext mb m
  bb : mb.base ≤ mb.n
  mat : MAt m P s
  lowP : mb.n ≤ P
  code : Rd m s.l 6 insL cs
  apart : blk s.l ≠ some P
  apev : ∀ B, blk s.l = some B → blk s.ev ≠ some B
  gro : Gro m s.ev 5 evRow evs
  evP : blk s.ev ≠ some P
  lowE : ∀ B, blk s.ev = some B → mb.n ≤ B
  half : s.half = .pointer none
  lim : s.limit = -1
  way : s.way = nilS
  bare : Bare s
  ok : OkM s
  len : cs.length ≤ 20000
  own : 0 ≤ s.own ∧ s.own ≤ 100001 ∧ 0 ≤ s.dn ∧ s.dn ≤ 1000000
  evl : evs.length ≤ 100000
theorem MM.mb {mb m : M} {P : Nat} {s : Mch} {cs : List Ins} {evs : List EvR} (h : MM mb m P s cs evs) : m.base ≤ m.n := by
  have := h.ext.n; have := h.ext.base; have := h.bb; omega
theorem MM.keep {mb m m' : M} {P : Nat} {s : Mch} {cs : List Ins} {evs : List EvR} (h : MM mb m P s cs evs) (e : Ext m m') : MM mb m' P s cs evs :=
  ⟨h.ext.trans e, h.bb, h.mat.ext e, h.lowP, h.code.sees ((Sees.refl h.mb).ext e), h.apart, h.apev, Grown.ext h.gro e, h.evP, h.lowE, h.half, h.lim, h.way, h.bare, h.ok, h.len, h.own, h.evl⟩
theorem MM.nx {mb m : M} {P : Nat} {s : Mch} {cs : List Ins} {evs : List EvR} (h : MM mb m P s cs evs) : NxH m P s cs evs.length :=
  ⟨h.half, by rw [h.lim]; omega, h.code, h.apart, h.len, h.gro.len, h.evl, by have := h.own; omega⟩
theorem MM.next {mb m : M} {P : Nat} {cs : List Ins} {evs : List EvR} (f : Nat → Mch) (K : Nat) (hK : K ≤ 100000) (n : Nat) (w : Wnt) (h : MM mb m P (f 0) cs evs)
    (hf : ∀ j, j ≤ K → ∃ v t at_ own dn, f j = { f 0 with v := v, t := t, at_ := at_, own := own, dn := dn } ∧ 0 ≤ own ∧ own ≤ 100001 ∧ 0 ≤ dn ∧ dn ≤ 1000000 ∧ ∀ k, okC (t k) = true)
    (hS : ∀ j, j < K → StepH n P cs evs.length (f j) (f (j + 1))) (hE : EndH cs evs.length (f K) w) :
    ∃ m', (ex Try.prog (n + 4)).f 7 [mP P] m = some (.agg ⟨wntL w⟩, m') ∧ MM mb m' P (f K) cs evs ∧ NextsTo (n + 4) P m (f K) w := by
  have hnx : ∀ j, j ≤ K → NxH m P (f j) cs evs.length := fun j hj => by
    obtain ⟨v, t, a, o, d, e, o1, o2, o3, o4, _⟩ := hf j hj
    have h0 := h.nx
    rw [e]
    exact ⟨h0.half, h0.lim, h0.code, h0.apart, h0.len, h0.ev, h0.evn, by simp only; omega⟩
  have hNx := Next_c n h.mb f K (by omega) cs evs.length w h.mat hnx hS hE
  obtain ⟨v1, m', a1, a2, a3, rfl⟩ := id hNx
  refine ⟨m', a1, ?_, hNx⟩
  obtain ⟨v, t, a, o, d, e, o1, o2, o3, o4, o5⟩ := hf K (Nat.le_refl _)
  have hE' := h.ext.mcx a2 (by simp; exact h.lowP) h.bb
  have hM := a3
  rw [e] at hM ⊢
  have obj : ∀ B, B < m.n → B ≠ P → m'.obj B = m.obj B := fun B hB hne => a2.obj B hB (by simp; exact hne)
  exact ⟨hE', h.bb, hM, h.lowP, h.code.congr a2.n fun B hB => obj B (h.code.lt B hB) (fun e => h.apart (by rw [hB, e])), h.apart, h.apev, h.gro.keep a2.n fun B hB hbB => obj B hB (fun e => h.evP (by rw [hbB, e])), h.evP, h.lowE, h.half, h.lim, h.way,
    ⟨h.bare.rmw, h.bare.addr, h.bare.data, h.bare.ctrl, h.bare.outs⟩, ⟨h.ok.l, o5, h.ok.ft, h.ok.way, h.ok.half, h.ok.ev⟩, h.len, ⟨o1, o2, o3, o4⟩, h.evl⟩
theorem MM.fence {mb m : M} {P : Nat} {s : Mch} {cs : List Ins} {evs : List EvR} (h : MM mb m P s cs evs) (n : Nat) {mode : Int} {s' : Mch} (hN : NextsTo (n + 1) P m s' ⟨3, 0, mode, 0, false, false⟩) {mq : M} (q : MM mb mq P s' cs evs) {a : Nat} (ha : s'.at_ = (a : Int)) (hac : a < cs.length) (hev : s'.ev = s.ev) (hsl : s'.l = s.l) (hd : s'.dn ≤ 900000) (hel : evs.length ≤ 90000) (x : Nat) :
    ∃ m', (ex Try.prog (n + 2)).f 8 [mP P, uv x] m = some (iv 0, m') ∧ ∃ ev', MM mb m' P { s' with opn := false, ev := ev', at_ := (a : Int) + 1, own := 0, dn := s'.dn + 1 } cs (evs ++ [⟨0, 3, -1, 0, mode⟩]) := by
  have hbase := h.ext.base
  have hbb := h.bb
  obtain ⟨m', b1, b2, ev', b3, b4, b5⟩ := Feed_f n h.mb hN (evs := evs) (by rw [hev]; exact h.gro) q.evP h.evl q.way (by
    intro B hB
    rcases List.mem_cons.1 hB with rfl | hB
    · have := h.lowP; omega
    · rw [hev] at hB
      have := h.lowE B (mem_blkL.1 hB); omega) (by rw [hsl]; exact h.code) (by rw [hsl]; exact h.apart) (by rw [hsl, hev]; exact h.apev) ha hac h.len ⟨q.own.2.2.1, by omega⟩ x
  have hnb := h.ext.n
  have hW : ∀ B ∈ P :: blkL s'.ev, mb.n ≤ B := fun B hB => by
    rcases List.mem_cons.1 hB with rfl | hB
    · exact h.lowP
    · rw [hev] at hB; exact h.lowE B (mem_blkL.1 hB)
  have obj : ∀ B, B < m.n → B ≠ P → blk s.ev ≠ some B → m'.obj B = m.obj B := fun B hB hne hne2 => b2.obj B hB (by
    intro hc
    rcases List.mem_cons.1 hc with e | e
    · exact hne e
    · rw [hev] at e; exact hne2 (mem_blkL.1 e))
  refine ⟨m', b1, ev', h.ext.mcx b2 hW h.bb, h.bb, b3, h.lowP, ?_, q.apart, ?_, b4, ?_, fun B hB => by have := b5 B hB; omega, q.half, q.lim, q.way, ⟨q.bare.rmw, q.bare.addr, q.bare.data, q.bare.ctrl, q.bare.outs⟩, ⟨q.ok.l, q.ok.t, q.ok.ft, q.ok.way, q.ok.half, Grown.okC b4⟩, h.len, ?_, by rw [List.length_append]; simp; omega⟩
  · show Rd m' s'.l 6 insL cs
    rw [hsl]
    exact h.code.congr b2.n fun B hB => obj B (h.code.lt B hB) (fun e => h.apart (by rw [hB, e])) (h.apev B hB)
  · intro B hB hc
    have h1 := b5 B hc
    rw [show ({ s' with opn := false, ev := ev', at_ := (a : Int) + 1, own := 0, dn := s'.dn + 1 } : Mch).l = s.l from hsl] at hB
    have := h.code.lt B hB
    omega
  · intro hc
    have h1 := b5 P hc
    have := h.mat.lt
    omega
  · have := q.own
    exact ⟨by simp, by simp, by simp only; omega, by simp only; omega⟩
end Go.Sx
namespace Go.Sx
open Go.Dx Go.Proofs
set_option maxRecDepth 10000
def iB : Ins := ⟨18, 0, 0, 0, 0, 0⟩
def iM : Ins := ⟨18, 0, 0, 0, -1, 0⟩
def iD : Ins := ⟨31, 0, 0, 0, 0, 0⟩
def iV : Ins := ⟨1, 1, 0, 0, 1, 1⟩
def iW : Ins := ⟨40, 2, 1, 31, 0, 0⟩
theorem dec_B : decR 335544320 = (iB, 0) := by kernel_rfl
theorem dec_M : decR 402653183 = (iM, 0) := by kernel_rfl
theorem dec_D : decR 3573759935 = (iD, 0) := by kernel_rfl
theorem dec_V : decR 3533701153 = (iV, 0) := by kernel_rfl
theorem dec_W : decR 4164911138 = (iW, 0) := by kernel_rfl
theorem iok (i : Ins) (h : i = iB ∨ i = iM ∨ i = iD ∨ i = iV ∨ i = iW) : InsOK i ∧ (i.op = 33 → ∃ k : Nat, i.imm = (k : Int) ∧ k < 32) := by
  rcases h with rfl | rfl | rfl | rfl | rfl
  · exact ⟨⟨by decide, ⟨0, rfl, by omega⟩, ⟨0, rfl, by omega⟩, ⟨0, rfl, by omega⟩⟩, fun h => by simp [iB] at h⟩
  · exact ⟨⟨by decide, ⟨0, rfl, by omega⟩, ⟨0, rfl, by omega⟩, ⟨0, rfl, by omega⟩⟩, fun h => by simp [iM] at h⟩
  · exact ⟨⟨by decide, ⟨0, rfl, by omega⟩, ⟨0, rfl, by omega⟩, ⟨0, rfl, by omega⟩⟩, fun h => by simp [iD] at h⟩
  · exact ⟨⟨by decide, ⟨1, rfl, by omega⟩, ⟨0, rfl, by omega⟩, ⟨0, rfl, by omega⟩⟩, fun h => by simp [iV] at h⟩
  · exact ⟨⟨by decide, ⟨2, rfl, by omega⟩, ⟨1, rfl, by omega⟩, ⟨31, rfl, by omega⟩⟩, fun h => by simp [iW] at h⟩
theorem want_own (s : Mch) (evn : Nat) {i : Ins} (h : i.op = 18 ∨ i.op = 1) : wantF s evn i = (wnt0, true) := by
  unfold wantF
  rw [if_neg (by omega), if_neg (by omega), if_neg (by omega), if_neg (by omega), if_pos (by omega)]
theorem want_D (s : Mch) (evn : Nat) : wantF s evn iD = (roomF evn ⟨3, 0, 15, 0, false, false⟩, false) := by unfold wantF; simp [iD]
theorem step_b (n P : Nat) (cs : List Ins) (evn : Nat) {s s' : Mch} {a b : Nat} {i : Ins} (ha : s.at_ = (a : Int)) (hi : cs[a]? = some i) (hib : i = iB ∨ i = iM) (hb : (a : Int) + i.imm = (b : Int)) (hb2 : b ≤ 20000) (ho : s.own < 100000) (hs : s' = { bump s with at_ := (b : Int) }) : StepH n P cs evn s s' := by
  have hop : i.op = 18 := by rcases hib with rfl | rfl <;> rfl
  obtain ⟨k1, k2⟩ := iok i (by rcases hib with rfl | rfl <;> simp)
  refine ⟨⟨a, i, ha, hi, k1, k2, by rw [want_own s evn (.inl hop)], fun m hm h => ?_⟩, ho⟩
  obtain ⟨v, m', a1, a2, a3, rfl⟩ := do_b (n + 1) hm h hop
  refine ⟨_, m', a1, a2, bump s, (b : Int), a3, ?_, hs⟩
  have : (bump s).at_ = s.at_ := rfl
  rw [this, ha, hb, wrap64 _ (by omega) (by omega)]
theorem spin {mb m : M} {P : Nat} {s : Mch} (n : Nat) (h : MM mb m P s [iB] []) (ha : s.at_ = 0) (ho : s.own = 0) (hd : s.dn = 0) :
    ∃ m' s', (ex Try.prog (n + 4)).f 7 [mP P] m = some (.agg ⟨wntL (wntF 6)⟩, m') ∧ MM mb m' P s' [iB] [] ∧ s'.at_ = 0 ∧ 100000 ≤ s'.own := by
  obtain ⟨f, hf⟩ : ∃ f : Nat → Mch, f = fun j : Nat => { s with own := (j : Int), dn := (j : Int) } := ⟨_, rfl⟩
  have h0 : f 0 = s := by
    rw [hf]
    show ({ s with own := 0, dn := 0 } : Mch) = s
    cases s; simp only at ho hd; subst ho hd; rfl
  have hat : ∀ j, (f j).at_ = 0 := fun j => by rw [hf]; exact ha
  obtain ⟨m', a1, a2, -⟩ := MM.next f 100000 (by omega) n (wntF 6) (by rw [h0]; exact h) (fun j hj => ⟨s.v, s.t, s.at_, j, j, by rw [h0, hf], by omega, by omega, by omega, by omega, h.ok.t⟩)
    (fun j hj => step_b n P [iB] _ (a := 0) (b := 0) (i := iB) (hat j) rfl (.inl rfl) rfl (by omega) (by rw [hf]; simp only; omega) (by rw [hf]; simp only [bump]; rw [ha]; simp))
    ⟨0, iB, hat _, rfl, (iok iB (by simp)).1, (iok iB (by simp)).2, .inr ⟨by rw [want_own _ _ (.inl rfl)], by rw [hf]; simp, rfl⟩⟩
  exact ⟨m', f 100000, a1, a2, hat _, by rw [hf]; simp⟩
theorem spun {mb m : M} {P : Nat} {s : Mch} (n : Nat) (h : MM mb m P s [iB] []) (ha : s.at_ = 0) (ho : 100000 ≤ s.own) :
    (∃ m', (ex Try.prog (n + 4)).f 7 [mP P] m = some (.agg ⟨wntL (wntF 6)⟩, m') ∧ MM mb m' P s [iB] []) ∧ NextsTo (n + 4) P m s (wntF 6) := by
  obtain ⟨m', a1, a2, a3⟩ := MM.next (fun _ => s) 0 (by omega) n (wntF 6) h (fun j hj => ⟨s.v, s.t, s.at_, s.own, s.dn, rfl, h.own.1, h.own.2.1, h.own.2.2.1, h.own.2.2.2, h.ok.t⟩) (fun j hj => by omega)
    ⟨0, iB, ha, rfl, (iok iB (by simp)).1, (iok iB (by simp)).2, .inr ⟨by rw [want_own _ _ (.inl rfl)], ho, rfl⟩⟩
  exact ⟨⟨m', a1, a2⟩, a3⟩
theorem at_D {mb m : M} {P : Nat} {s : Mch} {cs : List Ins} {evs : List EvR} (n : Nat) (h : MM mb m P s cs evs) {a : Nat} (ha : s.at_ = (a : Int)) (hi : cs[a]? = some iD) :
    (∃ m', (ex Try.prog (n + 4)).f 7 [mP P] m = some (.agg ⟨wntL (roomF evs.length ⟨3, 0, 15, 0, false, false⟩)⟩, m') ∧ MM mb m' P s cs evs) ∧ NextsTo (n + 4) P m s (roomF evs.length ⟨3, 0, 15, 0, false, false⟩) := by
  obtain ⟨m', a1, a2, a3⟩ := MM.next (fun _ => s) 0 (by omega) n (roomF evs.length ⟨3, 0, 15, 0, false, false⟩) h (fun j hj => ⟨s.v, s.t, s.at_, s.own, s.dn, rfl, h.own.1, h.own.2.1, h.own.2.2.1, h.own.2.2.2, h.ok.t⟩) (fun j hj => by omega)
    ⟨a, iD, ha, hi, (iok iD (by simp)).1, (iok iD (by simp)).2, .inl ⟨by rw [want_D], by rw [want_D]⟩⟩
  exact ⟨⟨m', a1, a2⟩, a3⟩
theorem back_D {mb m : M} {P : Nat} {s : Mch} {evs : List EvR} (n : Nat) (h : MM mb m P s [iD, iM] evs) (ha : s.at_ = 1) (ho : s.own = 0) (hd : s.dn ≤ 900000) :
    ∃ m' s', (ex Try.prog (n + 4)).f 7 [mP P] m = some (.agg ⟨wntL (roomF evs.length ⟨3, 0, 15, 0, false, false⟩)⟩, m') ∧ MM mb m' P s' [iD, iM] evs ∧ s'.at_ = 0 ∧ s'.dn = s.dn + 1 ∧ s'.us = s.us ∧ NextsTo (n + 4) P m s' (roomF evs.length ⟨3, 0, 15, 0, false, false⟩) := by
  obtain ⟨s1, hs1⟩ : ∃ s1 : Mch, s1 = { bump s with at_ := 0 } := ⟨_, rfl⟩
  obtain ⟨f, hf⟩ : ∃ f : Nat → Mch, f = fun j => if j = 0 then s else s1 := ⟨_, rfl⟩
  have h0 : f 0 = s := by rw [hf]; rfl
  have h1 : f 1 = s1 := by rw [hf]; rfl
  have o4 := h.own
  obtain ⟨m', a1, a2, a3⟩ := MM.next f 1 (by omega) n (roomF evs.length ⟨3, 0, 15, 0, false, false⟩) (by rw [h0]; exact h) (fun j hj => by
      rcases (by omega : j = 0 ∨ j = 1) with rfl | rfl
      · exact ⟨s.v, s.t, s.at_, s.own, s.dn, by rw [h0], h.own.1, h.own.2.1, h.own.2.2.1, h.own.2.2.2, h.ok.t⟩
      · exact ⟨s.v, s.t, 0, s.own + 1, s.dn + 1, by rw [h0, h1, hs1]; rfl, by omega, by omega, by omega, by omega, h.ok.t⟩)
    (fun j hj => by
      obtain rfl : j = 0 := by omega
      rw [h0, h1]
      exact step_b n P [iD, iM] _ (a := 1) (b := 0) (i := iM) ha rfl (.inr rfl) rfl (by omega) (by omega) (by rw [hs1]; rfl))
    ⟨0, iD, by rw [h1, hs1]; rfl, rfl, (iok iD (by simp)).1, (iok iD (by simp)).2, .inl ⟨by rw [want_D], by rw [want_D]⟩⟩
  rw [h1] at a2 a3
  exact ⟨m', s1, a1, a2, by rw [hs1], by rw [hs1]; rfl, by rw [hs1]; rfl, a3⟩
end Go.Sx
namespace Go.Sx
open Go.Dx Go.Proofs
set_option maxRecDepth 10000
def wSwap (loc : Int) : Wnt := wholeW iW (wntC loc)
theorem want_W (s : Mch) (evn : Nat) (h : s.v 1 = 65536) : wantF s evn iW = (roomF evn (wSwap 0), false) := by
  have hA : cellA s iW = 0 := by
    unfold cellA
    rw [show iW.rn.toNat = 1 from rfl, h, show iW.imm = 0 from rfl]
    rw [IntKind.wrap_u64, IntKind.wrap_u64, IntKind.wrap_u64]; rfl
  have hB : cellB s iW = true := by unfold cellB; rw [hA, IntKind.wrap_u64]; rfl
  have hL : cellL s iW = 0 := by unfold cellL; rw [hA, IntKind.wrap_u64, IntKind.wrap_i64]; rfl
  unfold wantF
  rw [hB, hL]
  simp [iW, wSwap]
theorem mov_V : movV iV = 65536 := by
  unfold movV
  rw [show iV.imm = 1 from rfl, show iV.cond = 1 from rfl, IntKind.wrap_u64, IntKind.wrap_u64, IntKind.wrap_i64]; rfl
theorem swap {mb m : M} {P : Nat} {s : Mch} {cs : List Ins} {evs : List EvR} (n : Nat) (h : MM mb m P s cs evs) {a : Nat} (ha : s.at_ = (a : Int)) (hi : cs[a]? = some iV) (hi2 : cs[a + 1]? = some iW) (ho : s.own = 0) (hd : s.dn ≤ 900000) :
    ∃ m' s', (ex Try.prog (n + 4)).f 7 [mP P] m = some (.agg ⟨wntL (roomF evs.length (wSwap 0))⟩, m') ∧ MM mb m' P s' cs evs := by
  have o4 := h.own
  have hal := (List.getElem?_eq_some_iff.1 hi).1
  have hcl := h.len
  obtain ⟨s1, hs1⟩ : ∃ s1 : Mch, s1 = { setR (bump s) 1 65536 nilS with at_ := (a : Int) + 1 } := ⟨_, rfl⟩
  have hs1' : s1 = { s with v := upN s.v 1 65536, t := upN s.t 1 nilS, at_ := (a : Int) + 1, own := s.own + 1, dn := s.dn + 1 } := by rw [hs1]; unfold setR bump; rw [if_neg (by omega)]
  have hv1 : s1.v 1 = 65536 := by rw [hs1']; show upN s.v 1 65536 1 = 65536; exact upN_same _ _ _
  obtain ⟨f, hf⟩ : ∃ f : Nat → Mch, f = fun j => if j = 0 then s else s1 := ⟨_, rfl⟩
  have h0 : f 0 = s := by rw [hf]; rfl
  have h1 : f 1 = s1 := by rw [hf]; rfl
  obtain ⟨m', a1, a2, -⟩ := MM.next f 1 (by omega) n (roomF evs.length (wSwap 0)) (by rw [h0]; exact h) (fun j hj => by
      rcases (by omega : j = 0 ∨ j = 1) with rfl | rfl
      · exact ⟨s.v, s.t, s.at_, s.own, s.dn, by rw [h0], h.own.1, h.own.2.1, h.own.2.2.1, h.own.2.2.2, h.ok.t⟩
      · exact ⟨upN s.v 1 65536, upN s.t 1 nilS, (a : Int) + 1, s.own + 1, s.dn + 1, by rw [h0, h1, hs1'], by omega, by omega, by omega, by omega, fun k => by
          unfold upN
          split
          · rfl
          · exact h.ok.t k⟩)
    (fun j hj => by
      obtain rfl : j = 0 := by omega
      rw [h0, h1]
      refine ⟨⟨a, iV, ha, hi, (iok iV (by simp)).1, (iok iV (by simp)).2, by rw [want_own s _ (.inr rfl)], fun m hm hM => ?_⟩, by omega⟩
      obtain ⟨v, m', b1, b2, b3, rfl⟩ := do_m (n + 1) hm hM (i := iV) rfl (k := 1) rfl (by omega) (by decide)
      rw [mov_V] at b3
      refine ⟨_, m', b1, b2, setR (bump s) 1 65536 nilS, (a : Int) + 1, b3, ?_, hs1⟩
      have : (bump s).at_ = s.at_ := rfl
      rw [this, ha, wrap64 _ (by omega) (by omega)])
    ⟨a + 1, iW, by rw [h1, hs1']; simp, hi2, (iok iW (by simp)).1, (iok iW (by simp)).2, .inl ⟨by rw [h1, want_W _ _ hv1], by rw [h1, want_W _ _ hv1]⟩⟩
  rw [h1] at a2
  exact ⟨m', s1, a1, a2⟩
theorem feed_D {mb m : M} {P : Nat} {s : Mch} {cs : List Ins} {evs : List EvR} (n : Nat) (h : MM mb m P s cs evs) {a : Nat} (ha : s.at_ = (a : Int)) (hi : cs[a]? = some iD) (he : evs.length < 256) (hd : s.dn ≤ 900000) (x : Nat) :
    ∃ m' s', (ex Try.prog (n + 5)).f 8 [mP P, uv x] m = some (iv 0, m') ∧ MM mb m' P s' cs (evs ++ [⟨0, 3, -1, 0, 15⟩]) ∧ s'.at_ = (a : Int) + 1 ∧ s'.own = 0 ∧ s'.dn = s.dn + 1 ∧ s'.us = s.us := by
  obtain ⟨⟨m1, a1, a2⟩, a3⟩ := at_D n h ha hi
  have hr : roomF evs.length ⟨3, 0, 15, 0, false, false⟩ = ⟨3, 0, 15, 0, false, false⟩ := by unfold roomF; rw [if_neg (by simp; omega)]
  rw [hr] at a3
  obtain ⟨m', b1, ev', b2⟩ := h.fence (n + 3) a3 a2 ha (List.getElem?_eq_some_iff.1 hi).1 rfl rfl hd (by omega) x
  exact ⟨m', _, b1, b2, rfl, rfl, rfl, rfl⟩
theorem feed_no {mb m : M} {P : Nat} {s : Mch} {cs : List Ins} {evs : List EvR} (n : Nat) (h : MM mb m P s cs evs) (hN : NextsTo n P m s (wntF 6)) (x : Nat) :
    ∃ m', (ex Try.prog (n + 1)).f 8 [mP P, uv x] m = some (iv 1, m') ∧ MM mb m' P s cs evs := by
  obtain ⟨v, m', a1, a2, a3, rfl⟩ := Feed_e n h.mb hN h.mat.lt (by decide) x
  have obj : ∀ B, B < m.n → B ≠ P → m'.obj B = m.obj B := fun B hB hne => a2.obj B hB (by simp; exact hne)
  exact ⟨m', a1, h.ext.mcx a2 (by simp; exact h.lowP) h.bb, h.bb, a3, h.lowP, h.code.congr a2.n fun B hB => obj B (h.code.lt B hB) (fun e => h.apart (by rw [hB, e])), h.apart, h.apev, h.gro.keep a2.n fun B hB hbB => obj B hB (fun e => h.evP (by rw [hbB, e])), h.evP, h.lowE, h.half, h.lim, h.way, h.bare, h.ok, h.len, h.own, h.evl⟩
theorem made {m : M} (hm : m.base ≤ m.n) (n : Nat) {wl : Value} {ws : List Nat} (h : Rd m wl 1 u32Row ws) (hl : ws.length ≤ 16384) (hok : ∀ w ∈ ws, (decR w).2 = 0) :
    ∃ m' P s, (ex Try.prog (n + 6)).f 6 [wl] m = some (.tuple #[mP P, iv 0], m') ∧ MM m m' P s (ws.map fun w => (decR w).1) [] ∧ s.at_ = 0 ∧ s.own = 0 ∧ s.dn = 0 ∧ s.us = 0 := by
  obtain ⟨v, m', a1, a2, P, lv, rfl, a3, a4, a5, a6⟩ := New_c n hm h hl hok
  have hlv : okC lv = true := Grown.okC a5
  refine ⟨m', P, mcNew lv, a1, ⟨a2, hm, a4, a3, Grown.rd (fun _ => rfl) a5, fun hc => by have := a6 P hc; omega, (fun B _ hc => by cases hc), .inl ⟨rfl, rfl⟩, (fun hc => by cases hc), (fun B hB => by cases hB), rfl, rfl, rfl, ⟨rfl, rfl, rfl, rfl, rfl⟩, ⟨hlv, fun _ => rfl, rfl, rfl, rfl, rfl⟩, by rw [List.length_map]; omega, ⟨Int.le_refl 0, by show (0 : Int) ≤ 100001; omega, Int.le_refl 0, by show (0 : Int) ≤ 1000000; omega⟩, by simp⟩, rfl, rfl, rfl, rfl⟩
theorem run_of {mb m : M} {P : Nat} {s : Mch} {cs : List Ins} {evs : List EvR} (n : Nat) (h : MM mb m P s cs evs) (hN : ∀ (m2 : M) (Q : Nat) (s2 : Mch), MM m m2 Q s2 cs evs → s2.at_ = s.at_ → s2.own = s.own → s2.dn = s.dn → ∃ s', NextsTo (n + 4) Q m2 s' (wntF 6)) :
    ∃ m' ev', (ex Try.prog (n + 5)).f 9 [mP P] m = some (.agg ⟨runV ev' 4 0 s.us⟩, m') ∧ Gro m' ev' 5 evRow evs ∧ MM mb m' P s cs evs := by
  have hr := Run_c n h.mb h.mat h.bare h.ok h.gro (by have := h.evl; omega) (wntF 6) (fun m2 Q ev2 hE hb2 hQ hM hG hlt => ?_)
  · obtain ⟨v, m', a1, a2, ev', rfl, a3, a4⟩ := hr
    exact ⟨m', ev', a1, a3, h.keep a2⟩
  · have hbb : m2.base ≤ m2.n := hb2
    have hcode := h.code.sees ((Sees.refl h.mb).ext hE)
    have hcl : ∀ B, blk s.l = some B → B < m.n := fun B hB => h.code.lt B hB
    exact hN m2 Q { s with ev := ev2 } ⟨hE, h.mb, hM, hQ, hcode, fun hc => by have := hcl Q hc; omega, fun B hB hc => by have := hcl B hB; have := hlt B hc; omega, hG, fun hc => by have := hlt Q hc; omega, fun B hB => by have := hlt B hB; omega, h.half, h.lim, h.way, ⟨h.bare.rmw, h.bare.addr, h.bare.data, h.bare.ctrl, h.bare.outs⟩, ⟨h.ok.l, h.ok.t, h.ok.ft, h.ok.way, h.ok.half, Grown.okC hG⟩, h.len, h.own, h.evl⟩ rfl rfl rfl
end Go.Sx
namespace Go.Dx
section
variable {α : Type} {m0 m : M} {v : Value} {e : Nat} {f : α → List Value} {es : List α}
theorem Grown.coreN (h : Grown m0 m v e f es) (he : 0 < e) (hf : ∀ x, (f x).length = e) (hok : ∀ x, ∀ v ∈ f x, Dx.okC v = true) {w : Value} {xs : List α} (hw : Rd m w e f xs) (hx : xs ≠ []) (h0 : m0.n ≤ m.n) {bytes : Nat} (hm : (es.length + xs.length) * bytes ≤ most) (hn : es.length + xs.length ≤ 4611686018427387904) :
    ∃ v' m', appendV m e bytes v w = some (v', m') ∧ Grown m0 m' v' e f (es ++ xs) ∧ m.n < m'.n ∧ m'.base = m.base ∧ (m'.log = m.log ∨ ∃ B, blk v = some B ∧ m0.n ≤ B ∧ m'.log = note m.base B m.log) ∧ (∀ B, B < m.n → blk v ≠ some B → m'.obj B = m.obj B) ∧ (∀ B, blk v' = some B → m.n ≤ B) := by
  have hxl := List.length_pos_iff.2 hx
  have hk : (Nat.ble ((es.length + xs.length) * bytes) most && Nat.ble (es.length + xs.length) 4611686018427387904) = true := by rw [Nat.ble_eq_true_of_le hm, Nat.ble_eq_true_of_le hn]; rfl
  have hfi := hw.all
  have hal : allOk (es.flatMap f ++ xs.flatMap f) = true := allOk_of fun u hu => by
    simp only [List.mem_append, List.mem_flatMap] at hu
    rcases hu with ⟨y, _, h⟩ | ⟨y, _, h⟩ <;> exact hok y u h
  have hfl : (es ++ xs).flatMap f = es.flatMap f ++ xs.flatMap f := by simp
  rcases h with ⟨rfl, rfl⟩ | ⟨B, h1, h2, h3, rfl, h5⟩
  · refine ⟨.slice (some ⟨m.n, 0, some (code e false)⟩) xs.length xs.length, newRow m (xs.flatMap f), ?_, .inr ⟨m.n, h0, by rw [newRow_n]; omega, by simpa using hx, by simp, by simpa using Arr.row m (xs.flatMap f)⟩, by rw [newRow_n]; omega, (Ext.row m (xs.flatMap f)).base, .inl (Ext.row m (xs.flatMap f)).log,
      fun B hB _ => (Ext.row m (xs.flatMap f)).obj B hB, fun B hB => by cases hB; exact Nat.le_refl _⟩
    show ob (lenV w) _ = _
    rw [hw.lenV, ob_some']
    show ob (firsts m e xs.length w) _ = _
    rw [hfi, ob_some']
    unfold appW
    have hlt : Nat.ble (0 + xs.length) 0 = false := by
      cases q : Nat.ble (0 + xs.length) 0 with
      | false => rfl
      | true => exact absurd (Nat.le_of_ble_eq_true q) (by omega)
    have hk' : (Nat.ble ((0 + xs.length) * bytes) most && Nat.ble (0 + xs.length) 4611686018427387904) = true := hk
    rw [hlt, cond_false, hk', cond_true]
    show growV m e (0 + xs.length) none ([] ++ xs.flatMap f) = _
    rw [Nat.zero_add]; rfl
  · have hlt : Nat.ble (es.length + xs.length) es.length = false := by
      cases q : Nat.ble (es.length + xs.length) es.length with
      | false => rfl
      | true => exact absurd (Nat.le_of_ble_eq_true q) (by omega)
    obtain ⟨c, hc, hcl⟩ := id h5
    have hpos : 0 < es.length := List.length_pos_iff.2 h3
    have hlen := flatMap_len hf es
    have hne : 0 < (es.flatMap f).length := by rw [hlen]; exact Nat.mul_pos hpos he
    have ha : alive c = true := alive_of (i := 0) (by rw [hcl, List.getElem?_eq_getElem hne])
    refine ⟨.slice (some ⟨m.n, 0, some (code e false)⟩) (es.length + xs.length) (es.length + xs.length), (m.put B (.cells .lf)).alloc (.cells (mkn .lf 0 (es.flatMap f ++ xs.flatMap f))), ?_,
      .inr ⟨m.n, h0, by rw [M.n_alloc, M.n_put]; omega, by simp [h3], by simp, ?_⟩, by rw [M.n_alloc, M.n_put]; omega, by rw [M.base_alloc, M.base_put], .inr ⟨B, rfl, h1, by rw [M.log_alloc]; cases m; rfl⟩, fun Y hY hne' => ?_, fun Y hY => by cases hY; exact Nat.le_refl _⟩
    · show ob (lenV w) _ = _
      rw [hw.lenV, ob_some']
      show ob (firsts m e xs.length w) _ = _
      rw [hfi, ob_some']
      unfold appW
      rw [hlt, cond_false, hk, cond_true]
      have hold : firsts m e es.length (.slice (some ⟨B, 0, some (code e false)⟩) es.length es.length) = some (es.flatMap f) := by
        show loads m ⟨B, 0, some (code e false)⟩ (es.length * e) = _
        rw [h5.loads (by omega), List.drop_zero, ← hlen, List.take_length]
      rw [hold, ob_some']
      unfold growV
      have hx' : isEx (code e false) = false := by
        show Nat.beq (2 * e % 2) 1 = false
        rw [show 2 * e % 2 = 0 by omega]; rfl
      have hcd : Nat.beq (code e false / 2) e = true := by
        show Nat.beq (2 * e / 2) e = true
        rw [show 2 * e / 2 = e by omega]; exact Nat.beq_refl e
      show ob (some (code e false)) _ = _
      rw [ob_some', hx', cond_false]
      show ob (oCells (m.obj B)) _ = _
      rw [hc]
      show (bif alive c && Nat.beq (code e false / 2) e && allOk (es.flatMap f ++ xs.flatMap f) && Nat.blt 0 HI then _ else _) = _
      rw [ha, hcd, hal, show Nat.blt 0 HI = true from Nat.ble_eq_true_of_le (by unfold HI; omega)]
      rfl
    · rw [hfl]
      refine ⟨_, by rw [M.obj_alloc, M.n_put, if_pos rfl], fun i => ?_⟩
      rw [mkn_get, A.get_lf]
      split
      · simp
      · rename_i h; rw [List.getElem?_eq_none (by omega)]
    · rw [M.obj_alloc, M.n_put, if_neg (by omega), M.obj_put, if_neg (by rintro rfl; exact hne' rfl)]
theorem Grown.appendN (h : Grown m0 m v e f es) (hE : Ext m0 m) (hb : m0.base ≤ m0.n) (he : 0 < e) (hf : ∀ x, (f x).length = e) (hok : ∀ x, ∀ v ∈ f x, Dx.okC v = true) {w : Value} {xs : List α} (hw : Rd m w e f xs) (hx : xs ≠ []) {bytes : Nat} (hm : (es.length + xs.length) * bytes ≤ most) (hn : es.length + xs.length ≤ 4611686018427387904) :
    ∃ v' m', appendV m e bytes v w = some (v', m') ∧ Ext m0 m' ∧ Grown m0 m' v' e f (es ++ xs) ∧ m.n ≤ m'.n ∧ (∀ B, B < m.n → blk v ≠ some B → m'.obj B = m.obj B) ∧ (∀ B, blk v' = some B → m.n ≤ B) := by
  have hlow : ∀ B, blk v = some B → m0.n ≤ B := fun B hB => by
    rcases h with ⟨rfl, rfl⟩ | ⟨B', h1, _, _, rfl, _⟩
    · cases hB
    · cases hB; exact h1
  obtain ⟨v', m', h1, h2, h3, h4, h5, h6, h7⟩ := h.coreN he hf hok hw hx hE.n hm hn
  refine ⟨v', m', h1, ⟨by have := hE.n; omega, fun B hB => (h6 B (by have := hE.n; omega) fun hc => by have := hlow B hc; omega).trans (hE.obj B hB), by rw [h4, hE.base], ?_⟩, h2, by omega, h6, h7⟩
  rcases h5 with h5 | ⟨B, _, hB, h5⟩
  · rw [h5, hE.log]
  · rw [h5, note_ge (by rw [hE.base]; omega), hE.log]
end
end Go.Dx
namespace Go.Sx
open Go.Dx Go.Proofs
set_option maxRecDepth 10000
def aw : Dx.Pre := ⟨5, [], .bool true, []⟩
noncomputable def xA (N : Nat) : Ex := ⟨fun g args m => bif Nat.beq g 5 then (exg Try.prog [aw] 1).f g args m else (ex Try.prog N).f g args m, (ex Try.prog N).y⟩
theorem xA_f (N g : Nat) (args : List Value) (m : M) (h : g ≠ 5) : (xA N).f g args m = (ex Try.prog N).f g args m := by
  show (bif Nat.beq g 5 then _ else _) = _
  rw [beq_ne h]; rfl
theorem xA_aw (N : Nat) (m : M) : (xA N).f 5 [] m = some (.bool true, m) := rfl
theorem xA_ok (hP : Try.prog.follows .mixedOrders = true) (haw : PreOK2 Try.prog aw) (N : Nat) : ExOK Try.prog (xA N) := by
  refine ⟨fun g args m v m' h => ?_, (ex_ok hP N).y⟩
  change (bif Nat.beq g 5 then (exg Try.prog [aw] 1).f g args m else (ex Try.prog N).f g args m) = some (v, m') at h
  cases hb : Nat.beq g 5 with
  | true => rw [hb] at h; exact (exg_ok2 hP (l := [aw]) (fun p hp => by rw [List.mem_singleton.1 hp]; exact haw) 1).f g args m v m' h
  | false => rw [hb] at h; exact (ex_ok hP N).f g args m v m' h
theorem step_ret {P : Program} {x : Ex} {g : Nat} {c : SC} {nt : Nat} {res : List RV} {args : List Value} {m : M} {Q : Value → M → Prop} (hd : fnOf P g = some ⟨c, nt, res⟩) (ha : args.length ≤ nt)
    (h : Ret m Q (c x (resK res) noK (resK res) (initT .blank 0 args) m)) : Dx.Call (Ex.step P x) g args m Q := by
  obtain ⟨v, m', e, h1, h2⟩ := h
  refine ⟨v, m', ?_, h1, h2⟩
  show ob (fnOf P g) (callF x args m) = _
  rw [hd, ob_some', callF_ap _ _ _ _ _ _ ha]; exact e
def fnc : EvR := ⟨0, 3, -1, 0, 15⟩
theorem rep_app (n : Nat) : List.replicate n fnc ++ [⟨0, 3, -1, 0, 15⟩] = List.replicate (n + 1) fnc := by rw [List.replicate_succ']; rfl
theorem row_rd {mb : M} (hb : mb.base ≤ mb.n) (ws : List Nat) : Rd (Dx.newRow mb (ws.map fun (w : Nat) => wv (w : Int))) (.slice (some ⟨mb.n, 0, some 3⟩) ws.length ws.length) 1 u32Row ws := by
  refine rd_made (f := u32Row) (e := 1) (fun _ => rfl) ?_ ?_
  rotate_left
  · rw [newRow_n]; omega
  have : ws.flatMap u32Row = ws.map fun (w : Nat) => wv (w : Int) := by
    induction ws with
    | nil => rfl
    | cons a l ih => rw [List.flatMap_cons, ih]; rfl
  rw [this]; exact Arr.row _ _
def ws0 : List Nat := [335544320]
def ws1 : List Nat := [3573759935, 402653183]
def wsN (n : Nat) : List Nat := List.replicate n 3573759935 ++ [3533701153, 4164911138]
theorem cs0 : ws0.map (fun w => (decR w).1) = [iB] := by show [(decR 335544320).1] = _; rw [dec_B]
theorem cs1 : ws1.map (fun w => (decR w).1) = [iD, iM] := by show [(decR 3573759935).1, (decR 402653183).1] = _; rw [dec_D, dec_M]
theorem csN (n : Nat) : (wsN n).map (fun w => (decR w).1) = List.replicate n iD ++ [iV, iW] := by
  unfold wsN
  rw [List.map_append, List.map_replicate, dec_D]
  show _ ++ [(decR 3533701153).1, (decR 4164911138).1] = _
  rw [dec_V, dec_W]
theorem ok0 : ∀ w ∈ ws0, (decR w).2 = 0 := by intro w hw; rw [List.mem_singleton.1 hw, dec_B]
theorem ok1 : ∀ w ∈ ws1, (decR w).2 = 0 := by
  intro w hw
  simp only [ws1, List.mem_cons, List.not_mem_nil, or_false] at hw
  rcases hw with rfl | rfl
  · rw [dec_D]
  · rw [dec_M]
theorem okN (n : Nat) : ∀ w ∈ wsN n, (decR w).2 = 0 := by
  intro w hw
  simp only [wsN, List.mem_append, List.mem_replicate, List.mem_cons, List.not_mem_nil, or_false] at hw
  rcases hw with ⟨_, rfl⟩ | rfl | rfl
  · rw [dec_D]
  · rw [dec_V]
  · rw [dec_W]
theorem wl (w : Wnt) : fieldV false 0 1 (.agg ⟨wntL w⟩) = some (iv w.what) := rfl
theorem rl (ev : Value) (a b c : Int) : fieldV false 6 1 (.agg ⟨runV ev a b c⟩) = some (iv a) := rfl
theorem room3 {n : Nat} (h : n < 256) : roomF n ⟨3, 0, 15, 0, false, false⟩ = ⟨3, 0, 15, 0, false, false⟩ := by unfold roomF; rw [if_neg (by simp; omega)]
theorem room6 {n : Nat} (h : 256 ≤ n) : roomF n ⟨3, 0, 15, 0, false, false⟩ = wntF 6 := by unfold roomF; rw [if_pos (by simp; omega)]
structure Fnc (mb m : M) (P : Nat) (n : Nat) (s : Mch) : Prop where
  mm : MM mb m P s [iD, iM] (List.replicate n fnc)
  at_ : (n = 0 ∧ s.at_ = 0) ∨ (0 < n ∧ s.at_ = 1)
  own : s.own = 0
  dn : s.dn ≤ 2 * n
  us : s.us = 0
theorem Fnc.next {mb m : M} {P n : Nat} {s : Mch} (k : Nat) (h : Fnc mb m P n s) (hn : n ≤ 256) : ∃ m' s', (ex Try.prog (k + 4)).f 7 [mP P] m = some (.agg ⟨wntL (roomF n ⟨3, 0, 15, 0, false, false⟩)⟩, m') ∧ MM mb m' P s' [iD, iM] (List.replicate n fnc) ∧ s'.at_ = 0 ∧ s'.dn ≤ 2 * n + 1 ∧ s'.us = 0 ∧ NextsTo (k + 4) P m s' (roomF n ⟨3, 0, 15, 0, false, false⟩) := by
  have hd := h.dn
  have hl : (List.replicate n fnc).length = n := List.length_replicate
  rcases h.at_ with ⟨h0, ha⟩ | ⟨h0, ha⟩
  · obtain ⟨⟨m', a1, a2⟩, a3⟩ := at_D k h.mm (a := 0) ha rfl
    rw [hl] at a1 a3
    exact ⟨m', s, a1, a2, ha, by omega, h.us, a3⟩
  · obtain ⟨m', s', a1, a2, a3, a4, a5, a6⟩ := back_D k h.mm ha h.own (by omega)
    rw [hl] at a1 a6
    exact ⟨m', s', a1, a2, a3, by omega, by rw [a5, h.us], a6⟩
theorem Fnc.step {mb m : M} {P n : Nat} {s : Mch} (k : Nat) (h : Fnc mb m P n s) (hn : n < 256) : ∃ m1, (ex Try.prog (k + 5)).f 7 [mP P] m = some (.agg ⟨wntL ⟨3, 0, 15, 0, false, false⟩⟩, m1) ∧ ∃ m2 s2, (ex Try.prog (k + 5)).f 8 [mP P, uv 0] m1 = some (iv 0, m2) ∧ Fnc mb m2 P (n + 1) s2 := by
  obtain ⟨m1, s1, a1, a2, a3, a4, a5, -⟩ := h.next (k + 1) (by omega)
  rw [room3 hn] at a1
  obtain ⟨m2, s2, b1, b2, b3, b4, b5, b6⟩ := feed_D k a2 (a := 0) a3 rfl (by rw [List.length_replicate]; exact hn) (by omega) 0
  rw [rep_app] at b2
  exact ⟨m1, a1, m2, s2, b1, b2, .inr ⟨by omega, b3⟩, b4, by omega, by rw [b6, a5]⟩
theorem Fnc.keep {mb m m' : M} {P n : Nat} {s : Mch} (h : Fnc mb m P n s) (e : Ext m m') : Fnc mb m' P n s := ⟨h.mm.keep e, h.at_, h.own, h.dn, h.us⟩
theorem one_feed {mb m : M} {P n i : Nat} {s : Mch} (k : Nat) (h : MM mb m P s (List.replicate n iD ++ [iV, iW]) (List.replicate i fnc)) (hi : i < n) (hn : n ≤ 255) (ha : s.at_ = (i : Int)) (hd : s.dn = (i : Int)) :
    ∃ m' s', (ex Try.prog (k + 5)).f 8 [mP P, uv 0] m = some (iv 0, m') ∧ MM mb m' P s' (List.replicate n iD ++ [iV, iW]) (List.replicate (i + 1) fnc) ∧ s'.at_ = ((i + 1 : Nat) : Int) ∧ s'.own = 0 ∧ s'.dn = ((i + 1 : Nat) : Int) := by
  obtain ⟨m', s', a1, a2, a3, a4, a5, a6⟩ := feed_D k h ha (by rw [List.getElem?_append_left (by simp; omega)]; simp [hi]) (by rw [List.length_replicate]; omega) (by omega) 0
  rw [rep_app] at a2
  exact ⟨m', s', a1, a2, by omega, a4, by omega⟩
theorem one_next {mb m : M} {P n : Nat} {s : Mch} (k : Nat) (h : MM mb m P s (List.replicate n iD ++ [iV, iW]) (List.replicate n fnc)) (hn : n ≤ 255) (ha : s.at_ = (n : Int)) (ho : s.own = 0) (hd : s.dn = (n : Int)) :
    ∃ m' s', (ex Try.prog (k + 4)).f 7 [mP P] m = some (.agg ⟨wntL (roomF n (wSwap 0))⟩, m') ∧ MM mb m' P s' (List.replicate n iD ++ [iV, iW]) (List.replicate n fnc) := by
  obtain ⟨m', s', a1, a2⟩ := swap k h ha (by rw [List.getElem?_append_right (by simp)]; simp) (by rw [List.getElem?_append_right (by simp)]; simp) ho (by omega)
  rw [List.length_replicate] at a1
  exact ⟨m', s', a1, a2⟩
end Go.Sx
namespace Go.Sx
open Go.Dx Go.Proofs
set_option maxRecDepth 10000
set_option maxHeartbeats 4000000 in
theorem CpuLong_c (N : Nat) (hN : 20 ≤ N) (m : M) (hm : m.base ≤ m.n) : CallV (Ex.step Try.prog (xA N)) 3 [] m (.bool true) := by
  refine step_ret da0_ok (by simp) ?_
  obtain ⟨k, hk⟩ : ∃ k, N = k + 10 := ⟨N - 10, by omega⟩
  obtain ⟨mA, hA⟩ : ∃ mA, mA = Dx.newRow m [.int .u32 335544320] := ⟨_, rfl⟩
  have E0 : Ext m mA := by rw [hA]; exact Ext.row _ _
  have hbA : mA.base ≤ mA.n := ((Sees.refl hm).ext E0).base
  have bs0 : bsliceS 1 1 (rep 1 [.int .u32 0]) [(0, 1, .int .u32 335544320)] m = some (.slice (some ⟨m.n, 0, some 3⟩) 1 1, mA) := by rw [hA]; rfl
  have rd0 : Rd mA (.slice (some ⟨m.n, 0, some 3⟩) 1 1) 1 u32Row ws0 := by rw [hA]; exact row_rd hm ws0
  obtain ⟨m1, P, s1, a1, a2, a3, a4, a5, a6⟩ := made hbA (k + 4) rd0 (by decide) ok0
  rw [cs0] at a2
  obtain ⟨m2, s2, b1, b2, b3, b4⟩ := spin (k + 6) a2 a3 a4 a5
  obtain ⟨⟨m3, c1, c2⟩, -⟩ := spun (k + 6) b2 b3 b4
  obtain ⟨m4, d1, d2⟩ := feed_no (k + 9) c2 (spun (k + 5) c2 b3 b4).2 0
  obtain ⟨m5, ev5, e1, e2, e3⟩ := run_of (k + 5) d2 (fun mq Q sq h h1 h2 h3 => ⟨sq, (spun (k + 5) h (by rw [h1]; exact b3) (by rw [h2]; exact b4)).2⟩)
  have E5 : Ext m m5 := E0.trans e3.ext
  have hb5 : m5.base ≤ m5.n := ((Sees.refl hm).ext E5).base
  rw [show k + 4 + 6 = N by omega] at a1
  rw [show k + 6 + 4 = N by omega] at b1 c1
  rw [show k + 9 + 1 = N by omega] at d1
  rw [show k + 5 + 5 = N by omega] at e1
  have d1 : (ex Try.prog N).f 8 [mP P, .int .u64 0] m3 = some (iv 1, m4) := d1
  clear hA
  obtain ⟨mB, hB⟩ : ∃ mB, mB = Dx.newRow m5 [.int .u32 3573759935, .int .u32 402653183] := ⟨_, rfl⟩
  have E6 : Ext m5 mB := by rw [hB]; exact Ext.row _ _
  have hbB : mB.base ≤ mB.n := ((Sees.refl hb5).ext E6).base
  have bs1 : bsliceS 1 2 (rep 2 [.int .u32 0]) [(0, 1, .int .u32 3573759935), (1, 1, .int .u32 402653183)] m5 = some (.slice (some ⟨m5.n, 0, some 3⟩) 2 2, mB) := by rw [hB]; rfl
  have rd1 : Rd mB (.slice (some ⟨m5.n, 0, some 3⟩) 2 2) 1 u32Row ws1 := by rw [hB]; exact row_rd hb5 ws1
  obtain ⟨m6, P2, s6, f1, f2, f3, f4, f5, f6⟩ := made hbB (k + 4) rd1 (by decide) ok1
  rw [cs1] at f2
  rw [show k + 4 + 6 = N by omega] at f1
  have F6 : Fnc mB m6 P2 0 s6 := ⟨f2, .inl ⟨rfl, f3⟩, f4, by rw [f5]; omega, f6⟩
  have EB : Ext m mB := E5.trans E6
  clear hB
  simp [xA_f, xA_aw, bs0, a1, b1, c1, d1, e1, wl, rl, wntF, bs1, f1]
  refine loop_run (c := ca0_18) rfl (Ret m _) (fun j t m' => Tm.get 3 t = mP P2 ∧ Tm.get 4 t = iv j ∧ ∃ s, Fnc mB m' P2 j s) 256 (by omega) ⟨by simp, by simp, s6, F6⟩ (fun j t m' K hj hI hK => ?_)
  obtain ⟨t3, t4, s, F⟩ := hI
  by_cases hj2 : j < 256
  · obtain ⟨m7, g1, m8, s8, g2, g3⟩ := F.step (k + 5) hj2
    rw [show k + 5 + 5 = N by omega] at g1 g2
    have g2 : (ex Try.prog N).f 8 [mP P2, .int .u64 0] m7 = some (iv 0, m8) := g2
    have hd : ((j : Int) < 256) = True := eq_true (by omega)
    have w1 := nextI (i := j) (by omega)
    simp [t3, t4, hd, xA_f, g1, g2, wl, w1]
    exact hK hj2 _ _ ⟨by simp [t3], by simp, s8, g3⟩
  obtain rfl : j = 256 := by omega
  have t4' : Tm.get 4 t = iv 256 := t4
  clear hK hj hj2 t4
  simp [t4']
  refine loop_run (c := ca0_57) rfl (Ret m _) (fun j t m' => Tm.get 3 t = mP P2 ∧ Tm.get 5 t = iv ((254 + j : Nat) : Int) ∧ ∃ s, Fnc mB m' P2 256 s) 2 (by omega) ⟨by simp [t3], by simp, s, F⟩ (fun j t m' K hj hI hK => ?_)
  obtain ⟨t3, t5, s, F⟩ := hI
  have hbm' : m'.base ≤ m'.n := F.mm.mb
  by_cases hj2 : j < 2
  · obtain ⟨n, hn⟩ : ∃ n, n = 254 + j := ⟨_, rfl⟩
    rw [← hn] at t5
    have hd : ((n : Int) ≤ 255) = True := eq_true (by omega)
    simp [t3, t5, hd]
    refine loop_run (c := ca0_28) rfl (Ret m _) (fun i t m2 => Tm.get 3 t = mP P2 ∧ Tm.get 5 t = iv n ∧ Tm.get 7 t = iv i ∧ Ext m' m2 ∧ Grown m' m2 (Tm.get 6 t) 1 u32Row (List.replicate i 3573759935)) n (by omega) ⟨by simp [t3], by simp [t5], by simp, Ext.refl _, .inl ⟨by simp, rfl⟩⟩ (fun i t m2 K2 hi hI hK2 => ?_)
    obtain ⟨t3, t5, t7, hE, hG⟩ := hI
    by_cases hin : i < n
    · have hd2 : ((i : Int) < (n : Int)) = True := eq_true (by omega)
      have w1 := nextI (i := i) (by omega)
      have bs : bsliceS 1 1 (rep 1 [.int .u32 0]) [(0, 1, .int .u32 3573759935)] m2 = some (.slice (some ⟨m2.n, 0, some 3⟩) 1 1, Dx.newRow m2 [.int .u32 3573759935]) := rfl
      have hb2 : m2.base ≤ m2.n := ((Sees.refl hbm').ext hE).base
      have rd : Rd (Dx.newRow m2 [.int .u32 3573759935]) (.slice (some ⟨m2.n, 0, some 3⟩) 1 1) 1 u32Row [3573759935] := row_rd hb2 [3573759935]
      obtain ⟨v', m4, q1, q2, q3, -⟩ := (Grown.ext hG (Ext.row m2 [.int .u32 3573759935])).appendN (hE.trans (Ext.row _ _)) hbm' (by omega) (fun _ => rfl) (by simp [u32Row, okC]) rd (by simp) (bytes := 4) (by rw [List.length_replicate]; unfold most; simp; omega) (by rw [List.length_replicate]; simp; omega)
      simp [t3, t5, t7, hd2, bs, q1, w1]
      refine hK2 hin _ _ ⟨by simp [t3], by simp [t5], by simp, q2, ?_⟩
      rw [List.replicate_succ']
      simpa using q3
    obtain rfl : i = n := by omega
    clear hK2 hin hi
    have bs : bsliceS 1 2 (rep 2 [.int .u32 0]) [(0, 1, .int .u32 3533701153), (1, 1, .int .u32 4164911138)] m2 = some (.slice (some ⟨m2.n, 0, some 3⟩) 2 2, Dx.newRow m2 [.int .u32 3533701153, .int .u32 4164911138]) := rfl
    have hb2 : m2.base ≤ m2.n := ((Sees.refl hbm').ext hE).base
    have rd : Rd (Dx.newRow m2 [.int .u32 3533701153, .int .u32 4164911138]) (.slice (some ⟨m2.n, 0, some 3⟩) 2 2) 1 u32Row [3533701153, 4164911138] := row_rd hb2 [3533701153, 4164911138]
    obtain ⟨v', m4, q1, q2, q3, -⟩ := (Grown.ext hG (Ext.row m2 [.int .u32 3533701153, .int .u32 4164911138])).appendN (hE.trans (Ext.row _ _)) hbm' (by omega) (fun _ => rfl) (by simp [u32Row, okC]) rd (by simp) (bytes := 4) (by rw [List.length_replicate]; unfold most; simp; omega) (by rw [List.length_replicate]; simp; omega)
    have hb4 : m4.base ≤ m4.n := ((Sees.refl hbm').ext q2).base
    have rdN : Rd m4 v' 1 u32Row (wsN i) := Grown.rd (fun _ => rfl) q3
    obtain ⟨m5', P3, s5, r1, r2, r3, r4, r5, r6⟩ := made hb4 (k + 4) rdN (by unfold wsN; simp; omega) (okN i)
    rw [csN] at r2
    rw [show k + 4 + 6 = N by omega] at r1
    simp [t3, t5, t7, bs, q1, r1, xA_f]
    refine loop_run (c := ca0_42) rfl (Ret m _) (fun j t m6 => Tm.get 3 t = mP P2 ∧ Tm.get 5 t = iv i ∧ Tm.get 8 t = mP P3 ∧ Tm.get 10 t = iv j ∧ ∃ s, MM m4 m6 P3 s (List.replicate i iD ++ [iV, iW]) (List.replicate j fnc) ∧ s.at_ = (j : Int) ∧ s.own = 0 ∧ s.dn = (j : Int)) i (by omega) ⟨by simp [t3], by simp [t5], by simp, by simp, s5, r2, r3, r4, r5⟩ (fun j' t m6 K2 hj' hI hK2 => ?_)
    obtain ⟨t3, t5, t8, t10, s7, M7, u1, u2, u3⟩ := hI
    by_cases hin : j' < i
    · have hd2 : ((j' : Int) < (i : Int)) = True := eq_true (by omega)
      have w1 := nextI (i := j') (by omega)
      obtain ⟨m7, s8, x1, x2, x3, x4, x5⟩ := one_feed (k + 5) M7 hin (by omega) u1 u3
      rw [show k + 5 + 5 = N by omega] at x1
      have x1 : (ex Try.prog N).f 8 [mP P3, .int .u64 0] m6 = some (iv 0, m7) := x1
      simp [t3, t5, t8, t10, hd2, xA_f, x1, w1]
      exact hK2 hin _ _ ⟨by simp [t3], by simp [t5], by simp [t8], by simp, s8, x2, x3, x4, x5⟩
    obtain rfl : j' = i := by omega
    clear hK2 hin hj'
    obtain ⟨m7, s8, x1, x2⟩ := one_next (k + 6) M7 (by omega) u1 u2 u3
    rw [show k + 6 + 4 = N by omega] at x1
    obtain ⟨w, hw⟩ : ∃ w, w = roomF j' (wSwap 0) := ⟨_, rfl⟩
    rw [← hw] at x1
    obtain ⟨m8, y1, y2, y3, y4⟩ := ((St.nil x2.mb (Ext.refl m7)).row z6w).fill 0 rfl (n := 6) (l' := wntL w) rfl rfl (wnt_ok _)
    have y1' : storeS 6 (.pointer (some ⟨m7.n, 0, none⟩)) (.agg ⟨wntL w⟩) (Dx.newRow m7 [.int .i64 0, .int .i64 0, .int .i64 0, .int .u64 0, .bool false, .bool false]) = some (undef, m8) := y1
    have l0 : load1 m8 ⟨m7.n, 0, none⟩ = some (iv w.what) := (y2.get 0 rfl).2.2.load1 0 none
    have l5 : load1 m8 ⟨m7.n, 5, none⟩ = some (.bool w.one) := (y2.get 0 rfl).2.2.load1 5 none
    have hEnd : Ext m' m8 := (q2.trans x2.ext).trans y2.ext
    have F8 := F.keep hEnd
    by_cases h254 : j' = 254
    · have hwo : w = wSwap 0 := by rw [hw]; unfold roomF; rw [if_neg (by rw [show (wSwap 0).one = true by decide]; simp; omega)]
      have ho1 : w.what = 1 := by rw [hwo]; rfl
      have ho2 : w.one = true := by rw [hwo]; decide
      have hd1 : ((j' : Int) = 254) = True := eq_true (by omega)
      have hd2 : (j' = 254) = True := eq_true h254
      have hd3 : ((j' : Int) = 255) = False := eq_false (by omega)
      have hd4 : (j' = 255) = False := eq_false (by omega)
      rw [ho1] at l0
      rw [ho2] at l5
      have w1 := nextI (i := j') (by omega)
      simp [t3, t5, t8, t10, xA_f, x1, y1', l0, l5, hd1, hd2, hd3, hd4, w1]
      exact hK hj2 _ _ ⟨by simp [t3], by simp; omega, s, F8⟩
    · have hwo : w = wntF 6 := by rw [hw]; unfold roomF; rw [if_pos (by rw [show (wSwap 0).one = true by decide]; simp; omega)]
      have ho1 : w.what = 6 := by rw [hwo]; rfl
      have hd1 : ((j' : Int) = 254) = False := eq_false (by omega)
      have hd2 : (j' = 254) = False := eq_false h254
      have hd3 : ((j' : Int) = 255) = True := eq_true (by omega)
      have hd4 : (j' = 255) = True := eq_true (by omega)
      rw [ho1] at l0
      have w1 := nextI (i := j') (by omega)
      simp [t3, t5, t8, t10, xA_f, x1, y1', l0, l5, hd1, hd2, hd3, hd4, w1]
      exact hK hj2 _ _ ⟨by simp [t3], by simp; omega, s, F8⟩
  obtain rfl : j = 2 := by omega
  clear hK hj hj2
  have t5' : Tm.get 5 t = iv 256 := t5
  clear t5
  have hF : ∀ (k : Nat), (∃ m1 s1, (ex Try.prog (k + 4)).f 7 [mP P2] m' = some (.agg ⟨wntL (wntF 6)⟩, m1) ∧ MM mB m1 P2 s1 [iD, iM] (List.replicate 256 fnc) ∧ s1.at_ = 0) := fun k => by
    obtain ⟨m1, s1, p1, p2, p3, -⟩ := F.next k (by omega)
    rw [room6 (by omega)] at p1
    exact ⟨m1, s1, p1, p2, p3⟩
  obtain ⟨m7, ev7, p1, p2, p3⟩ := run_of (k + 5) F.mm (fun mq Q sq h h1 h2 h3 => by
    obtain ⟨_, ha⟩ | ⟨_, ha⟩ := F.at_
    · omega
    obtain ⟨m1, s1, q1, q2, q3, q4, q5, q6⟩ := back_D (k + 5) h (by rw [h1]; exact ha) (by rw [h2]; exact F.own) (by rw [h3]; have := F.dn; omega)
    rw [List.length_replicate, room6 (by omega)] at q6
    exact ⟨s1, q6⟩)
  rw [show k + 5 + 5 = N by omega, F.us] at p1
  have F7 : Fnc mB m7 P2 256 s := ⟨p3, F.at_, F.own, F.dn, F.us⟩
  have hv7 : okC ev7 = true := Grown.okC p2
  obtain ⟨m8, y1, y2, y3, y4⟩ := ((St.nil p3.mb (Ext.refl m7)).row z9).fill 0 rfl (n := 9) (l' := runV ev7 4 0 0) rfl rfl (runV_ok hv7 _ _ _)
  have y1' : storeS 9 (.pointer (some ⟨m7.n, 0, none⟩)) (.agg ⟨runV ev7 4 0 0⟩) (Dx.newRow m7 [.slice none 0 0, .slice none 0 0, .slice none 0 0, .slice none 0 0, .slice none 0 0, .slice none 0 0, .int .i64 0, .int .i64 0, .int .i64 0]) = some (undef, m8) := y1
  have F8 := F7.keep y2.ext
  obtain ⟨m9, s9, q1, q2, q3, q4, q5, q6⟩ := F8.next (k + 6) (by omega)
  rw [room6 (by omega)] at q1 q6
  rw [show k + 6 + 4 = N by omega] at q1
  obtain ⟨⟨m9', r1, r2⟩, r3⟩ := at_D (k + 5) q2 (a := 0) q3 rfl
  rw [List.length_replicate, room6 (by omega)] at r3
  obtain ⟨m10, u1, u2⟩ := feed_no (k + 9) q2 r3 0
  rw [show k + 9 + 1 = N by omega] at u1
  have u1 : (ex Try.prog N).f 8 [mP P2, .int .u64 0] m9 = some (iv 1, m10) := u1
  have hP2 : P2 < m7.n := p3.mat.lt
  have hR : Arr m10 m7.n (runV ev7 4 0 0) := by
    obtain ⟨_, n1, n2, n3, -⟩ := q6
    rw [show k + 6 + 4 = N by omega, q1] at n2
    cases n2
    obtain ⟨_, o1, o2, o3, -⟩ := Feed_e (k + 9) q2.mb r3 q2.mat.lt (by decide) 0
    rw [show k + 9 + 1 = N by omega, show (uv 0) = Value.int .u64 0 from rfl, u1] at o2
    cases o2
    have h8 := y2.get 0 rfl
    have h9 := h8.2.2.congr (n3.obj _ h8.2.1 (by simp; omega))
    exact h9.congr (o3.obj _ (Nat.lt_of_lt_of_le h8.2.1 n3.n) (by simp; omega))
  have l0 : load1 m10 ⟨m7.n, 0, none⟩ = some ev7 := hR.load1 0 none
  have l6 : load1 m10 ⟨m7.n, 6, none⟩ = some (iv 4) := hR.load1 6 none
  have hln := p2.len
  rw [List.length_replicate] at hln
  simp [t3, t5', xA_f, p1, y1', q1, wl, wntF, u1, l0, l6, hln]
  exact ret_1 (EB.trans u2.ext) (by simp)
end Go.Sx
