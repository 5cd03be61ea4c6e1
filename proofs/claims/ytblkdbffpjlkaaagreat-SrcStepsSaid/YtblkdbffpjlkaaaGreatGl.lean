/- Contracts. -/
import Derived.Test.YtblkdbffpjlkaaaGreatGi
import Derived.Test.YtblkdbffpjlkaaaGreatGj
import Derived.Test.YtblkdbffpjlkaaaGreatGk
set_option linter.unusedVariables false
set_option linter.unusedSimpArgs false
set_option linter.defProp false
set_option linter.unusedSectionVars false
/- A machine's Next, whatever its state. -/
namespace Go.Sx
open Go.Dx Go.Proofs
set_option maxRecDepth 10000
variable [Cdf]
def wHalt : Wt := ⟨5, 0, 0, u0, false⟩
def wFuel : Wt := ⟨6, 0, 0, u0, false⟩
/-- behind so many acts, at most, that want nothing -/
def adv (acts : List Ac) : Nat → Ms → Ms
  | f, s => match acts[s.at_]? with
    | none => s
    | some a => if ownB a then (match f with
      | 0 => s
      | f + 1 => adv acts f (ownS s a)) else s
def nextW (acts : List Ac) (s : Ms) : Wt := match acts[s.at_]? with
  | none => wHalt
  | some a => if ownB a then wFuel else wantOf s a
def finN (acts : List Ac) (s : Ms) : Ms := { s with now := nextW acts s }
def nextMs (acts : List Ac) (s : Ms) : Ms := if s.asked = true ∧ s.now.what ≠ 6 then s else finN acts (adv acts 100000 { s with asked := true })
theorem adv_none {acts : List Ac} {s : Ms} (f : Nat) (h : acts[s.at_]? = none) : adv acts f s = s := by unfold adv; rw [h]
theorem adv_want {acts : List Ac} {s : Ms} {a : Ac} (f : Nat) (h : acts[s.at_]? = some a) (ho : ownB a = false) : adv acts f s = s := by unfold adv; rw [h]; simp [ho]
theorem adv_own {acts : List Ac} {s : Ms} {a : Ac} (f : Nat) (h : acts[s.at_]? = some a) (ho : ownB a = true) : adv acts (f + 1) s = adv acts f (ownS s a) := by conv => lhs; unfold adv; rw [h]; simp [ho]
theorem adv_zero {acts : List Ac} {s : Ms} : adv acts 0 s = s := by
  unfold adv
  cases acts[s.at_]? with
  | none => rfl
  | some a => simp
section
variable {k na : Nat} {cells : Int} {a : Ac} {av : Value} {s : Ms} {Mb Lb R2 : Nat} {m m0 : M} {acts : List Ac}
def PN (m0 : M) (Mb Lb k : Nat) (av : Value) (S : Ms) (v : Value) (m' : M) : Prop := Mc m0 m' [Mb, Lb] ∧ MsAt m' Mb Lb k av S ∧ v = .agg ⟨wtL S.now⟩
abbrev nS (R2 Mb Lb k : Nat) (av : Value) (s : Ms) : List (Nat × List Value) := [(R2, Z6), (Mb, msRow k av (lvV Lb k) s), (Lb, lsR s.ls)]
theorem own_at (hg : AcG k na cells a) (how : ownB a = true) (hat : s.at_ < na) : (ownS s a).at_ ≤ na := by
  have hop := of_decide_eq_true how
  unfold ownS
  split
  · show s.at_ + 1 ≤ na; omega
  · split
    · have := hg.t (show pT a.op = true by unfold pT; exact decide_eq_true (by omega))
      show a.to.toNat ≤ na; omega
    · have := hg.t (show pT a.op = true by unfold pT; exact decide_eq_true (by omega))
      show (if (valE s.ls a.es).1 = 0 then a.to.toNat else s.at_ + 1) ≤ na
      by_cases hz : (valE s.ls a.es).1 = 0
      · rw [if_pos hz]; omega
      · rw [if_neg hz]; omega
theorem own_len (s : Ms) (a : Ac) : (ownS s a).ls.length = s.ls.length := by
  unfold ownS
  split
  · show (s.ls.set _ _).length = _; simp
  · split <;> rfl
/-- one's blocks behind a call of the machine -/
theorem Ow.mach {σ : List (Nat × List Value)} {m' : M} {s' : Ms} (h : Ow m0 m [Mb, Lb] (σ ++ [(Mb, msRow k av (lvV Lb k) s), (Lb, lsR s.ls)])) (kk : Mc m m' [Mb, Lb]) (hM : MsAt m' Mb Lb k av s') : Ow m0 m' [Mb, Lb] (σ ++ [(Mb, msRow k av (lvV Lb k) s'), (Lb, lsR s'.ls)]) := by
  have hnd := h.nd
  refine h.call kk (fun p hp => ?_) (by simpa using hnd)
  rcases List.mem_append.1 hp with hp | hp
  · obtain ⟨_, h2, h3⟩ := h.arr p (List.mem_append_left _ hp)
    refine ⟨⟨p, List.mem_append_left _ hp, rfl⟩, h3.congr (kk.obj _ h2 ?_)⟩
    rw [List.map_append, List.nodup_append] at hnd
    have := hnd.2.2 p.1 (List.mem_map.2 ⟨p, hp, rfl⟩)
    simp at this ⊢
    exact this
  · simp only [List.mem_cons, List.not_mem_nil, or_false] at hp
    rcases hp with rfl | rfl
    · exact ⟨⟨_, List.mem_append_right _ (List.mem_cons_self ..), rfl⟩, hM.row⟩
    · exact ⟨⟨_, List.mem_append_right _ (List.mem_cons_of_mem _ (List.mem_cons_self ..)), rfl⟩, hM.ls⟩
/-- a round of Next's loop, at an act -/
theorem next_round (hc : cells ≤ 4096) (hE : Env m0 Mb Lb av acts) (hg : AcG k na cells a) (hat : s.at_ < 9223372036854775807) (ha : acts[s.at_]? = some a) (hl : s.ls.length = k) (hne : Mb ≠ Lb)
    (h : Ow m0 m [Mb, Lb] (nS R2 Mb Lb k av s)) {t : Tm} {j : Nat} (t0 : Tm.get 0 t = mP Mb) (t2 : Tm.get 2 t = .pointer (some ⟨R2, 0, none⟩)) (t25 : Tm.get 25 t = iv j) {N : Nat} {kn : K} {ke : Nat → K} {S : Ms}
    (hS : ownB a = false → S = { s with now := wantOf s a })
    (H : ownB a = true → ∀ t' m', Tm.get 0 t' = mP Mb → Tm.get 2 t' = .pointer (some ⟨R2, 0, none⟩) → Tm.get 25 t' = iv j → Ow m0 m' [Mb, Lb] (nS R2 Mb Lb k av (ownS s a)) → FinR (PN m0 Mb Lb k av S) (kn t' m')) :
    FinR (PN m0 Mb Lb k av S) (ca9_14 (ex Tryz.prog (N + 5)) kn ke (resK [.cell 2 6]) t m) := by
  have hM : MsAt m Mb Lb k av s := Ow.msAt h 1 2 rfl rfl hl
  have hEm := hE.mc h.mc
  have hm := h.mb
  obtain ⟨v3, m3, c1, c2, rfl⟩ := act_c hEm hM ha (N + 4) hm
  have ow3 := h.step c2
  have ow4 := ow3.row Z11
  obtain ⟨m4, hm4⟩ : ∃ m4, m4 = Dx.newRow m3 Z11 := ⟨_, rfl⟩
  rw [← hm4] at ow4
  have haok := hEm.ok a (List.mem_of_getElem? ha)
  obtain ⟨m5, g1, g3, g4, g5⟩ := ow4.storeN 0 rfl (o := 0) (l' := acRow a) (n := 11) (by omega) rfl (by simp) (acRow_ok haok.1)
  have ow5 : Ow m0 m5 [Mb, Lb] ((m3.n, acRow a) :: nS R2 Mb Lb k av s) := by
    have h := g3
    rw [over_fill (by rfl)] at h
    exact h
  have l5 : ∀ o s', load1 m5 ⟨m3.n, o, s'⟩ = (acRow a)[o]? := fun o s' => (ow5.get 0 rfl).2.2.load1 o s'
  simp only [acRow] at l5
  have E5 := hE.mc ow5.mc
  have hM5 : MsAt m5 Mb Lb k av s := Ow.msAt ow5 2 3 rfl rfl hl
  obtain ⟨v6, m6', d1, d2, d3, rfl⟩ := any_call (works_c (N + 4) (forAny m5) (sees_any (Sees.refl ow5.mb)).base)
  obtain ⟨m6, hm6⟩ : ∃ m6, m6 = behind m5 m6' := ⟨_, rfl⟩
  rw [← hm6] at d3
  have ow6 := ow5.step d3
  have l6 : ∀ o s', load1 m6 ⟨m3.n, o, s'⟩ = (acRow a)[o]? := fun o s' => (ow6.get 0 rfl).2.2.load1 o s'
  simp only [acRow] at l6
  have l6n : loads m6 ⟨m3.n, 0, none⟩ 11 = some (acRow a) := (ow6.get 0 rfl).2.2.loads (n := 11) (by simp [acRow])
  have E6 := E5.ext d3
  have hM6 := hM5.ext d3
  have haok6 := E6.ok a (List.mem_of_getElem? ha)
  have hwi := works_i hg.op.1 hg.op.2
  cases how : ownB a with
  | true =>
    have ok6 := (E6.any ow6.mb).ok a (List.mem_of_getElem? ha)
    obtain ⟨v7, m7', e1, e2, e3, rfl⟩ := own_act_c hg how (N + 1) (sees_any (Sees.refl ow6.mb)).base hne hM6.any hat ok6.1 ok6.2
    obtain ⟨m7, hm7⟩ : ∃ m7, m7 = behind m6 m7' := ⟨_, rfl⟩
    have e2' := e2.behind
    rw [← hm7] at e2'
    have e3' : MsAt m7 Mb Lb k av (ownS s a) := e3.congr (by rw [hm7, behind_n]; exact Nat.le_refl _) (by rw [hm7, behind_obj]) (by rw [hm7, behind_obj])
    have ow7 : Ow m0 m7 [Mb, Lb] ((m3.n, acRow a) :: nS R2 Mb Lb k av (ownS s a)) := Ow.mach (σ := [(m3.n, acRow a), (R2, Z6)]) ow6 e2' e3'
    have ow8 := ow7.row Z6
    obtain ⟨m8, hm8⟩ : ∃ m8, m8 = Dx.newRow m7 Z6 := ⟨_, rfl⟩
    rw [← hm8] at ow8
    obtain ⟨m9', i1, i2, i3, i4, i5⟩ := ow8.storeNAny 0 rfl (o := 0) (l' := Z6) (n := 6) (by omega) rfl (by simp) (by simp [okC])
    obtain ⟨m9, hm9⟩ : ∃ m9, m9 = behind m8 m9' := ⟨_, rfl⟩
    rw [← hm9] at i3
    have ow9 : Ow m0 m9 [Mb, Lb] ((m7.n, Z6) :: (m3.n, acRow a) :: nS R2 Mb Lb k av (ownS s a)) := by
      have h := i3
      rw [over_fill (by rfl)] at h
      exact h
    have l9n : loads m9 ⟨m3.n, 0, none⟩ 11 = some (acRow a) := (ow9.get 1 rfl).2.2.loads (n := 11) (by simp [acRow])
    obtain ⟨v10, m10, j1, j2, rfl⟩ := own_c a (N + 4) m9
    rw [how] at j1
    have ow10 := ow9.step j2
    have ow11 := ow10.sub (σ' := nS R2 Mb Lb k av (ownS s a)) (fun p hp => List.mem_cons_of_mem _ (List.mem_cons_of_mem _ hp)) (by have := ow10.nd; simp only [List.map_cons, List.nodup_cons] at this ⊢; exact this.2.2)
    simp [t0, t2, t25, c1, ← hm4, g1, l5, d1, d2, ← hm6, pIdx_ap, l6, hwi, l6n, loadNS_ptr, e1, ← hm7, ← hm8, i1, i2, ← hm9, l9n, j1]
    exact H how _ _ (by simp [t0]) (by simp [t2]) (by simp [t25]) ow11
  | false =>
    obtain ⟨v7, m7', e1, e2, e3, rfl⟩ := any_call (want_c hc hg how N (sees_any (Sees.refl ow6.mb)).base hM6.any (haok6.1.sees (sees_any (Sees.refl ow6.mb))))
    obtain ⟨m7, hm7⟩ : ∃ m7, m7 = behind m6 m7' := ⟨_, rfl⟩
    rw [← hm7] at e3
    have ow7 := ow6.step e3
    have hS' := hS how
    obtain ⟨w, hw⟩ : ∃ w, w = wantOf s a := ⟨_, rfl⟩
    rw [← hw] at e1 hS'
    have ow8 := ow7.row Z6
    obtain ⟨m8, hm8⟩ : ∃ m8, m8 = Dx.newRow m7 Z6 := ⟨_, rfl⟩
    rw [← hm8] at ow8
    obtain ⟨m9', i1, i2, i3, i4, i5⟩ := ow8.storeNAny 0 rfl (o := 0) (l' := wtL w) (n := 6) (by omega) rfl (by simp) (wtL_ok w)
    obtain ⟨m9, hm9⟩ : ∃ m9, m9 = behind m8 m9' := ⟨_, rfl⟩
    rw [← hm9] at i3
    have ow9 : Ow m0 m9 [Mb, Lb] ((m7.n, wtL w) :: (m3.n, acRow a) :: nS R2 Mb Lb k av s) := by
      have h := i3
      rw [over_fill (by rfl)] at h
      exact h
    have l9n : loads m9 ⟨m3.n, 0, none⟩ 11 = some (acRow a) := (ow9.get 1 rfl).2.2.loads (n := 11) (by simp [acRow])
    obtain ⟨v10, m10, j1, j2, rfl⟩ := own_c a (N + 4) m9
    rw [how] at j1
    have ow10 := ow9.step j2
    have l10 : loads m10 ⟨m7.n, 0, none⟩ 6 = some (wtL w) := (ow10.get 0 rfl).2.2.loads (n := 6) (by simp [wtL])
    obtain ⟨m11, n1, n3, n4, n5⟩ := ow10.storeN 3 rfl (o := 4) (l' := wtL w) (n := 6) (by omega) rfl (by simp [msRow]) (wtL_ok w)
    have l11 : loads m11 ⟨m7.n, 0, none⟩ 6 = some (wtL w) := (n3.get 0 rfl).2.2.loads (n := 6) (by simp [wtL])
    obtain ⟨m12, o1, o3, o4, o5⟩ := n3.storeN 2 rfl (o := 0) (l' := wtL w) (n := 6) (by omega) rfl (by simp) (wtL_ok w)
    have lf : loads m12 ⟨R2, 0, none⟩ 6 = some (wtL w) := by
      have := (o3.get 2 rfl).2.2.loads (o := 0) (s := none) (n := 6) (by rw [over_length]; simp)
      rw [over_fill (by rfl)] at this
      exact this
    have hs : MsAt m12 Mb Lb k av S := by
      refine Ow.msAt o3 3 4 ?_ (by rw [hS']; rfl) (by rw [hS']; exact hl)
      show some (Mb, over (msRow k av (lvV Lb k) s) 4 (wtL w)) = _
      rw [hS']; rfl
    simp [t0, t2, t25, c1, ← hm4, g1, l5, d1, d2, ← hm6, pIdx_ap, l6, hwi, l6n, loadNS_ptr, e1, ← hm7, ← hm8, i1, i2, ← hm9, l9n, j1, l10, n1, l11, o1]
    exact fin_cell (a := ⟨R2, 0, none⟩) (by simp [t2]) lf ⟨o3.mc, hs, by rw [hS']⟩
theorem next_28 (hl : s.ls.length = k) (h : Ow m0 m [Mb, Lb] (nS R2 Mb Lb k av s)) {t : Tm} (t0 : Tm.get 0 t = mP Mb) (t2 : Tm.get 2 t = .pointer (some ⟨R2, 0, none⟩)) {x : Ex} {kn : K} {ke : Nat → K} :
    FinR (PN m0 Mb Lb k av s) (ca9_28 x kn ke (resK [.cell 2 6]) t m) := by
  have l6 : loads m ⟨Mb, 4, none⟩ 6 = some (wtL s.now) := by
    have := (h.get 1 rfl).2.2.loads (o := 4) (s := none) (n := 6) (by simp [msRow])
    rw [this]; rfl
  obtain ⟨m4, i1, i3, i4, i5⟩ := h.storeN 0 rfl (o := 0) (l' := wtL s.now) (n := 6) (by omega) rfl (by simp) (wtL_ok s.now)
  have hM4 : MsAt m4 Mb Lb k av s := Ow.msAt i3 1 2 rfl rfl hl
  have lf : loads m4 ⟨R2, 0, none⟩ 6 = some (wtL s.now) := by
    have := (i3.get 0 rfl).2.2.loads (o := 0) (s := none) (n := 6) (by rw [over_length]; simp)
    rw [over_fill (by rfl)] at this
    exact this
  simp [t0, t2, l6, loadNS_ptr, i1]
  exact fin_cell (a := ⟨R2, 0, none⟩) (by simp [t2]) lf ⟨i3.mc, hM4, rfl⟩
/-- Next, behind its loop -/
theorem next_late (hc : cells ≤ 4096) (hE : Env m0 Mb Lb av acts) (hgs : ∀ a ∈ acts, AcG k acts.length cells a) (hal : acts.length ≤ 65536) (hat : s.at_ ≤ acts.length) (hl : s.ls.length = k) (hne : Mb ≠ Lb)
    (h : Ow m0 m [Mb, Lb] (nS R2 Mb Lb k av s)) {t : Tm} (t0 : Tm.get 0 t = mP Mb) (t2 : Tm.get 2 t = .pointer (some ⟨R2, 0, none⟩)) {N : Nat} {kn : K} {ke : Nat → K} {S : Ms} (hS : S = finN acts s) :
    FinR (PN m0 Mb Lb k av S) (ca9_30 (ex Tryz.prog (N + 5)) kn ke (resK [.cell 2 6]) t m) := by
  have hlen : lenS av = some (.int .i64 (acts.length : Int)) := hE.rav.len
  have bf : buildV Z6 [(0, 1, .int .i64 6)] = some (.agg ⟨wtL wFuel⟩) := rfl
  obtain ⟨m1, g1, g3, g4, g5⟩ := h.storeN 1 rfl (o := 4) (l' := wtL wFuel) (n := 6) (by omega) rfl (by simp [msRow]) (wtL_ok wFuel)
  have ow1 : Ow m0 m1 [Mb, Lb] (nS R2 Mb Lb k av { s with now := wFuel }) := g3
  have hM1 : MsAt m1 Mb Lb k av { s with now := wFuel } := Ow.msAt ow1 1 2 rfl rfl hl
  have lM : ∀ o s', load1 m1 ⟨Mb, o, s'⟩ = (msRow k av (lvV Lb k) { s with now := wFuel })[o]? := fun o s' => (ow1.get 1 rfl).2.2.load1 o s'
  simp only [msRow] at lM
  have hEm := hE.mc ow1.mc
  have hm := ow1.mb
  cases ha : acts[s.at_]? with
  | none =>
    have hge := List.getElem?_eq_none_iff.1 ha
    have de : decide (((s.at_ : Nat) : Int) = ((acts.length : Nat) : Int)) = true := decide_eq_true (by omega)
    have de' : decide (s.at_ = acts.length) = true := decide_eq_true (by omega)
    have hSe : S = { s with now := wHalt } := by rw [hS]; unfold finN nextW; rw [ha]
    rw [hSe]
    obtain ⟨m2, i1, i3, i4, i5⟩ := ow1.store 1 rfl (o := 4) (v := .int .i64 5) (by simp [msRow]) rfl
    have ow2 : Ow m0 m2 [Mb, Lb] (nS R2 Mb Lb k av { s with now := wHalt }) := i3
    simp [t0, t2, bf, g1, lM, hlen, de, de', i1, -ca9_28_ap]
    exact next_28 (s := { s with now := wHalt }) hl ow2 (by simp [t0]) (by simp [t2])
  | some a =>
    have hlt := (List.getElem?_eq_some_iff.1 ha).1
    have hmem := List.mem_of_getElem? ha
    have hg := hgs a hmem
    have dne : decide (((s.at_ : Nat) : Int) = ((acts.length : Nat) : Int)) = false := decide_eq_false (by omega)
    have dne' : decide (s.at_ = acts.length) = false := decide_eq_false (by omega)
    obtain ⟨v3, m3, c1, c2, rfl⟩ := act_c hEm hM1 ha (N + 4) hm
    have ow3 := ow1.step c2
    have ow4 := ow3.row Z11
    obtain ⟨m4, hm4⟩ : ∃ m4, m4 = Dx.newRow m3 Z11 := ⟨_, rfl⟩
    rw [← hm4] at ow4
    have haok := hEm.ok a hmem
    obtain ⟨m5, j1, j3, j4, j5⟩ := ow4.storeN 0 rfl (o := 0) (l' := acRow a) (n := 11) (by omega) rfl (by simp) (acRow_ok haok.1)
    have ow5 : Ow m0 m5 [Mb, Lb] ((m3.n, acRow a) :: nS R2 Mb Lb k av { s with now := wFuel }) := by
      have h := j3
      rw [over_fill (by rfl)] at h
      exact h
    have l5n : loads m5 ⟨m3.n, 0, none⟩ 11 = some (acRow a) := (ow5.get 0 rfl).2.2.loads (n := 11) (by simp [acRow])
    obtain ⟨v6, m6, d1, d2, rfl⟩ := own_c a (N + 4) m5
    have ow6 := ow5.step d2
    cases how : ownB a with
    | true =>
      rw [how] at d1
      have hSe : S = { s with now := wFuel } := by rw [hS]; unfold finN nextW; rw [ha]; simp [how]
      rw [hSe]
      have ow7 := ow6.sub (σ' := nS R2 Mb Lb k av { s with now := wFuel }) (fun p hp => List.mem_cons_of_mem _ hp) (by have := ow6.nd; simp only [List.map_cons, List.nodup_cons] at this ⊢; exact this.2)
      simp [t0, t2, bf, g1, lM, hlen, dne, dne', c1, ← hm4, j1, l5n, loadNS_ptr, d1, -ca9_28_ap]
      exact next_28 (s := { s with now := wFuel }) hl ow7 (by simp [t0]) (by simp [t2])
    | false =>
      rw [how] at d1
      have hSe : S = { s with now := wantOf s a } := by rw [hS]; unfold finN nextW; rw [ha]; simp [how]
      rw [hSe]
      have E6 := hE.mc ow6.mc
      have hM6 : MsAt m6 Mb Lb k av { s with now := wFuel } := Ow.msAt ow6 2 3 rfl rfl hl
      obtain ⟨v7, m7', e1, e2, e3, rfl⟩ := any_call (works_c (N + 4) (forAny m6) (sees_any (Sees.refl ow6.mb)).base)
      obtain ⟨m7, hm7⟩ : ∃ m7, m7 = behind m6 m7' := ⟨_, rfl⟩
      rw [← hm7] at e3
      have ow7 := ow6.step e3
      have l7 : ∀ o s', load1 m7 ⟨m3.n, o, s'⟩ = (acRow a)[o]? := fun o s' => (ow7.get 0 rfl).2.2.load1 o s'
      simp only [acRow] at l7
      have l7n : loads m7 ⟨m3.n, 0, none⟩ 11 = some (acRow a) := (ow7.get 0 rfl).2.2.loads (n := 11) (by simp [acRow])
      have E7 := E6.ext e3
      have hM7 := hM6.ext e3
      have haok7 := E7.ok a hmem
      have hwi := works_i hg.op.1 hg.op.2
      obtain ⟨v8, m8', f1, f2, f3, rfl⟩ := any_call (want_c hc hg how N (sees_any (Sees.refl ow7.mb)).base hM7.any (haok7.1.sees (sees_any (Sees.refl ow7.mb))))
      obtain ⟨m8, hm8⟩ : ∃ m8, m8 = behind m7 m8' := ⟨_, rfl⟩
      rw [← hm8] at f3
      have ow8 := ow7.step f3
      have hw : wantOf { s with now := wFuel } a = wantOf s a := rfl
      rw [hw] at f1
      obtain ⟨w, hww⟩ : ∃ w, w = wantOf s a := ⟨_, rfl⟩
      rw [← hww] at f1 ⊢
      obtain ⟨m9', i1, i2, i3, i4, i5⟩ := ow8.storeNAny 2 rfl (o := 4) (l' := wtL w) (n := 6) (by omega) rfl (by simp [msRow]) (wtL_ok w)
      obtain ⟨m9, hm9⟩ : ∃ m9, m9 = behind m8 m9' := ⟨_, rfl⟩
      rw [← hm9] at i3
      have ow9 : Ow m0 m9 [Mb, Lb] ((m3.n, acRow a) :: nS R2 Mb Lb k av { s with now := w }) := i3
      have ow10 := ow9.sub (σ' := nS R2 Mb Lb k av { s with now := w }) (fun p hp => List.mem_cons_of_mem _ hp) (by have := ow9.nd; simp only [List.map_cons, List.nodup_cons] at this ⊢; exact this.2)
      simp [t0, t2, bf, g1, lM, hlen, dne, dne', c1, ← hm4, j1, l5n, loadNS_ptr, d1, e1, e2, ← hm7, pIdx_ap, l7, hwi, l7n, f1, f2, ← hm8, i1, i2, ← hm9, -ca9_28_ap]
      exact next_28 (s := { s with now := w }) hl ow10 (by simp [t0]) (by simp [t2])
/-- Next -/
theorem nextF_c (hc : cells ≤ 4096) (hE : Env m Mb Lb av acts) (hgs : ∀ a ∈ acts, AcG k acts.length cells a) (hal : acts.length ≤ 65536) (hat : s.at_ ≤ acts.length) (N : Nat) (hm : m.base ≤ m.n) (hne : Mb ≠ Lb) (hM : MsAt m Mb Lb k av s) :
    WrC (ex Tryz.prog (N + 6)) 18 [mP Mb] m Mb Lb k av (nextMs acts s) (.agg ⟨wtL (nextMs acts s).now⟩) := by
  refine call_fin (Q := PN m Mb Lb k av (nextMs acts s)) da9_ok (by simp) ?_
  have ow0 := hM.ow hne hm
  have ow1 := ow0.row Z6
  obtain ⟨m1, hm1⟩ : ∃ m1, m1 = Dx.newRow m Z6 := ⟨_, rfl⟩
  rw [← hm1] at ow1
  have l1 : ∀ o s', load1 m1 ⟨Mb, o, s'⟩ = (msRow k av (lvV Lb k) s)[o]? := fun o s' => (ow1.get 1 rfl).2.2.load1 o s'
  simp only [msRow] at l1
  have hlen : lenS av = some (.int .i64 (acts.length : Int)) := hE.rav.len
  by_cases hq : s.asked = true ∧ s.now.what ≠ 6
  · have hS : nextMs acts s = s := if_pos hq
    rw [hS]
    rw [hq.1] at l1
    have d6 : decide (s.now.what = 6) = false := decide_eq_false hq.2
    have l6 : loads m1 ⟨Mb, 4, none⟩ 6 = some (wtL s.now) := by
      have := (ow1.get 1 rfl).2.2.loads (o := 4) (s := none) (n := 6) (by simp [msRow])
      rw [this]; rfl
    obtain ⟨m2, f1, f3, f4, f5⟩ := ow1.storeN 0 rfl (o := 0) (l' := wtL s.now) (n := 6) (by omega) rfl (by simp) (wtL_ok s.now)
    have hM2 : MsAt m2 Mb Lb k av s := Ow.msAt f3 1 2 rfl rfl hM.len
    have lf : loads m2 ⟨m.n, 0, none⟩ 6 = some (wtL s.now) := by
      have := (f3.get 0 rfl).2.2.loads (o := 0) (s := none) (n := 6) (by rw [over_length]; simp)
      rw [over_fill (by rfl)] at this
      exact this
    simp [← hm1, l1, d6, l6, loadNS_ptr, f1]
    exact fin_cell (a := ⟨m.n, 0, none⟩) (by simp) lf ⟨f3.mc, hM2, rfl⟩
  have hS : nextMs acts s = finN acts (adv acts 100000 { s with asked := true }) := if_neg hq
  obtain ⟨S, hSe⟩ : ∃ S, S = nextMs acts s := ⟨_, rfl⟩
  rw [← hSe]
  rw [← hSe] at hS
  obtain ⟨m2, f1, f3, f4, f5⟩ := ow1.store 1 rfl (o := 10) (v := .bool true) (by simp [msRow]) rfl
  have ow2 : Ow m m2 [Mb, Lb] (nS m.n Mb Lb k av { s with asked := true }) := f3
  have go : ∀ tt, Tm.get 0 tt = mP Mb → Tm.get 2 tt = .pointer (some ⟨m.n, 0, none⟩) → FinR (PN m Mb Lb k av S) (ca9_31 (ex Tryz.prog (N + 5)) (resK [.cell 2 6]) noK (resK [.cell 2 6]) tt m2) := fun tt u0 u2 => by
    simp [u0, u2, -ca9_30_ap]
    refine loop_run (c := ca9_20) rfl (FinR _) (fun j t m' => ∃ sj, Ow m m' [Mb, Lb] (nS m.n Mb Lb k av sj) ∧ sj.ls.length = k ∧ sj.at_ ≤ acts.length ∧ S = finN acts (adv acts (100000 - j) sj) ∧ Tm.get 0 t = mP Mb ∧ Tm.get 2 t = .pointer (some ⟨m.n, 0, none⟩) ∧ Tm.get 25 t = iv j) 100000 (by omega)
      ⟨_, ow2, hM.len, hat, hS, by simp [u0], by simp [u2], by simp⟩ (fun j t m' k' hj hI hk' => ?_)
    obtain ⟨sj, ow, hl, hatj, hSj, t0, t2, t25⟩ := hI
    have lM : ∀ o s', load1 m' ⟨Mb, o, s'⟩ = (msRow k av (lvV Lb k) sj)[o]? := fun o s' => (ow.get 1 rfl).2.2.load1 o s'
    simp only [msRow] at lM
    by_cases hjl : j < 100000
    · have hd : ((j : Int) < 100000) = True := eq_true (by omega)
      have hd' : (j < 100000) = True := eq_true hjl
      cases ha : acts[sj.at_]? with
      | none =>
        have hge := List.getElem?_eq_none_iff.1 ha
        have de : decide (((sj.at_ : Nat) : Int) = ((acts.length : Nat) : Int)) = true := decide_eq_true (by omega)
        have de' : decide (sj.at_ = acts.length) = true := decide_eq_true (by omega)
        have hSe : S = { sj with now := wHalt } := by rw [hSj, adv_none _ ha]; unfold finN nextW; rw [ha]
        have bh : buildV Z6 [(0, 1, .int .i64 5)] = some (.agg ⟨wtL wHalt⟩) := rfl
        obtain ⟨m3, g1, g3, g4, g5⟩ := ow.storeN 1 rfl (o := 4) (l' := wtL wHalt) (n := 6) (by omega) rfl (by simp [msRow]) (wtL_ok wHalt)
        have ow3 : Ow m m3 [Mb, Lb] (nS m.n Mb Lb k av { sj with now := wHalt }) := g3
        have l6 : loads m3 ⟨Mb, 4, none⟩ 6 = some (wtL wHalt) := by
          have := (ow3.get 1 rfl).2.2.loads (o := 4) (s := none) (n := 6) (by simp [msRow])
          rw [this]; rfl
        obtain ⟨m4, i1, i3, i4, i5⟩ := ow3.storeN 0 rfl (o := 0) (l' := wtL wHalt) (n := 6) (by omega) rfl (by simp) (wtL_ok wHalt)
        have hM4 : MsAt m4 Mb Lb k av { sj with now := wHalt } := Ow.msAt i3 1 2 rfl rfl hl
        have lf : loads m4 ⟨m.n, 0, none⟩ 6 = some (wtL wHalt) := by
          have := (i3.get 0 rfl).2.2.loads (o := 0) (s := none) (n := 6) (by rw [over_length]; simp)
          rw [over_fill (by rfl)] at this
          exact this
        simp [t0, t2, t25, hd, hd', lM, hlen, de, de', bh, g1, l6, loadNS_ptr, i1]
        refine fin_cell (a := ⟨m.n, 0, none⟩) (by simp [t2]) lf ⟨i3.mc, by rw [hSe]; exact hM4, by rw [hSe]⟩
      | some a =>
        have hlt := (List.getElem?_eq_some_iff.1 ha).1
        have hmem := List.mem_of_getElem? ha
        have dne : decide (((sj.at_ : Nat) : Int) = ((acts.length : Nat) : Int)) = false := decide_eq_false (by omega)
        have dne' : decide (sj.at_ = acts.length) = false := decide_eq_false (by omega)
        have nj := nextI (i := j) (by omega)
        simp [t0, t2, t25, hd, hd', lM, hlen, dne, dne', -ca9_14_ap]
        refine next_round (j := j) (R2 := m.n) (s := sj) (S := S) hc hE (hgs a hmem) (by omega) ha hl hne ow (by simp [t0]) (by simp [t2]) (by simp [t25]) (fun ho => ?_) (fun ho t' m2' t0 t2 t25 ow' => ?_)
        · rw [hSj, adv_want _ ha ho]; unfold finN nextW; rw [ha]; simp [ho]
        · simp [t25, nj]
          refine hk' hjl _ _ ⟨ownS sj a, ow', by rw [own_len]; exact hl, own_at (hgs a hmem) ho hlt, ?_, by simp [t0], by simp [t2], by simp⟩
          rw [hSj, show 100000 - j = (100000 - (j + 1)) + 1 by omega, adv_own _ ha ho]
    · obtain rfl : j = 100000 := by omega
      have hd : ((100000 : Int) < 100000) = False := eq_false (by omega)
      rw [Nat.sub_self, adv_zero] at hSj
      simp [t0, t2, t25, -ca9_30_ap]
      exact next_late hc hE hgs hal hatj hl hne ow (by simp [t0]) (by simp [t2]) hSj
  cases hask : s.asked with
  | false =>
    rw [hask] at l1
    simp [← hm1, l1, f1, -ca9_31_ap]
    exact go _ (by simp) (by simp)
  | true =>
    have h6 : s.now.what = 6 := Classical.byContradiction fun h => hq ⟨hask, h⟩
    have d6 : decide (s.now.what = 6) = true := decide_eq_true h6
    rw [hask] at l1
    simp [← hm1, l1, d6, f1, -ca9_31_ap]
    exact go _ (by simp) (by simp)
end
end Go.Sx
/- A machine's Clone and Locals; Feed that is refused. -/
namespace Go.Sx
open Go.Dx Go.Proofs
set_option maxRecDepth 10000
theorem bs_w (m : M) : bsliceS 1 0 (rep 0 [.int .u64 0]) [] m = some (.slice (some ⟨m.n, 0, some (code 1 true)⟩) 0 0, Dx.newRow m []) := rfl
theorem CloneU_c (n : Nat) (X o : Nat) (cd : Option Nat) (l c : Nat) (es : List U) (hl : es.length ≤ 65536) (m : M) (hm : m.base ≤ m.n) (hed : Rd m (.slice (some ⟨X, o, cd⟩) l c) 1 wordRow es) :
    Dx.Call (ex Tryz.prog (n + 1)) 40 [.slice (some ⟨X, o, cd⟩) l c] m fun v m' => ∃ B c', v = .slice (some ⟨B, 0, some c'⟩) es.length es.length ∧ m.n ≤ B ∧ B < m'.n ∧ Arr m' B (lsR es) := by
  refine call_ret dc6_ok (by simp) ?_
  have hn := eqN_nilS hed.len
  obtain ⟨B, c', m', h1, h2, h3, h4, h5⟩ := append_clone2 hm hed (fun _ => rfl) 8 (by unfold most; omega) (by omega)
  have hbs := bs_w m
  rw [lsR_flat] at h5
  simp [hn, hbs, h1]
  exact ret_1 h2 (by simp only [get_set, reduceIte]; exact ⟨B, ⟨c', rfl⟩, h3, h4, h5⟩)
section
variable {k na : Nat} {cells : Int} {a : Ac} {av : Value} {s : Ms} {Mb Lb : Nat} {m m0 : M} {acts : List Ac}
/-- Locals -/
theorem Locals_c [Cdf] (hk : k ≤ 24) (hM : MsAt m Mb Lb k av s) (N : Nat) (hm : m.base ≤ m.n) :
    Dx.Call (ex Tryz.prog (N + 2)) 39 [mP Mb] m fun v m' => ∃ B c', v = .slice (some ⟨B, 0, some c'⟩) k k ∧ m.n ≤ B ∧ B < m'.n ∧ Arr m' B (lsR s.ls) := by
  refine call_ret dc5_ok (by simp) ?_
  have lM := hM.l1
  simp only [msRow] at lM
  have hrd := hM.rd
  unfold lvV at lM hrd
  obtain ⟨v1, m1, c1, c2, B, c', rfl, h1, h2, h3⟩ := CloneU_c N Lb 0 (some Cdf.cd) k k s.ls (by rw [hM.len]; omega) m hm hrd
  simp [lM, c1]
  refine ret_1 c2 (by simp only [get_set, reduceIte]; exact ⟨B, ⟨c', by rw [hM.len]⟩, h1, h2, h3⟩)
def CloneP (m : M) (k : Nat) (av : Value) (s : Ms) (v : Value) (m' : M) : Prop := ∃ Mc Lc, ∃ I : Cdf, v = mP Mc ∧ @MsAt I m' Mc Lc k av { s with asked := false } ∧ m.n ≤ Mc ∧ m.n ≤ Lc ∧ Mc ≠ Lc
/-- Clone -/
theorem Clone_c [Cdf] (hk : k ≤ 24) (hav : okC av = true) (hM : MsAt m Mb Lb k av s) (N : Nat) (hm : m.base ≤ m.n) :
    Dx.Call (ex Tryz.prog (N + 2)) 20 [mP Mb] m (CloneP m k av s) := by
  refine call_ret db1_ok (by simp) ?_
  have lM := hM.l1
  have l13 : loads m ⟨Mb, 0, none⟩ 13 = some (msRow k av (lvV Lb k) s) := hM.row.loads (n := 13) (by simp [msRow])
  have hrd := hM.rd
  have st1 := (St.nil hm (Ext.refl m)).row Z13
  obtain ⟨m1, hm1⟩ : ∃ m1, m1 = Dx.newRow m Z13 := ⟨_, rfl⟩
  rw [← hm1] at st1
  have okr : ∀ v ∈ msRow k av (lvV Lb k) s, okC v = true := by
    intro v hv
    simp only [msRow, List.mem_cons, List.not_mem_nil, or_false] at hv
    rcases hv with rfl | rfl | rfl | rfl | rfl | rfl | rfl | rfl | rfl | rfl | rfl | rfl | rfl <;> first | rfl | assumption
  obtain ⟨m2, f1, f2, f3, f4⟩ := st1.fill 0 rfl (n := 13) (l' := msRow k av (lvV Lb k) s) rfl rfl okr
  have st2 : St m m2 [(m.n, msRow k av (lvV Lb k) s)] := f2
  have hM2 : MsAt m2 Mb Lb k av s := hM.ext st2.ext
  have lM2 : ∀ o s', load1 m2 ⟨Mb, o, s'⟩ = (msRow k av (lvV Lb k) s)[o]? := hM2.l1
  have hrd2 := hM2.rd
  have hrow : msRow k av (lvV Lb k) s = [iv k, av, iv s.at_, lvV Lb k, iv s.now.what, iv s.now.loc, iv s.now.mode, uv s.now.val.1, .bool s.now.ex, .bool false, .bool s.asked, uv s.old.1, .bool s.opn] := rfl
  unfold lvV at hrd2
  obtain ⟨v3, m3, c1, c2, B, c', rfl, h1, h2, h3⟩ := CloneU_c N Lb 0 (some Cdf.cd) k k s.ls (by rw [hM.len]; omega) m2 st2.sees.self.base hrd2
  have hBn : B ≠ m.n := by have := (st2.get 0 rfl).2.1; omega
  have st3 := (st2.step c2).add (by have := st2.ext.n; omega) h2 h3 (fun p hp => by rw [List.mem_singleton.1 hp]; exact hBn.symm)
  obtain ⟨m4, g1, g2, g3, g4⟩ := st3.store 1 rfl (o := 3) (v := .slice (some ⟨B, 0, some c'⟩) s.ls.length s.ls.length) (by simp [msRow]) rfl
  obtain ⟨m5, i1, i2, i3, i4⟩ := g2.store 1 rfl (o := 10) (v := .bool false) (by simp [msRow]) rfl
  have hfin : @MsAt ⟨c'⟩ m5 m.n B k av { s with asked := false } := by
    have hA := (i2.get 1 rfl).2.2
    have hL := (i2.get 0 rfl).2.2
    refine @MsAt.mk ⟨c'⟩ _ _ _ _ _ _ ?_ hL hM.len (i2.get 1 rfl).2.1 (i2.get 0 rfl).2.1
    rw [hM.len] at hA
    exact hA
  have lM2' := lM2 3 none
  rw [hrow] at l13 f1
  unfold lvV at l13 f1
  have l3 : ∀ s', load1 m2 ⟨Mb, 3, s'⟩ = some (.slice (some ⟨Lb, 0, some Cdf.cd⟩) k k) := fun s' => by rw [lM2]; rfl
  simp [loadNS_ptr, l13, ← hm1, f1, l3, c1, g1, i1]
  refine ret_1 i2.ext (by simp only [get_set, reduceIte]; exact ⟨m.n, B, ⟨c'⟩, rfl, hfin, Nat.le_refl _, by have := st2.ext.n; omega, hBn.symm⟩)
/-- Feed, that is refused -/
theorem feedNo_c [Cdf] (hM : MsAt m Mb Lb k av s) (h : s.asked = false ∨ s.now.what = 5 ∨ s.now.what = 6) (v : U) (N : Nat) (hm : m.base ≤ m.n) :
    CallV (ex Tryz.prog (N + 1)) 14 [mP Mb, uv v.1] m (iv 1) := by
  refine call_ret da5_ok (by simp) ?_
  have lM := hM.l1
  simp only [msRow] at lM
  have E := Ext.refl m
  cases ha : s.asked with
  | false =>
    rw [ha] at lM
    simp [lM]
    exact ret_1 E (by simp)
  | true =>
    rw [ha] at lM h
    by_cases h5 : s.now.what = 5
    · have d5 : decide (s.now.what = 5) = true := decide_eq_true h5
      simp [lM, d5]
      exact ret_1 E (by simp)
    · have d5 : decide (s.now.what = 5) = false := decide_eq_false h5
      have d6 : decide (s.now.what = 6) = true := decide_eq_true (by rcases h with h | h | h; cases h; exact absurd h h5; exact h)
      simp [lM, d5, d6]
      exact ret_1 E (by simp)
end
end Go.Sx
/- The law's next and same. -/
namespace Go.Dx
theorem memN_not {B : Nat} {l : List Nat} (h : B ∉ l) : memN B l = false := by
  induction l with
  | nil => rfl
  | cons C l ih =>
    simp at h
    unfold memN
    rw [ih h.2]
    have : Nat.beq B C = false := by
      cases q : Nat.beq B C with
      | false => rfl
      | true => exact absurd (Nat.eq_of_beq_eq_true q) h.1
    rw [this]; rfl
theorem meet_log {B : Nat} {l : List Nat} (h : B ∉ l) (r : Option Nat) : FP.meet ⟨r, l⟩ ⟨some B, []⟩ = true := by
  cases l with
  | nil => rfl
  | cons C l =>
    have := memN_not h
    show (!memN B (C :: l)) = true
    rw [this]; rfl
end Go.Dx
namespace Go.Sx
open Go.Dx Go.Proofs
set_option maxRecDepth 10000
section
variable {k : Nat} {cells : Int} {t : Th} {m m0 : M} {lv : Value} {ls : List U} {i : Nat}
theorem adv_mk (acts : List Ac) : ∀ (f : Nat) (s : Ms), s.opn = false → (adv acts f s).opn = false := by
  intro f
  induction f with
  | zero => intro s h; rw [adv_zero]; exact h
  | succ f ih =>
    intro s h
    cases ha : acts[s.at_]? with
    | none => rw [adv_none _ ha]; exact h
    | some a =>
      cases ho : ownB a with
      | false => rw [adv_want _ ha ho]; exact h
      | true => rw [adv_own _ ha ho]; exact ih _ (by rw [(own_asked s a).2]; exact h)
/-- only where it stands and its locals count -/
theorem adv_sim (acts : List Ac) : ∀ (f : Nat) (s s' : Ms), s.at_ = s'.at_ → s.ls = s'.ls → (adv acts f s).at_ = (adv acts f s').at_ ∧ (adv acts f s).ls = (adv acts f s').ls := by
  intro f
  induction f with
  | zero => intro s s' h1 h2; rw [adv_zero, adv_zero]; exact ⟨h1, h2⟩
  | succ f ih =>
    intro s s' h1 h2
    cases ha : acts[s.at_]? with
    | none => rw [adv_none _ ha, adv_none _ (by rw [← h1]; exact ha)]; exact ⟨h1, h2⟩
    | some a =>
      cases ho : ownB a with
      | false => rw [adv_want _ ha ho, adv_want _ (by rw [← h1]; exact ha) ho]; exact ⟨h1, h2⟩
      | true =>
        rw [adv_own _ ha ho, adv_own _ (by rw [← h1]; exact ha) ho]
        obtain ⟨q1, q2⟩ := own_ls (a := a) h2 h1
        exact ih _ _ q1 q2
theorem adv_keep (acts : List Ac) : ∀ (f : Nat) (s : Ms), (adv acts f s).now = s.now ∧ (adv acts f s).asked = s.asked ∧ (adv acts f s).old = s.old ∧ (adv acts f s).opn = s.opn := by
  have ho : ∀ (s : Ms) (a : Ac), (ownS s a).now = s.now ∧ (ownS s a).asked = s.asked ∧ (ownS s a).old = s.old ∧ (ownS s a).opn = s.opn := fun s a => by
    unfold ownS
    split
    · exact ⟨rfl, rfl, rfl, rfl⟩
    · split
      · exact ⟨rfl, rfl, rfl, rfl⟩
      · exact ⟨rfl, rfl, rfl, rfl⟩
  intro f
  induction f with
  | zero => intro s; rw [adv_zero]; exact ⟨rfl, rfl, rfl, rfl⟩
  | succ f ih =>
    intro s
    cases ha : acts[s.at_]? with
    | none => rw [adv_none _ ha]; exact ⟨rfl, rfl, rfl, rfl⟩
    | some a =>
      cases hb : ownB a with
      | false => rw [adv_want _ ha hb]; exact ⟨rfl, rfl, rfl, rfl⟩
      | true =>
        rw [adv_own _ ha hb]
        obtain ⟨q1, q2, q3, q4⟩ := ih (ownS s a)
        obtain ⟨p1, p2, p3, p4⟩ := ho s a
        exact ⟨q1.trans p1, q2.trans p2, q3.trans p3, q4.trans p4⟩
def LvD (D : List (Nat × List Value)) (k : Nat) (ls : List U) (lv : Value) (ls' : List U) (lv' : Value) : Prop := (lv' = lv ∧ ls' = ls ∧ D = []) ∨ ∃ B c, lv' = lvS B c k ∧ D = [(B, lsR ls')]
theorem LvD.sv {σ D : List (Nat × List Value)} {ls' : List U} {lv' : Value} (h : LvD D k ls lv ls' lv') (hst : St m0 m (σ ++ D)) (h0 : Sv m0 lv ls) (hl : ls'.length = k) : Sv m lv' ls' := by
  rcases h with ⟨rfl, rfl, rfl⟩ | ⟨B, c, rfl, rfl⟩
  · exact h0.sees hst.sees
  · obtain ⟨_, h2, h3⟩ := hst.arr (B, lsR ls') (by simp)
    exact sv_of h3 h2 hl
theorem LvD.next {σ D : List (Nat × List Value)} {ls' ls2 : List U} {lv' lv2 : Value} {m' : M} (h : LvD D k ls lv ls' lv') (hst : St m0 m (σ ++ D)) (hl : ls'.length = k) (e : Ext m m') (hS : LvS m m' k ls' lv' ls2 lv2) : ∃ D2, LvD D2 k ls lv ls2 lv2 ∧ St m0 m' (σ ++ D2) ∧ ls2.length = k := by
  rcases hS with ⟨rfl, rfl⟩ | ⟨B, c, rfl, h1, h2, h3, h4⟩
  · exact ⟨D, h, hst.step e, hl⟩
  · refine ⟨[(B, lsR ls2)], .inr ⟨B, c, rfl, rfl⟩, ?_, h4⟩
    have hs := (hst.step e).sub (σ' := σ) (fun p hp => List.mem_append_left _ hp) (by have := hst.nd; rw [List.map_append, List.nodup_append] at this; exact this.1)
    have hn := hst.ext.n
    have h5 := hs.add (B := B) (by omega) h2 h3 (fun p hp => by have := (hst.arr p (List.mem_append_left _ hp)).2.1; omega)
    have hp : (σ ++ [(B, lsR ls2)]).Perm ((B, lsR ls2) :: σ) := by
      have := List.perm_middle (a := (B, lsR ls2)) (l₁ := σ) (l₂ := [])
      rw [List.append_nil] at this
      exact this
    exact h5.sub (fun p hp' => hp.mem_iff.1 hp') ((hp.map (·.1)).nodup_iff.2 h5.nd)
def NextP (m : M) (t : Th) (k : Nat) (ls : List U) (lv : Value) (S : Ms) (v : Value) (m' : M) : Prop := ∃ lv', v = .tuple #[.agg ⟨stL t S.at_ lv'⟩, .agg ⟨wtL (nextW t.acts S)⟩] ∧ LvS m m' k ls lv S.ls lv'
/-- the law's next -/
theorem next_rc (hc : cells ≤ 4096) (hav : Rd m t.av 11 acRow t.acts) (hok : ∀ a ∈ t.acts, AcOK m a) (hgs : ∀ a ∈ t.acts, AcG k t.acts.length cells a) (hk : k ≤ 24) (hal : t.acts.length ≤ 65536) (hi : i ≤ t.acts.length) (hls : ls.length = k) (hS : Sv m lv ls) (N : Nat) (hm : m.base ≤ m.n) :
    Dx.Call (ex Tryz.prog (N + 65543)) 17 [.agg ⟨stL t i lv⟩] m (NextP m t k ls lv (adv t.acts 100000 (mk0 i ls))) := by
  refine call_ret da8_ok (by simp) ?_
  obtain ⟨S, hSe⟩ : ∃ S, S = adv t.acts 100000 (mk0 i ls) := ⟨_, rfl⟩
  rw [← hSe]
  have okav : okC t.av = true := hav.okV
  have st1 := (St.nil hm (Ext.refl m)).row (stL t i lv)
  obtain ⟨m1, hm1⟩ : ∃ m1, m1 = Dx.newRow m (stL t i lv) := ⟨_, rfl⟩
  rw [← hm1] at st1
  have st2 := st1.row Z4
  obtain ⟨m2, hm2⟩ : ∃ m2, m2 = Dx.newRow m1 Z4 := ⟨_, rfl⟩
  rw [← hm2] at st2
  have st3 := st2.row Z6
  obtain ⟨m3, hm3⟩ : ∃ m3, m3 = Dx.newRow m2 Z6 := ⟨_, rfl⟩
  rw [← hm3] at st3
  have hlen : lenS t.av = some (.int .i64 (t.acts.length : Int)) := hav.len
  simp only [stL] at hm1
  -- the end
  have fin : ∀ {j : Nat} {lvj : Value} {lsj : List U} {D : List (Nat × List Value)} {mm : M} {w : Wt} (tt : Tm), St m mm ([(m2.n, Z6), (m1.n, Z4), (m.n, stL t j lvj)] ++ D) → LvD D k ls lv lsj lvj → lsj.length = k → okC lvj = true → S.at_ = j → S.ls = lsj → nextW t.acts S = w →
      ∃ m4, storeS 4 (.pointer (some ⟨m1.n, 0, none⟩)) (.agg ⟨stL t j lvj⟩) mm = some (undef, m4) ∧ ∃ m5, storeS 6 (.pointer (some ⟨m2.n, 0, none⟩)) (.agg ⟨wtL w⟩) m4 = some (undef, m5) ∧ ∀ tt, Tm.get 2 tt = .pointer (some ⟨m1.n, 0, none⟩) → Tm.get 3 tt = .pointer (some ⟨m2.n, 0, none⟩) → Ret m (NextP m t k ls lv S) (resK [.cell 2 4, .cell 3 6] tt m5) := by
    intro j lvj lsj D mm w tt hst hD hl okl h1 h2 h3
    obtain ⟨m4, a1, a2, a3, a4⟩ := hst.fill 1 rfl (n := 4) (l' := stL t j lvj) rfl rfl (stL_ok okav okl)
    obtain ⟨m5, b1, b2, b3, b4⟩ := a2.fill 0 rfl (n := 6) (l' := wtL w) rfl rfl (wtL_ok w)
    refine ⟨m4, a1, m5, b1, fun tt t2 t3 => ?_⟩
    have s5 : St m m5 ([(m2.n, wtL w), (m1.n, stL t j lvj), (m.n, stL t j lvj)] ++ D) := b2
    have q1 : loads m5 ⟨m1.n, 0, none⟩ 4 = some (stL t j lvj) := (s5.get 1 rfl).2.2.loads (n := 4) (by simp [stL])
    have q2 : loads m5 ⟨m2.n, 0, none⟩ 6 = some (wtL w) := (s5.get 0 rfl).2.2.loads (n := 6) (by simp [wtL])
    refine ret_of (l := [.agg ⟨stL t j lvj⟩, .agg ⟨wtL w⟩]) ?_ s5.ext ⟨lvj, by rw [h1, h3]; rfl, ?_⟩
    · simp only [resV, resOne, t2, t3, vPtr_ptr, ob_some', q1, q2]
    · rw [h2]
      rcases hD with ⟨rfl, rfl, rfl⟩ | ⟨B, c, rfl, rfl⟩
      · exact .inl ⟨rfl, rfl⟩
      · obtain ⟨g1, g2, g3⟩ := s5.arr (B, lsR lsj) (by simp)
        exact .inr ⟨B, c, rfl, g1, g2, g3, hl⟩
  simp [stL, ← hm1, ← hm2, ← hm3]
  refine loop_run (c := ca8_15) rfl (Ret m _) (fun j tt mm => ∃ ij lsj lvj D, St m mm ([(m2.n, Z6), (m1.n, Z4), (m.n, stL t ij lvj)] ++ D) ∧ LvD D k ls lv lsj lvj ∧ lsj.length = k ∧ ij ≤ t.acts.length ∧ S = adv t.acts (100000 - j) (mk0 ij lsj) ∧ okC lvj = true ∧ Tm.get 1 tt = .pointer (some ⟨m.n, 0, none⟩) ∧ Tm.get 2 tt = .pointer (some ⟨m1.n, 0, none⟩) ∧ Tm.get 3 tt = .pointer (some ⟨m2.n, 0, none⟩) ∧ Tm.get 4 tt = iv j) 100000 (by omega)
    ⟨i, ls, lv, [], st3, .inl ⟨rfl, rfl, rfl⟩, hls, hi, hSe, hS.ok, by simp, by simp, by simp, by simp⟩ (fun j tt mm k' hj hI hk' => ?_)
  obtain ⟨ij, lsj, lvj, D, hst, hD, hl, hij, hSj, okl, t1, t2, t3, t4⟩ := hI
  have lS : ∀ o s, load1 mm ⟨m.n, o, s⟩ = (stL t ij lvj)[o]? := fun o s => (hst.get 2 rfl).2.2.load1 o s
  have l4 : loads mm ⟨m.n, 0, none⟩ 4 = some (stL t ij lvj) := (hst.get 2 rfl).2.2.loads (n := 4) (by simp [stL])
  simp only [stL] at lS
  have SS := hst.sees
  have hSv := hD.sv (σ := [(m2.n, Z6), (m1.n, Z4), (m.n, stL t ij lvj)]) hst hS hl
  cases ha : t.acts[ij]? with
  | none =>
    have hge := List.getElem?_eq_none_iff.1 ha
    have de : decide (((ij : Nat) : Int) = ((t.acts.length : Nat) : Int)) = true := decide_eq_true (by omega)
    have de' : decide (ij = t.acts.length) = true := decide_eq_true (by omega)
    have hS2 : S = mk0 ij lsj := by rw [hSj]; exact adv_none _ ha
    have bh : buildV Z6 [(0, 1, .int .i64 5)] = some (.agg ⟨wtL wHalt⟩) := rfl
    obtain ⟨m4, f1, m5, f2, f3⟩ := fin (w := wHalt) tt hst hD hl okl (by rw [hS2]) (by rw [hS2]) (by rw [hS2]; unfold nextW; rw [ha])
    simp [t1, t2, t3, t4, lS, hlen, de, de', loadNS_ptr, l4, bh, f1, f2]
    exact f3 _ (by simp [t2]) (by simp [t3])
  | some a =>
    have hlt := (List.getElem?_eq_some_iff.1 ha).1
    have hmem := List.mem_of_getElem? ha
    have dne : decide (((ij : Nat) : Int) = ((t.acts.length : Nat) : Int)) = false := decide_eq_false (by omega)
    have dne' : decide (ij = t.acts.length) = false := decide_eq_false (by omega)
    have hA : At m t k t.acts.length cells ij a := ⟨hav, ha, hok a hmem, hgs a hmem⟩
    obtain ⟨v1, m4, c1, c2, rfl⟩ := Own_c (hA.sees SS) lvj (N + 65541) SS.self.base
    have st4 := hst.step c2
    have l44 : loads m4 ⟨m.n, 0, none⟩ 4 = some (stL t ij lvj) := (st4.get 2 rfl).2.2.loads (n := 4) (by simp [stL])
    have SS4 := st4.sees
    have hSv4 := hD.sv (σ := [(m2.n, Z6), (m1.n, Z4), (m.n, stL t ij lvj)]) st4 hS hl
    cases how : ownB a with
    | false =>
      rw [how] at c1
      have hS2 : S = mk0 ij lsj := by rw [hSj]; exact adv_want _ ha how
      obtain ⟨v2, m5', d1, d2, d3, rfl⟩ := any_call (Wants_c hc (hA.sees (sees_any SS4)) (hSv4.sees (sees_any (Sees.refl SS4.self.base))) hl how N (sees_any SS4).base)
      obtain ⟨m5, hm5⟩ : ∃ m5, m5 = behind m4 m5' := ⟨_, rfl⟩
      rw [← hm5] at d3
      have st5 := st4.step d3
      obtain ⟨w, hw⟩ : ∃ w, w = wantOf (mk0 ij lsj) a := ⟨_, rfl⟩
      rw [← hw] at d1
      obtain ⟨m6', a1, a2, a3, a4, a5⟩ := st5.fillAny 1 rfl (n := 4) (l' := stL t ij lvj) (by omega) rfl rfl (stL_ok okav okl)
      obtain ⟨m6, hm6⟩ : ∃ m6, m6 = behind m5 m6' := ⟨_, rfl⟩
      rw [← hm6] at a3
      obtain ⟨m7', b1, b2, b3, b4, b5⟩ := a3.fillAny 0 rfl (n := 6) (l' := wtL w) (by omega) rfl rfl (wtL_ok w)
      obtain ⟨m7, hm7⟩ : ∃ m7, m7 = behind m6 m7' := ⟨_, rfl⟩
      rw [← hm7] at b3
      have s7 : St m m7 ([(m2.n, wtL w), (m1.n, stL t ij lvj), (m.n, stL t ij lvj)] ++ D) := b3
      have q1 : loads m7 ⟨m1.n, 0, none⟩ 4 = some (stL t ij lvj) := (s7.get 1 rfl).2.2.loads (n := 4) (by simp [stL])
      have q2 : loads m7 ⟨m2.n, 0, none⟩ 6 = some (wtL w) := (s7.get 0 rfl).2.2.loads (n := 6) (by simp [wtL])
      simp only [stL] at l4 l44 c1 d1 a1
      simp [t1, t2, t3, t4, lS, hlen, dne, dne', loadNS_ptr, l4, c1, l44, d1, d2, ← hm5, a1, a2, ← hm6, b1, b2, ← hm7]
      refine ret_of (l := [.agg ⟨stL t ij lvj⟩, .agg ⟨wtL w⟩]) ?_ s7.ext ⟨lvj, by rw [hS2]; unfold nextW; rw [ha]; simp [how, hw], ?_⟩
      · simp [resV, resOne, t2, t3, q1, q2]
      · rw [hS2]
        rcases hD with ⟨rfl, rfl, rfl⟩ | ⟨B, c, rfl, rfl⟩
        · exact .inl ⟨rfl, rfl⟩
        · obtain ⟨g1, g2, g3⟩ := s7.arr (B, lsR lsj) (by simp)
          exact .inr ⟨B, c, rfl, g1, g2, g3, hl⟩
    | true =>
      rw [how] at c1
      by_cases hjl : j < 100000
      · have dj : decide ((j : Int) = 100000) = false := decide_eq_false (by omega)
        have dj' : decide (j = 100000) = false := decide_eq_false (by omega)
        have nj := nextI (i := j) (by omega)
        obtain ⟨v2, m5, d1, d2, lv2, rfl, d3⟩ := Alone_c (hA.sees SS4) hSv4 hl hk (by omega) how (N + 1) SS4.self.base
        obtain ⟨D2, hD2, st5, hl2⟩ := hD.next (σ := [(m2.n, Z6), (m1.n, Z4), (m.n, stL t ij lvj)]) st4 hl d2 d3
        obtain ⟨i2, hi2⟩ : ∃ i2, i2 = (ownS (mk0 ij lsj) a).at_ := ⟨_, rfl⟩
        rw [← hi2] at d1
        have okl2 : okC lv2 = true := (hD2.sv (σ := [(m2.n, Z6), (m1.n, Z4), (m.n, stL t ij lvj)]) st5 hS hl2).ok
        obtain ⟨m6, a1, a2, a3, a4⟩ := st5.fill 2 rfl (n := 4) (l' := stL t i2 lv2) rfl rfl (stL_ok okav okl2)
        have st6 : St m m6 ([(m2.n, Z6), (m1.n, Z4), (m.n, stL t i2 lv2)] ++ D2) := a2
        simp only [stL] at l4 l44 c1 d1 a1
        simp [t1, t2, t3, t4, lS, hlen, dne, dne', loadNS_ptr, l4, c1, l44, dj, dj', d1, a1, nj]
        refine hk' hjl _ _ ⟨i2, _, lv2, D2, st6, hD2, hl2, by rw [hi2]; exact own_at (hgs a hmem) how hlt, ?_, okl2, by simp [t1], by simp [t2], by simp [t3], by simp⟩
        have hown : ownS (mk0 ij lsj) a = mk0 i2 (ownS (mk0 ij lsj) a).ls := by
          rw [hi2]
          unfold ownS setS jumpS zeroS
          split
          · rfl
          · split <;> rfl
        rw [hSj, show 100000 - j = (100000 - (j + 1)) + 1 by omega, adv_own _ ha how, ← hown]
      · obtain rfl : j = 100000 := by omega
        rw [Nat.sub_self, adv_zero] at hSj
        have bf : buildV Z6 [(0, 1, .int .i64 6)] = some (.agg ⟨wtL wFuel⟩) := rfl
        obtain ⟨m5, f1, m6, f2, f3⟩ := fin (w := wFuel) tt st4 hD hl okl (by rw [hSj]) (by rw [hSj]) (by rw [hSj]; unfold nextW; rw [ha]; simp [how])
        simp only [stL] at l4 l44 c1 f1
        have t4' : Tm.get 4 tt = .int .i64 100000 := t4
        simp [t1, t2, t3, t4', lS, hlen, dne, dne', loadNS_ptr, l4, c1, l44, bf, f1, f2]
        exact f3 _ (by simp [t2]) (by simp [t3])
end
end Go.Sx
/- The law's same. -/
namespace Go.Sx
open Go.Dx Go.Proofs
set_option maxRecDepth 10000
theorem wt_eq (w : Wt) : eqFlat [1, 1, 1, 1, 0, 0] (wtL w) (wtL w) = some true := by
  unfold wtL
  rw [eqFlat_int, eqFlat_int, eqFlat_int, eqFlat_int]
  cases w.ex <;> rfl
section
variable {k : Nat} {cells : Int} {av : Value} {s : Ms} {Mb Lb : Nat} {m : M} {acts : List Ac} {t : Th} {i : Nat} {lv : Value}
/-- are a machine and a state alike? (They are.) -/
theorem same_c [Cdf] (hc : cells ≤ 4096) (hE : Env m Mb Lb av acts) (hgs : ∀ a ∈ acts, AcG k acts.length cells a) (hal : acts.length ≤ 65536) (hat : s.at_ ≤ acts.length) (hk : k ≤ 24) (hne : Mb ≠ Lb) (hM : MsAt m Mb Lb k av s) (hS : Sv m lv s.ls) {w : Wt} (hw : w = (nextMs acts s).now) (hnl : (nextMs acts s).ls.length = k) (N : Nat) (hm : m.base ≤ m.n) :
    WrC (ex Tryz.prog (N + 7)) 19 [mP Mb, .agg ⟨stL t i lv⟩, .agg ⟨wtL w⟩] m Mb Lb k av (nextMs acts s) (.bool true) := by
  refine call_fin (Q := fun v m' => Mc m m' [Mb, Lb] ∧ MsAt m' Mb Lb k av (nextMs acts s) ∧ v = .bool true) db0_ok (by simp) ?_
  have st1 := (St.nil hm (Ext.refl m)).row (stL t i lv)
  obtain ⟨m1, hm1⟩ : ∃ m1, m1 = Dx.newRow m (stL t i lv) := ⟨_, rfl⟩
  rw [← hm1] at st1
  have st2 := st1.row (wtL w)
  obtain ⟨m2, hm2⟩ : ∃ m2, m2 = Dx.newRow m1 (wtL w) := ⟨_, rfl⟩
  rw [← hm2] at st2
  simp only [stL] at hm1
  obtain ⟨v3, m3, c1, c2, B, c', rfl, h1, h2, h3⟩ := Locals_c hk (hM.ext st2.ext) (N + 4) st2.sees.self.base
  have st3 := (st2.step c2).add (by have := st2.ext.n; omega) h2 h3 (fun p hp => by have := (st2.arr p hp).2.1; omega)
  have l3 : ∀ o s', load1 m3 ⟨m.n, o, s'⟩ = (stL t i lv)[o]? := fun o s' => (st3.get 2 rfl).2.2.load1 o s'
  simp only [stL] at l3
  obtain ⟨v, hv⟩ : ∃ v : Value, v = .slice (some ⟨B, 0, some c'⟩) k k := ⟨_, rfl⟩
  rw [← hv] at c1
  have hvr : Rd m3 v 1 wordRow s.ls := by
    have h3' := h3
    rw [← lsR_flat] at h3'
    have := rd_made (c := c') (f := wordRow) (fun _ => rfl) h3' h2
    rw [hM.len] at this
    rw [hv]; exact this
  obtain ⟨v4, m4, d1, d2, rfl⟩ := Numbers_eq s.ls (by rw [hM.len]; omega) v lv (N + 5) m3 st3.sees.self.base hvr (hS.rd.sees st3.sees)
  have st4 := st3.step d2
  have hvl : lenS v = some (.int .i64 (k : Int)) := by rw [hv]; rfl
  simp [stL, ← hm1, ← hm2, c1, l3, d1]
  refine loop_run (c := cb0_9) rfl (FinR _) (fun j tt mm => ∃ L : List Value, L.length = k ∧ St m mm [(B, L), (m1.n, wtL w), (m.n, stL t i lv)] ∧ Tm.get 0 tt = mP Mb ∧ Tm.get 5 tt = .pointer (some ⟨m1.n, 0, none⟩) ∧ Tm.get 7 tt = v ∧ Tm.get 8 tt = iv j) k (by omega)
    ⟨lsR s.ls, by rw [lsR_len]; exact hM.len, st4, by simp, by simp, by simp, by simp⟩ (fun j tt mm k' hj hI hk' => ?_)
  obtain ⟨L, hL, hs, t0, t5, t7, t8⟩ := hI
  by_cases hjl : j < k
  · have hd := dlt hjl
    have hd' : (j < k) = True := eq_true hjl
    have nj := nextI (i := j) (by omega)
    have ia : iaddrSV 1 v (iv j) = some (.pointer (some ⟨B, j, none⟩)) := by
      rw [hv]
      show (bif Nat.blt j k then _ else _) = _
      rw [show Nat.blt j k = true from Nat.ble_eq_true_of_le hjl]
      simp [addA]
    obtain ⟨m5, e1, e2, e3, e4⟩ := hs.store 0 rfl (o := j) (v := .int .u64 99) (by omega) rfl
    simp [t7, t8, hvl, hd, hd', ia, e1, nj]
    exact hk' hjl _ _ ⟨_, by rw [List.length_set]; exact hL, e2, by simp [t0], by simp [t5], by simp [t7], by simp⟩
  · obtain rfl : j = k := by omega
    have hd : ((j : Int) < (j : Int)) = False := eq_false (by omega)
    have hmb : mm.base ≤ mm.n := hs.sees.self.base
    have hEm : Env mm Mb Lb av acts := hE.ext hs.ext
    obtain ⟨v6, m6', f1, f2, f3, rfl⟩ := nextF_c hc (hEm.any hmb) hgs hal hat (N + 0) (sees_any (Sees.refl hmb)).base hne (hM.ext hs.ext).any
    obtain ⟨m6, hm6⟩ : ∃ m6, m6 = behind mm m6' := ⟨_, rfl⟩
    have f2' := f2.behind
    rw [← hm6] at f2'
    have f3' : MsAt m6 Mb Lb j av (nextMs acts s) := f3.congr (by rw [hm6, behind_n]; exact Nat.le_refl _) (by rw [hm6, behind_obj]) (by rw [hm6, behind_obj])
    have hnl' : m1.n ∉ [Mb, Lb] := by
      have q1 := hM.mb
      have q2 := hM.lb
      have q3 := st1.ext.n
      simp; omega
    have hlog : m1.n ∉ m6'.log := fun hh => by
      rcases f2.log _ hh with h' | h'
      · rw [forAny_log] at h'; cases h'
      · exact hnl' h'
    have l5 : loads m6 ⟨m1.n, 0, none⟩ 6 = some (wtL w) := by
      have hA := (hs.get 1 rfl).2.2
      have hA6 : Arr m6 m1.n (wtL w) := hA.congr (f2'.obj _ (hs.get 1 rfl).2.1 hnl')
      exact hA6.loads (n := 6) (by simp [wtL])
    have he := wt_eq w
    rw [← hw] at f1
    have hmeet := meet_log hlog none
    simp [t0, t5, t7, t8, hvl, hd, f1, ← hm6, loadNS_ptr, l5, he, hmeet]
    exact fin_1 ⟨hs.ext.mc.trans f2', f3', by simp⟩
end
end Go.Sx
/- Blocks by their kinds: what Copy made, whatever has been written into it by kind. -/
namespace Go.Dx
theorem over_at : ∀ (vs l : List Value) (o i : Nat), (i < o ∨ o + vs.length ≤ i) → (over l o vs)[i]? = l[i]?
  | [], _, _, _, _ => rfl
  | v :: vs, l, o, i, h => by
    simp only [List.length_cons] at h
    show (over (l.set o v) (o + 1) vs)[i]? = _
    rw [over_at vs (l.set o v) (o + 1) i (by omega), List.getElem?_set_ne (by omega)]
theorem over_in : ∀ (vs l : List Value) (o j : Nat), j < vs.length → o + vs.length ≤ l.length → (over l o vs)[o + j]? = vs[j]?
  | [], _, _, _, h, _ => absurd h (Nat.not_lt_zero _)
  | v :: vs, l, o, 0, h, hl => by
    simp only [List.length_cons] at hl
    show (over (l.set o v) (o + 1) vs)[o]? = _
    rw [over_at vs _ _ _ (by omega)]
    simp [show o < l.length by omega]
  | v :: vs, l, o, j + 1, h, hl => by
    simp only [List.length_cons] at hl h
    show (over (l.set o v) (o + 1) vs)[o + (j + 1)]? = _
    rw [show o + (j + 1) = o + 1 + j by omega, over_in vs (l.set o v) (o + 1) j (by omega) (by rw [List.length_set]; omega)]
    simp
end Go.Dx
namespace Go.Sx
open Go.Dx Go.Proofs
set_option maxRecDepth 10000
abbrev Bl := List (Nat × List Value)
def AcB (a : Ac) : Prop := a.ixs.length ≤ 9223372036854775807 ∧ a.es.length ≤ 9223372036854775807 ∧ a.fs.length ≤ 9223372036854775807
def ThB (t : Th) : Prop := t.acts.length ≤ 9223372036854775807 ∧ ∀ a ∈ t.acts, AcB a
def kN (D : Bl) (B n : Nat) : Prop := ∃ es : List Nd, es.length = n ∧ es.length ≤ 9223372036854775807 ∧ (B, es.flatMap nodeRow) ∈ D
def kA (D : Bl) (B n : Nat) : Prop := ∃ xs : List Ac, xs.length = n ∧ xs.length ≤ 9223372036854775807 ∧ (B, xs.flatMap acRow) ∈ D ∧ ∀ a ∈ xs, AcIn D a ∧ AcB a
def kT (D : Bl) (B n : Nat) : Prop := ∃ ts : List Th, ts.length = n ∧ ts.length ≤ 9223372036854775807 ∧ (B, ts.flatMap thRow) ∈ D ∧ ∀ t ∈ ts, ThIn D t ∧ ThB t
def vN (D : Bl) (v : Value) : Prop := v = .slice none 0 0 ∨ ∃ B c n, v = .slice (some ⟨B, 0, some c⟩) n n ∧ kN D B n
def vA (D : Bl) (v : Value) : Prop := v = .slice none 0 0 ∨ ∃ B c n, v = .slice (some ⟨B, 0, some c⟩) n n ∧ kA D B n
def vT (D : Bl) (v : Value) : Prop := v = .slice none 0 0 ∨ ∃ B c n, v = .slice (some ⟨B, 0, some c⟩) n n ∧ kT D B n
theorem NdIn.v {D : Bl} {v : Value} {es : List Nd} (h : NdIn D v es) (hl : es.length ≤ 9223372036854775807) : vN D v := let ⟨B, c, h1, h2⟩ := h; .inr ⟨B, c, _, h1, es, rfl, hl, h2⟩
theorem ThIn.v {D : Bl} {t : Th} (h : ThIn D t) (hl : ThB t) : vA D t.av := by
  rcases h.av with ⟨_, h2⟩ | ⟨B, c, h1, h2⟩
  · exact .inl h2
  · exact .inr ⟨B, c, _, h1, t.acts, rfl, hl.1, h2, fun a ha => ⟨h.acts a ha, hl.2 a ha⟩⟩
theorem PgIn.v {D : Bl} {p : Pg} (h : PgIn D p) {m : M} (ho : PgOK m p) : vT D p.tv := by
  rcases h.tv with ⟨_, h2⟩ | ⟨B, c, h1, h2⟩
  · exact .inl h2
  · exact .inr ⟨B, c, _, h1, p.ths, rfl, ho.len, h2, fun t ht => ⟨h.ths t ht, (ho.ths t ht).len, fun a ha => let h := (ho.ths t ht).acts a ha; ⟨h.ixl, h.evl, h.fvl⟩⟩⟩
/-- a block's cells are of its kind -/
structure Ty (D : Bl) (p : Nat × List Value) : Prop where
  n : ∀ n, kN D p.1 n → p.2.length = n * 4
  al : ∀ n, kA D p.1 n → p.2.length = n * 11
  tl : ∀ n, kT D p.1 n → p.2.length = n * 2
  a : ∀ n, kA D p.1 n → ∀ i f v, 4 ≤ f → f ≤ 6 → p.2[i * 11 + f]? = some v → vN D v
  t : ∀ n, kT D p.1 n → ∀ i v, p.2[i * 2 + 1]? = some v → vA D v
  ok : ∀ n, kA D p.1 n → ∀ v ∈ p.2, okC v = true
theorem uniD {D : Bl} (hn : (D.map (·.1)).Nodup) {B : Nat} {l l' : List Value} (h : (B, l) ∈ D) (h' : (B, l') ∈ D) : l = l' := by
  obtain ⟨i, hi⟩ := List.getElem?_of_mem h
  obtain ⟨j, hj⟩ := List.getElem?_of_mem h'
  have := nodup_at hn hi hj rfl
  subst this
  rw [hi] at hj; cases hj; rfl
theorem row_at {α : Type} {e : Nat} {f : α → List Value} (hf : ∀ x, (f x).length = e) (xs : List α) {i j : Nat} (hj : j < e) {v : Value} (h : (xs.flatMap f)[i * e + j]? = some v) : ∃ x ∈ xs, (f x)[j]? = some v := by
  have hlt := (List.getElem?_eq_some_iff.1 h).1
  rw [flatMap_len hf] at hlt
  have hi : i < xs.length := by
    rcases Nat.lt_or_ge i xs.length with h' | h'
    · exact h'
    · have := Nat.mul_le_mul_right e h'; omega
  have hx : xs[i]? = some xs[i] := List.getElem?_eq_getElem hi
  refine ⟨xs[i], List.getElem_mem hi, ?_⟩
  rw [← flatMap_get hf xs i _ hx, List.getElem?_take_of_lt hj, List.getElem?_drop]
  exact h
/-- no block is of two kinds -/
theorem noNA {D : Bl} (hn : (D.map (·.1)).Nodup) {B n k : Nat} (h : kN D B n) (h' : kA D B k) : n = 0 := by
  obtain ⟨es, rfl, _, h1⟩ := h
  obtain ⟨xs, rfl, _, h2, _⟩ := h'
  have e := uniD hn h1 h2
  cases es with
  | nil => rfl
  | cons x es =>
    cases xs with
    | nil => simp [nodeRow] at e
    | cons y ys => simp [nodeRow, acRow] at e
theorem noNT {D : Bl} (hn : (D.map (·.1)).Nodup) {B n k : Nat} (h : kN D B n) (h' : kT D B k) : n = 0 := by
  obtain ⟨es, rfl, _, h1⟩ := h
  obtain ⟨xs, rfl, _, h2, h3⟩ := h'
  have e := uniD hn h1 h2
  cases es with
  | nil => rfl
  | cons x es =>
    cases xs with
    | nil => simp [nodeRow] at e
    | cons y ys =>
      simp [nodeRow, thRow] at e
      rcases (h3 y (List.mem_cons_self ..)).1.v (h3 y (List.mem_cons_self ..)).2 with q | ⟨_, _, _, q, _⟩ <;> rw [q] at e <;> simp at e
theorem noAT {D : Bl} (hn : (D.map (·.1)).Nodup) {B n k : Nat} (h : kA D B n) (h' : kT D B k) : n = 0 := by
  obtain ⟨es, rfl, _, h1, _⟩ := h
  obtain ⟨xs, rfl, _, h2, h3⟩ := h'
  have e := uniD hn h1 h2
  cases es with
  | nil => rfl
  | cons x es =>
    cases xs with
    | nil => simp [acRow] at e
    | cons y ys =>
      simp [acRow, thRow] at e
      rcases (h3 y (List.mem_cons_self ..)).1.v (h3 y (List.mem_cons_self ..)).2 with q | ⟨_, _, _, q, _⟩ <;> rw [q] at e <;> simp at e
theorem Ty.start {D : Bl} (hn : (D.map (·.1)).Nodup) {p : Nat × List Value} (hp : p ∈ D) : Ty D p := by
  obtain ⟨B, l⟩ := p
  refine ⟨fun n h => ?_, fun n h => ?_, fun n h => ?_, fun n h i f v h4 h6 hv => ?_, fun n h i v hv => ?_, fun n h v hv => ?_⟩
  · obtain ⟨es, rfl, _, h1⟩ := h
    show l.length = _
    rw [uniD hn hp h1, flatMap_len (f := nodeRow) (e := 4) (fun _ => rfl)]
  · obtain ⟨es, rfl, _, h1, _⟩ := h
    show l.length = _
    rw [uniD hn hp h1, flatMap_len acRow_len]
  · obtain ⟨es, rfl, _, h1, _⟩ := h
    show l.length = _
    rw [uniD hn hp h1, flatMap_len (f := thRow) (e := 2) (fun _ => rfl)]
  · obtain ⟨es, rfl, _, h1, h2⟩ := h
    have hv' : l[i * 11 + f]? = some v := hv
    rw [uniD hn hp h1] at hv'
    obtain ⟨x, hx, hxv⟩ := row_at acRow_len es (by omega) hv'
    obtain ⟨hi, b1, b2, b3⟩ := h2 x hx
    obtain rfl | rfl | rfl : f = 4 ∨ f = 5 ∨ f = 6 := by omega
    · simp [acRow] at hxv; rw [← hxv]; exact hi.ix.v b1
    · simp [acRow] at hxv; rw [← hxv]; exact hi.ev.v b2
    · simp [acRow] at hxv; rw [← hxv]; exact hi.fv.v b3
  · obtain ⟨es, rfl, _, h1, h2⟩ := h
    have hv' : l[i * 2 + 1]? = some v := hv
    rw [uniD hn hp h1] at hv'
    obtain ⟨x, hx, hxv⟩ := row_at (f := thRow) (e := 2) (fun _ => rfl) es (by omega) hv'
    simp [thRow] at hxv; rw [← hxv]; exact (h2 x hx).1.v (h2 x hx).2
  · obtain ⟨es, rfl, _, h1, h2⟩ := h
    have hv' : v ∈ l := hv
    rw [uniD hn hp h1] at hv'
    obtain ⟨x, hx, hxv⟩ := List.mem_flatMap.1 hv'
    have hi := (h2 x hx).1
    obtain ⟨_, _, e1, _⟩ := hi.ix
    obtain ⟨_, _, e2, _⟩ := hi.ev
    obtain ⟨_, _, e3, _⟩ := hi.fv
    simp only [acRow, e1, e2, e3, List.mem_cons, List.not_mem_nil, or_false] at hxv
    rcases hxv with rfl | rfl | rfl | rfl | rfl | rfl | rfl | rfl | rfl | rfl | rfl <;> rfl
theorem over_mem {vs l : List Value} {o : Nat} {v : Value} (h : v ∈ over l o vs) (hl : o + vs.length ≤ l.length) : v ∈ vs ∨ v ∈ l := by
  obtain ⟨i, hi⟩ := List.getElem?_of_mem h
  by_cases hc : i < o ∨ o + vs.length ≤ i
  · rw [over_at vs l o i hc] at hi; exact .inr (List.mem_of_getElem? hi)
  · obtain ⟨j, rfl⟩ : ∃ j, i = o + j := ⟨i - o, by omega⟩
    rw [over_in vs l o j (by omega) hl] at hi; exact .inl (List.mem_of_getElem? hi)
abbrev nd99 : List Value := [.int .i64 99, .int .u64 0, .int .i64 0, .int .i64 0]
abbrev ac99 : List Value := [.int .i64 99, .int .i64 0, .int .i64 0, .int .i64 0, .slice none 0 0, .slice none 0 0, .slice none 0 0, .int .i64 0, .int .i64 0, .int .i64 0, .int .i64 0]
abbrev th99 : List Value := [.int .i64 99, .slice none 0 0]
theorem Ty.putN {D : Bl} (hn : (D.map (·.1)).Nodup) {B n i : Nat} {l : List Value} (hk : kN D B n) (hi : i < n) (h : Ty D (B, l)) : Ty D (B, over l (i * 4) nd99) := by
  have hl : l.length = n * 4 := h.n n hk
  refine ⟨fun k h' => (over_length nd99 l _).trans (h.n k h'), fun k h' => (over_length nd99 l _).trans (h.al k h'), fun k h' => (over_length nd99 l _).trans (h.tl k h'), fun k h' => ?_, fun k h' => ?_, fun k h' => ?_⟩
  · exact absurd (noNA hn hk h') (by omega)
  · exact absurd (noNT hn hk h') (by omega)
  · exact absurd (noNA hn hk h') (by omega)
theorem Ty.putA {D : Bl} (hn : (D.map (·.1)).Nodup) {B n i : Nat} {l : List Value} (hk : kA D B n) (hi : i < n) (h : Ty D (B, l)) : Ty D (B, over l (i * 11) ac99) := by
  have hl : l.length = n * 11 := h.al n hk
  refine ⟨fun k h' => (over_length ac99 l _).trans (h.n k h'), fun k h' => (over_length ac99 l _).trans (h.al k h'), fun k h' => (over_length ac99 l _).trans (h.tl k h'), fun k h' q f v h4 h6 hv => ?_, fun k h' => ?_, fun k h'' v hv => ?_⟩
  · by_cases hq : q = i
    · subst hq
      have hv' : (over l (q * 11) ac99)[q * 11 + f]? = some v := hv
      rw [over_in ac99 l (q * 11) f (by simp; omega) (by simp; omega)] at hv'
      obtain rfl | rfl | rfl : f = 4 ∨ f = 5 ∨ f = 6 := by omega
      all_goals simp at hv'; exact .inl hv'.symm
    · refine h.a k h' q f v h4 h6 ?_
      have hv' : (over l (i * 11) ac99)[q * 11 + f]? = some v := hv
      rwa [over_at ac99 l (i * 11) _ (by simp; omega)] at hv'
  · exact absurd (noAT hn hk h') (by omega)
  · rcases over_mem (o := i * 11) hv (by simp; omega) with h' | h'
    · simp only [List.mem_cons, List.not_mem_nil, or_false] at h'
      rcases h' with rfl | rfl | rfl | rfl | rfl | rfl | rfl | rfl | rfl | rfl | rfl <;> rfl
    · exact h.ok k h'' v h'
theorem Ty.putT {D : Bl} (hn : (D.map (·.1)).Nodup) {B n i : Nat} {l : List Value} (hk : kT D B n) (hi : i < n) (h : Ty D (B, l)) : Ty D (B, over l (i * 2) th99) := by
  have hl : l.length = n * 2 := h.tl n hk
  have hnN : ∀ k, kN D B k → k = 0 := fun k h' => noNT hn h' hk
  refine ⟨fun k h' => (over_length th99 l _).trans (h.n k h'), fun k h' => (over_length th99 l _).trans (h.al k h'), fun k h' => (over_length th99 l _).trans (h.tl k h'), fun k h' => ?_, fun k h' q v hv => ?_, fun k h' => ?_⟩
  · have h0 := noAT hn h' hk
    subst h0
    have hl2 : l.length = 0 * 11 := h.al 0 h'
    omega
  · by_cases hq : q = i
    · subst hq
      have hv' : (over l (q * 2) th99)[q * 2 + 1]? = some v := hv
      rw [over_in th99 l (q * 2) 1 (by simp) (by simp; omega)] at hv'
      simp at hv'; exact .inl hv'.symm
    · refine h.t k h' q v ?_
      have hv' : (over l (i * 2) th99)[q * 2 + 1]? = some v := hv
      rwa [over_at th99 l (i * 2) _ (by simp; omega)] at hv'
  · have h0 := noAT hn h' hk
    subst h0
    have hl2 : l.length = 0 * 11 := h.al 0 h'
    omega
/-- own blocks, and Copy's by their kinds -/
structure SI (m0 m : M) (D own : Bl) : Prop where
  nd : (D.map (·.1)).Nodup
  ex : ∃ σ : Bl, Ow m0 m (D.map (·.1)) (own ++ σ) ∧ σ.map (·.1) = D.map (·.1) ∧ ∀ p ∈ σ, Ty D p
section
variable {m0 m m' : M} {D own : Bl}
theorem SI.row (h : SI m0 m D own) (l : List Value) : SI m0 (Dx.newRow m l) D ((m.n, l) :: own) := by
  obtain ⟨σ, h1, h2, h3⟩ := h.ex
  exact ⟨h.nd, σ, h1.row l, h2, h3⟩
theorem SI.drop {x : Nat × List Value} (h : SI m0 m D (x :: own)) : SI m0 m D own := by
  obtain ⟨σ, h1, h2, h3⟩ := h.ex
  exact ⟨h.nd, σ, h1.sub (fun p hp => List.mem_cons_of_mem _ hp) (by have := h1.nd; simp only [List.cons_append, List.map_cons, List.nodup_cons] at this; exact this.2), h2, h3⟩
theorem SI.get (h : SI m0 m D own) (k : Nat) {B : Nat} {l : List Value} (hk : own[k]? = some (B, l)) : Arr m B l := by
  obtain ⟨σ, h1, h2, h3⟩ := h.ex
  exact (h1.get k (by rw [List.getElem?_append_left (List.getElem?_eq_some_iff.1 hk).1]; exact hk)).2.2
theorem SI.fill (h : SI m0 m D own) (k : Nat) {B n : Nat} {l l' : List Value} (hk : own[k]? = some (B, l)) (hn0 : 0 < n) (hl : l.length = n) (hl' : l'.length = n) (hv : ∀ v ∈ l', okC v = true) :
    ∃ m', storeS n (.pointer (some ⟨B, 0, none⟩)) (.agg ⟨l'⟩) m = some (undef, m') ∧ SI m0 m' D (own.set k (B, l')) ∧ ∀ X, X ≠ B → m'.obj X = m.obj X := by
  obtain ⟨σ, h1, h2, h3⟩ := h.ex
  have hkl := (List.getElem?_eq_some_iff.1 hk).1
  obtain ⟨m', a1, a2, a3, a4⟩ := h1.storeN (k := k) (B := B) (l := l) (o := 0) (l' := l') (n := n) (by rw [List.getElem?_append_left hkl]; exact hk) hn0 hl' (by omega) hv
  refine ⟨m', a1, ⟨h.nd, σ, ?_, h2, h3⟩, a4⟩
  rw [List.set_append, if_pos hkl, over_fill (by omega)] at a2
  exact a2
/-- what lies in a block of Copy's -/
theorem SI.at (h : SI m0 m D own) {B : Nat} {l0 : List Value} (hB : (B, l0) ∈ D) : ∃ l, Arr m B l ∧ Ty D (B, l) ∧ ∀ o n l', 0 < n → l'.length = n → o + n ≤ l.length → (∀ v ∈ l', okC v = true) → Ty D (B, over l o l') →
    ∃ m', storeS n (.pointer (some ⟨B, o, none⟩)) (.agg ⟨l'⟩) m = some (undef, m') ∧ SI m0 m' D own ∧ ∀ X, X ≠ B → m'.obj X = m.obj X := by
  obtain ⟨σ, h1, h2, h3⟩ := h.ex
  have hm : B ∈ σ.map (·.1) := by rw [h2]; exact List.mem_map.2 ⟨_, hB, rfl⟩
  obtain ⟨p, hp, rfl⟩ := List.mem_map.1 hm
  obtain ⟨k, hk⟩ := List.getElem?_of_mem hp
  have hk' : (own ++ σ)[own.length + k]? = some (p.1, p.2) := by rw [List.getElem?_append_right (by omega)]; simpa using hk
  refine ⟨p.2, (h1.get _ hk').2.2, h3 p hp, fun o n l' hn0 hl' hn hv hty => ?_⟩
  obtain ⟨m', a1, a2, a3, a4⟩ := h1.storeN _ hk' hn0 hl' hn hv
  rw [List.set_append, if_neg (by omega), Nat.add_sub_cancel_left] at a2
  refine ⟨m', a1, ⟨h.nd, _, a2, ?_, fun q hq => ?_⟩, a4⟩
  · rw [List.map_set, ← h2]
    refine List.ext_getElem (by simp) fun i h1 h2 => ?_
    rw [List.getElem_set]
    split
    · subst_vars
      have := (List.getElem?_eq_some_iff.1 hk).2
      simp [this]
    · rfl
  · rcases List.mem_or_eq_of_mem_set hq with hq | rfl
    · exact h3 q hq
    · exact hty
theorem SI.lt (h : SI m0 m D own) {B : Nat} {l0 : List Value} (hB : (B, l0) ∈ D) : B < m.n := by
  obtain ⟨σ, h1, h2, h3⟩ := h.ex
  have hm : B ∈ σ.map (·.1) := by rw [h2]; exact List.mem_map.2 ⟨_, hB, rfl⟩
  obtain ⟨p, hp, rfl⟩ := List.mem_map.1 hm
  exact (h1.arr p (List.mem_append_right _ hp)).2.1
/-- the threads' blocks have stayed -/
def TK (D : Bl) (m m' : M) : Prop := ∀ X n, kT D X n → 0 < n → m'.obj X = m.obj X
theorem TK.trans {a b c : M} (h : TK D a b) (k : TK D b c) : TK D a c := fun X n hX hn => (k X n hX hn).trans (h X n hX hn)
theorem SI.tkRow (h : SI m0 m D own) (l : List Value) : TK D m (Dx.newRow m l) := fun X n ⟨_, _, _, hD, _⟩ _ => (Ext.row m l).obj X (h.lt hD)
theorem SI.start (hb : m.base ≤ m.n) (hn : (D.map (·.1)).Nodup) (hD : ∀ p ∈ D, p.1 < m.n ∧ Arr m p.1 p.2)   : SI m m D [] :=
  ⟨hn, D, Ow.start hb (fun p hp => ⟨List.mem_map.2 ⟨p, hp, rfl⟩, hD p hp⟩) hn, rfl, fun p hp => Ty.start hn hp⟩
theorem SI.mc (h : SI m0 m D own) : Mc m0 m (D.map (·.1)) := h.ex.choose_spec.1.mc
end
end Go.Sx
/- The reference's Spoil. -/
namespace Go.Sx
open Go.Dx Go.Proofs
set_option maxRecDepth 10000
structure ST (t : Tm) (T1 i j T4 : Nat) : Prop where
  t1 : Tm.get 1 t = .pointer (some ⟨T1, 0, none⟩)
  t2 : Tm.get 2 t = iv i
  t3 : Tm.get 3 t = iv j
  t4 : Tm.get 4 t = .pointer (some ⟨T4, 0, none⟩)
section
variable {m0 m : M} {D own : Bl} {T1 T4 i j : Nat} {tm : Tm}
theorem spoil5 {R : List Value} {v : Value} (hR : R[5]? = some v) (hv : vN D v) (h : SI m0 m D ((T4, R) :: own)) (hT : ST tm T1 i j T4) {x : Ex} {kn kr : K} {ke : Nat → K} {Q : Option Out → Prop}
    (H : ∀ t' m', ST t' T1 i j T4 → SI m0 m' D ((T4, R) :: own) → TK D m m' → Q (kn t' m')) : Q (ca6_12 x kn ke kr tm m) := by
  obtain ⟨t1, t2, t3, t4⟩ := hT
  simp
  have l0 : ∀ m', SI m0 m' D ((T4, R) :: own) → ∀ s, load1 m' ⟨T4, 5, s⟩ = some v := fun m' h s => by rw [(h.get 0 rfl).load1]; exact hR
  rcases hv with rfl | ⟨B, c, n, rfl, hk⟩
  · refine loop_run (c := ca6_10) rfl Q (fun q t m' => ST t T1 i j T4 ∧ SI m0 m' D ((T4, R) :: own) ∧ TK D m m' ∧ Tm.get 5 t = iv q) 0 (by omega)
      ⟨⟨by simp [t1], by simp [t2], by simp [t3], by simp [t4]⟩, h, fun _ _ _ _ => rfl, by simp⟩ (fun q t m' k hq hI hkk => ?_)
    obtain ⟨hT', hs, hTK, tq⟩ := hI
    obtain ⟨u1, u2, u3, u4⟩ := hT'
    obtain rfl : q = 0 := by omega
    simp [u4, tq, l0 m' hs, lenS]
    exact H _ _ ⟨by simp [u1], by simp [u2], by simp [u3], by simp [u4]⟩ hs hTK
  · obtain ⟨es, hel, hen, heD⟩ := id hk
    have hlen : lenS (.slice (some ⟨B, 0, some c⟩) n n) = some (.int .i64 (n : Int)) := rfl
    refine loop_run (c := ca6_10) rfl Q (fun q t m' => ST t T1 i j T4 ∧ SI m0 m' D ((T4, R) :: own) ∧ TK D m m' ∧ Tm.get 5 t = iv q) n (by omega)
      ⟨⟨by simp [t1], by simp [t2], by simp [t3], by simp [t4]⟩, h, fun _ _ _ _ => rfl, by simp⟩ (fun q t m' k hq hI hkk => ?_)
    obtain ⟨hT', hs, hTK, tq⟩ := hI
    obtain ⟨u1, u2, u3, u4⟩ := hT'
    by_cases hqn : q < n
    · have hd := dlt hqn
      have hd' : (q < n) = True := eq_true hqn
      have nq := nextI (i := q) (by omega)
      have ia := idxE (e := 4) (c := c) B n q hqn
      have bb : buildV [.int .i64 0, .int .u64 0, .int .i64 0, .int .i64 0] [(0, 1, .int .i64 99)] = some (.agg ⟨nd99⟩) := rfl
      obtain ⟨l, hA, hTy, hst⟩ := hs.at heD
      have hl : l.length = n * 4 := hTy.n n hk
      obtain ⟨m2, s1, s2, s3⟩ := hst (q * 4) 4 nd99 (by omega) rfl (by omega) (by simp [okC]) (hTy.putN hs.nd hk hqn)
      simp [u4, tq, l0 m' hs, hlen, hd, hd', ia, bb, s1, nq]
      exact hkk hqn _ _ ⟨⟨by simp [u1], by simp [u2], by simp [u3], by simp [u4]⟩, s2, hTK.trans fun X k hX hk0 => s3 X (fun e => by subst e; have := noNT hs.nd hk hX; omega), by simp⟩
    · obtain rfl : q = n := by omega
      have hd : ((q : Int) < (q : Int)) = False := eq_false (by omega)
      simp [u4, tq, l0 m' hs, hlen, hd]
      exact H _ _ ⟨by simp [u1], by simp [u2], by simp [u3], by simp [u4]⟩ hs hTK
theorem spoil6 {R : List Value} {v : Value} (hR : R[6]? = some v) (hv : vN D v) (h : SI m0 m D ((T4, R) :: own)) (hT : ST tm T1 i j T4) {x : Ex} {kn kr : K} {ke : Nat → K} {Q : Option Out → Prop}
    (H : ∀ t' m', ST t' T1 i j T4 → SI m0 m' D ((T4, R) :: own) → TK D m m' → Q (kn t' m')) : Q (ca6_20 x kn ke kr tm m) := by
  obtain ⟨t1, t2, t3, t4⟩ := hT
  simp
  have l0 : ∀ m', SI m0 m' D ((T4, R) :: own) → ∀ s, load1 m' ⟨T4, 6, s⟩ = some v := fun m' h s => by rw [(h.get 0 rfl).load1]; exact hR
  rcases hv with rfl | ⟨B, c, n, rfl, hk⟩
  · refine loop_run (c := ca6_18) rfl Q (fun q t m' => ST t T1 i j T4 ∧ SI m0 m' D ((T4, R) :: own) ∧ TK D m m' ∧ Tm.get 6 t = iv q) 0 (by omega)
      ⟨⟨by simp [t1], by simp [t2], by simp [t3], by simp [t4]⟩, h, fun _ _ _ _ => rfl, by simp⟩ (fun q t m' k hq hI hkk => ?_)
    obtain ⟨hT', hs, hTK, tq⟩ := hI
    obtain ⟨u1, u2, u3, u4⟩ := hT'
    obtain rfl : q = 0 := by omega
    simp [u4, tq, l0 m' hs, lenS]
    exact H _ _ ⟨by simp [u1], by simp [u2], by simp [u3], by simp [u4]⟩ hs hTK
  · obtain ⟨es, hel, hen, heD⟩ := id hk
    have hlen : lenS (.slice (some ⟨B, 0, some c⟩) n n) = some (.int .i64 (n : Int)) := rfl
    refine loop_run (c := ca6_18) rfl Q (fun q t m' => ST t T1 i j T4 ∧ SI m0 m' D ((T4, R) :: own) ∧ TK D m m' ∧ Tm.get 6 t = iv q) n (by omega)
      ⟨⟨by simp [t1], by simp [t2], by simp [t3], by simp [t4]⟩, h, fun _ _ _ _ => rfl, by simp⟩ (fun q t m' k hq hI hkk => ?_)
    obtain ⟨hT', hs, hTK, tq⟩ := hI
    obtain ⟨u1, u2, u3, u4⟩ := hT'
    by_cases hqn : q < n
    · have hd := dlt hqn
      have hd' : (q < n) = True := eq_true hqn
      have nq := nextI (i := q) (by omega)
      have ia := idxE (e := 4) (c := c) B n q hqn
      have bb : buildV [.int .i64 0, .int .u64 0, .int .i64 0, .int .i64 0] [(0, 1, .int .i64 99)] = some (.agg ⟨nd99⟩) := rfl
      obtain ⟨l, hA, hTy, hst⟩ := hs.at heD
      have hl : l.length = n * 4 := hTy.n n hk
      obtain ⟨m2, s1, s2, s3⟩ := hst (q * 4) 4 nd99 (by omega) rfl (by omega) (by simp [okC]) (hTy.putN hs.nd hk hqn)
      simp [u4, tq, l0 m' hs, hlen, hd, hd', ia, bb, s1, nq]
      exact hkk hqn _ _ ⟨⟨by simp [u1], by simp [u2], by simp [u3], by simp [u4]⟩, s2, hTK.trans fun X k hX hk0 => s3 X (fun e => by subst e; have := noNT hs.nd hk hX; omega), by simp⟩
    · obtain rfl : q = n := by omega
      have hd : ((q : Int) < (q : Int)) = False := eq_false (by omega)
      simp [u4, tq, l0 m' hs, hlen, hd]
      exact H _ _ ⟨by simp [u1], by simp [u2], by simp [u3], by simp [u4]⟩ hs hTK
theorem spoil4 {R : List Value} {v : Value} (hR : R[4]? = some v) (hv : vN D v) (h : SI m0 m D ((T4, R) :: own)) (hT : ST tm T1 i j T4) {x : Ex} {kn kr : K} {ke : Nat → K} {Q : Option Out → Prop}
    (H : ∀ t' m', ST t' T1 i j T4 → SI m0 m' D ((T4, R) :: own) → TK D m m' → Q (kn t' m')) : Q (ca6_28 x kn ke kr tm m) := by
  obtain ⟨t1, t2, t3, t4⟩ := hT
  simp
  have l0 : ∀ m', SI m0 m' D ((T4, R) :: own) → ∀ s, load1 m' ⟨T4, 4, s⟩ = some v := fun m' h s => by rw [(h.get 0 rfl).load1]; exact hR
  rcases hv with rfl | ⟨B, c, n, rfl, hk⟩
  · refine loop_run (c := ca6_26) rfl Q (fun q t m' => ST t T1 i j T4 ∧ SI m0 m' D ((T4, R) :: own) ∧ TK D m m' ∧ Tm.get 7 t = iv q) 0 (by omega)
      ⟨⟨by simp [t1], by simp [t2], by simp [t3], by simp [t4]⟩, h, fun _ _ _ _ => rfl, by simp⟩ (fun q t m' k hq hI hkk => ?_)
    obtain ⟨hT', hs, hTK, tq⟩ := hI
    obtain ⟨u1, u2, u3, u4⟩ := hT'
    obtain rfl : q = 0 := by omega
    simp [u4, tq, l0 m' hs, lenS]
    exact H _ _ ⟨by simp [u1], by simp [u2], by simp [u3], by simp [u4]⟩ hs hTK
  · obtain ⟨es, hel, hen, heD⟩ := id hk
    have hlen : lenS (.slice (some ⟨B, 0, some c⟩) n n) = some (.int .i64 (n : Int)) := rfl
    refine loop_run (c := ca6_26) rfl Q (fun q t m' => ST t T1 i j T4 ∧ SI m0 m' D ((T4, R) :: own) ∧ TK D m m' ∧ Tm.get 7 t = iv q) n (by omega)
      ⟨⟨by simp [t1], by simp [t2], by simp [t3], by simp [t4]⟩, h, fun _ _ _ _ => rfl, by simp⟩ (fun q t m' k hq hI hkk => ?_)
    obtain ⟨hT', hs, hTK, tq⟩ := hI
    obtain ⟨u1, u2, u3, u4⟩ := hT'
    by_cases hqn : q < n
    · have hd := dlt hqn
      have hd' : (q < n) = True := eq_true hqn
      have nq := nextI (i := q) (by omega)
      have ia := idxE (e := 4) (c := c) B n q hqn
      have bb : buildV [.int .i64 0, .int .u64 0, .int .i64 0, .int .i64 0] [(0, 1, .int .i64 99)] = some (.agg ⟨nd99⟩) := rfl
      obtain ⟨l, hA, hTy, hst⟩ := hs.at heD
      have hl : l.length = n * 4 := hTy.n n hk
      obtain ⟨m2, s1, s2, s3⟩ := hst (q * 4) 4 nd99 (by omega) rfl (by omega) (by simp [okC]) (hTy.putN hs.nd hk hqn)
      simp [u4, tq, l0 m' hs, hlen, hd, hd', ia, bb, s1, nq]
      exact hkk hqn _ _ ⟨⟨by simp [u1], by simp [u2], by simp [u3], by simp [u4]⟩, s2, hTK.trans fun X k hX hk0 => s3 X (fun e => by subst e; have := noNT hs.nd hk hX; omega), by simp⟩
    · obtain rfl : q = n := by omega
      have hd : ((q : Int) < (q : Int)) = False := eq_false (by omega)
      simp [u4, tq, l0 m' hs, hlen, hd]
      exact H _ _ ⟨by simp [u1], by simp [u2], by simp [u3], by simp [u4]⟩ hs hTK
/-- what a slice over Copy's acts gives -/
theorem SI.actAt {m' : M} (h : SI m0 m' D own) {B n j : Nat} (hk : kA D B n) (hj : j < n) : ∃ R : List Value, R.length = 11 ∧ (∀ s, loads m' ⟨B, j * 11, s⟩ 11 = some R) ∧ (∀ v ∈ R, okC v = true) ∧ (∀ f v, 4 ≤ f → f ≤ 6 → R[f]? = some v → vN D v) := by
  obtain ⟨xs, hl, hn, hD, hi⟩ := id hk
  obtain ⟨l, hA, hTy, _⟩ := h.at hD
  have hll : l.length = n * 11 := hTy.al n hk
  refine ⟨(l.drop (j * 11)).take 11, by simp; omega, fun s => hA.loads (by omega), fun v hv => hTy.ok n hk v (List.mem_of_mem_drop (List.mem_of_mem_take hv)), fun f v h4 h6 hv => ?_⟩
  rw [List.getElem?_take_of_lt (by omega), List.getElem?_drop] at hv
  exact hTy.a n hk j f v h4 h6 hv
theorem SI.thAt {m' : M} (h : SI m0 m' D own) {B n i : Nat} (hk : kT D B n) (hi : i < n) : ∃ v, vA D v ∧ ∀ s, load1 m' ⟨B, i * 2 + 1, s⟩ = some v := by
  obtain ⟨ts, hl, hn, hD, _⟩ := id hk
  obtain ⟨l, hA, hTy, _⟩ := h.at hD
  have hll : l.length = n * 2 := hTy.tl n hk
  obtain ⟨v, hv⟩ : ∃ v, l[i * 2 + 1]? = some v := ⟨_, List.getElem?_eq_getElem (by omega)⟩
  exact ⟨v, hTy.t n hk i v hv, fun s => by rw [hA.load1]; exact hv⟩
/-- a thread's acts -/
theorem spoilA {cells : Int} {tv : Value} {BT ct nT : Nat} (htv : tv = .slice (some ⟨BT, 0, some ct⟩) nT nT) (hkT : kT D BT nT) (hi : i < nT) {v : Value} (hv : vA D v) (hlv : ∀ s, load1 m ⟨BT, i * 2 + 1, s⟩ = some v) (h : SI m0 m D [(T1, [iv cells, tv])]) (t1 : Tm.get 1 tm = .pointer (some ⟨T1, 0, none⟩)) (t2 : Tm.get 2 tm = iv i) {x : Ex} {kn kr : K} {ke : Nat → K} {Q : Option Out → Prop}
    (H : ∀ t' m', Tm.get 1 t' = .pointer (some ⟨T1, 0, none⟩) → Tm.get 2 t' = iv i → SI m0 m' D [(T1, [iv cells, tv])] → Q (kn t' m')) : Q (ca6_38 x kn ke kr tm m) := by
  have lp : ∀ m' own', SI m0 m' D (own' ++ [(T1, [iv cells, tv])]) → ∀ o s, load1 m' ⟨T1, o, s⟩ = [iv cells, tv][o]? := fun m' own' h o s => (h.get own'.length (by simp)).load1 o s
  have hn0 : 0 < nT := by omega
  have ix := idxE (e := 2) (c := ct) BT nT i hi
  have lk : ∀ m', TK D m m' → ∀ s, load1 m' ⟨BT, i * 2 + 1, s⟩ = some v := fun m' hk s => by
    rw [← hlv s]; unfold load1 cellsOf
    have := hk BT nT hkT hn0
    rw [show (⟨BT, i * 2 + 1, s⟩ : Addr).block = BT from rfl, this]
  subst htv
  simp
  rcases hv with rfl | ⟨B, c, n, rfl, hk⟩
  · refine loop_run (c := ca6_36) rfl Q (fun q t m' => Tm.get 1 t = .pointer (some ⟨T1, 0, none⟩) ∧ Tm.get 2 t = iv i ∧ SI m0 m' D [(T1, [iv cells, .slice (some ⟨BT, 0, some ct⟩) nT nT])] ∧ TK D m m' ∧ Tm.get 3 t = iv q) 0 (by omega)
      ⟨by simp [t1], by simp [t2], h, fun _ _ _ _ => rfl, by simp⟩ (fun q t m' k hq hI hkk => ?_)
    obtain ⟨u1, u2, hs, hTK, tq⟩ := hI
    obtain rfl : q = 0 := by omega
    have l1 := lp m' [] hs
    simp [u1, u2, tq, l1, ix, lk m' hTK, lenS]
    exact H _ _ (by simp [u1]) (by simp [u2]) hs
  · obtain ⟨es, hel, hen, heD, hin⟩ := id hk
    have hlen : lenS (.slice (some ⟨B, 0, some c⟩) n n) = some (.int .i64 (n : Int)) := rfl
    refine loop_run (c := ca6_36) rfl Q (fun q t m' => Tm.get 1 t = .pointer (some ⟨T1, 0, none⟩) ∧ Tm.get 2 t = iv i ∧ SI m0 m' D [(T1, [iv cells, .slice (some ⟨BT, 0, some ct⟩) nT nT])] ∧ TK D m m' ∧ Tm.get 3 t = iv q) n (by omega)
      ⟨by simp [t1], by simp [t2], h, fun _ _ _ _ => rfl, by simp⟩ (fun q t m' k hq hI hkk => ?_)
    obtain ⟨u1, u2, hs, hTK, tq⟩ := hI
    have l1 := lp m' [] hs
    by_cases hqn : q < n
    · have hd := dlt hqn
      have hd' : (q < n) = True := eq_true hqn
      have nq := nextI (i := q) (by omega)
      have ia := idxE (e := 11) (c := c) B n q hqn
      obtain ⟨R, hRl, hRm, hRok, hRv⟩ := hs.actAt hk hqn
      have hs1 := hs.row Z11
      obtain ⟨m1, hm1⟩ : ∃ m1, m1 = Dx.newRow m' Z11 := ⟨_, rfl⟩
      have hT1 : TK D m' m1 := by rw [hm1]; exact hs.tkRow _
      rw [← hm1] at hs1
      obtain ⟨m2, f1, f2, f3⟩ := hs1.fill 0 rfl (n := 11) (l' := R) (by omega) rfl hRl hRok
      have f2' : SI m0 m2 D ((m'.n, R) :: [(T1, [iv cells, .slice (some ⟨BT, 0, some ct⟩) nT nT])]) := f2
      have hT2 : TK D m1 m2 := fun X k ⟨_, _, _, hD, _⟩ _ => f3 X (by have := hs.lt hD; omega)
      have g : ∀ f, f < 11 → ∃ v, R[f]? = some v := fun f hf => ⟨_, List.getElem?_eq_getElem (by omega)⟩
      obtain ⟨v5, e5⟩ := g 5 (by omega)
      obtain ⟨v6, e6⟩ := g 6 (by omega)
      obtain ⟨v4, e4⟩ := g 4 (by omega)
      simp [u1, u2, tq, l1, ix, lk m' hTK, hlen, hd, hd', ia, loadNS_ptr, hRm, ← hm1, f1, -ca6_12_ap, -ca6_20_ap, -ca6_28_ap]
      refine spoil5 e5 (hRv 5 v5 (by omega) (by omega) e5) f2' (T1 := T1) (i := i) (j := q) ?_ fun t3 m3 hT3 s3 k3 => ?_
      · exact ⟨by simp [u1], by simp [u2], by simp [tq], by simp⟩
      simp [-ca6_20_ap, -ca6_28_ap]
      refine spoil6 e6 (hRv 6 v6 (by omega) (by omega) e6) s3 hT3 fun t4 m4 hT4 s4 k4 => ?_
      simp [-ca6_28_ap]
      refine spoil4 e4 (hRv 4 v4 (by omega) (by omega) e4) s4 hT4 fun t5 m5 hT5 s5 k5 => ?_
      obtain ⟨w1, w2, w3, w4⟩ := hT5
      have hTK5 : TK D m m5 := hTK.trans (hT1.trans (hT2.trans (k3.trans (k4.trans k5))))
      have l5 := lp m5 [(m'.n, R)] s5
      have bb : buildV Z11 [(0, 1, .int .i64 99)] = some (.agg ⟨ac99⟩) := rfl
      obtain ⟨l, hA, hTy, hst⟩ := s5.at heD
      have hl : l.length = n * 11 := hTy.al n hk
      obtain ⟨m6, a1, a2, a3⟩ := hst (q * 11) 11 ac99 (by omega) rfl (by omega) (by simp [okC]) (hTy.putA hs.nd hk hqn)
      simp [w1, w2, w3, w4, l5, ix, lk m5 hTK5, ia, bb, a1, nq]
      exact hkk hqn _ _ ⟨by simp [w1], by simp [w2], a2.drop, hTK5.trans fun X k hX hk0 => a3 X (fun e => by subst e; have := noAT hs.nd hk hX; omega), by simp⟩
    · obtain rfl : q = n := by omega
      have hd : ((q : Int) < (q : Int)) = False := eq_false (by omega)
      simp [u1, u2, tq, l1, ix, lk m' hTK, hlen, hd]
      exact H _ _ (by simp [u1]) (by simp [u2]) hs
end
theorem Spoil_c (p : Pg) {D : Bl} {m0 m : M} (hst : St m0 m D) (hin : PgIn D p) (hp : PgOK m p) (N : Nat) :
    ∃ v m', (ex Tryz.prog (N + 1)).f 15 [pgV p] m = some (v, m') ∧ Mc m m' (D.map (·.1)) := by
  refine call_fin (args := [pgV p]) (m := m) (Q := fun v m' => Mc m m' (D.map (·.1))) da6_ok (by simp) ?_
  have hb : m.base ≤ m.n := hst.sees.self.base
  obtain ⟨cells, tv, ths⟩ := p
  have s0 := SI.start (m := m) hb hst.nd (fun q hq => (hst.arr q hq).2)
  have s1 := s0.row [iv cells, tv]
  obtain ⟨m1, hm1⟩ : ∃ m1, m1 = Dx.newRow m [iv cells, tv] := ⟨_, rfl⟩
  rw [← hm1] at s1
  have hv : vT D tv := hin.v hp
  have lp : ∀ m', SI m m' D [(m.n, [iv cells, tv])] → ∀ o s, load1 m' ⟨m.n, o, s⟩ = [iv cells, tv][o]? := fun m' h o s => (h.get 0 rfl).load1 o s
  unfold pgV
  rcases hv with rfl | ⟨B, c, n, rfl, hk⟩
  · simp [← hm1]
    refine loop_run (c := ca6_43) rfl (FinR _) (fun q t m' => Tm.get 1 t = .pointer (some ⟨m.n, 0, none⟩) ∧ SI m m' D [(m.n, [iv cells, .slice none 0 0])] ∧ Tm.get 2 t = iv q) 0 (by omega) ⟨by simp, s1, by simp⟩ (fun q t m' k hq hI hkk => ?_)
    obtain ⟨u1, hs, tq⟩ := hI
    obtain rfl : q = 0 := by omega
    simp [u1, tq, lp m' hs, lenS]
    exact fin_0 hs.mc
  · obtain ⟨es, hel, hen, heD, hi⟩ := id hk
    have hlen : lenS (.slice (some ⟨B, 0, some c⟩) n n) = some (.int .i64 (n : Int)) := rfl
    simp [← hm1]
    refine loop_run (c := ca6_43) rfl (FinR _) (fun q t m' => Tm.get 1 t = .pointer (some ⟨m.n, 0, none⟩) ∧ SI m m' D [(m.n, [iv cells, .slice (some ⟨B, 0, some c⟩) n n])] ∧ Tm.get 2 t = iv q) n (by omega) ⟨by simp, s1, by simp⟩ (fun q t m' k hq hI hkk => ?_)
    obtain ⟨u1, hs, tq⟩ := hI
    by_cases hqn : q < n
    · have hd := dlt hqn
      have hd' : (q < n) = True := eq_true hqn
      have nq := nextI (i := q) (by omega)
      have ia := idxE (e := 2) (c := c) B n q hqn
      obtain ⟨v, hvA, hvl⟩ := hs.thAt hk hqn
      simp [u1, tq, lp m' hs, hlen, hd, hd', -ca6_38_ap]
      refine spoilA (i := q) (T1 := m.n) (m0 := m) rfl hk hqn hvA hvl hs (by simp [u1]) (by simp [tq]) fun t2 m2 w1 w2 s2 => ?_
      have bb : buildV [.int .i64 0, .slice none 0 0] [(0, 1, .int .i64 99)] = some (.agg ⟨th99⟩) := rfl
      obtain ⟨l, hA, hTy, hst'⟩ := s2.at heD
      have hl : l.length = n * 2 := hTy.tl n hk
      obtain ⟨m6, a1, a2, a3⟩ := hst' (q * 2) 2 th99 (by omega) rfl (by omega) (by simp [okC]) (hTy.putT hs.nd hk hqn)
      simp [w1, w2, lp m2 s2, ia, bb, a1, nq]
      exact hkk hqn _ _ ⟨by simp [w1], a2, by simp⟩
    · obtain rfl : q = n := by omega
      have hd : ((q : Int) < (q : Int)) = False := eq_false (by omega)
      simp [u1, tq, lp m' hs, hlen, hd]
      exact fin_0 hs.mc
end Go.Sx
