/- Contracts. -/
import Derived.Test.YtblkdbffpjlkaaaGreatGi
set_option linter.unusedVariables false
set_option linter.unusedSimpArgs false
set_option linter.defProp false
/- The reference's run, in plain terms: it is the machine's. -/
namespace Go.Sx
open Go.Dx Go.Proofs
set_option maxRecDepth 10000
def evOf (th kind : Int) (w : Wt) (v : U) : Ev5 := ⟨th, kind, w.loc, v, w.mode⟩
def addE (r : Rn) (e : Ev5) : Rn := { r with evs := r.evs ++ [e] }
/-- a read's tail: the pair's write -/
def thenR (th : Int) (ls : List U) (a : Ac) (w : Wt) (v : U) (r : Rn) : Rn :=
  if w.ex = true ∧ ¬ (thenW ls a v).what = 0 then { addE r (evOf th 2 (thenW ls a v) (thenW ls a v).val) with rmw := r.rmw ++ [((r.evs.length : Int) - 1, (r.evs.length : Int))] } else r
def stepR (th : Int) (reads : List U) (a : Ac) (ls : List U) (r : Rn) : Sum Int (U × Rn) :=
  if (wantOf (mk0 0 ls) a).what = 1 then match reads[r.used]? with
    | none => .inl (wantOf (mk0 0 ls) a).loc
    | some v => .inr (v, thenR th ls a (wantOf (mk0 0 ls) a) v (addE { r with used := r.used + 1 } (evOf th 1 (wantOf (mk0 0 ls) a) v)))
  else .inr (u0, tailR th (wantOf (mk0 0 ls) a) u0 r)
def refR (th : Int) (reads : List U) (acts : List Ac) : Nat → Nat → List U → Rn → Int × Int × Rn
  | f, i, ls, r => match acts[i]? with
    | none => (1, 0, r)
    | some a => match f with
      | 0 => (4, 0, r)
      | f + 1 => if ownB a then refR th reads acts f (ownS (mk0 i ls) a).at_ (ownS (mk0 i ls) a).ls r else match stepR th reads a ls r with
        | .inl l => (2, l, r)
        | .inr x => refR th reads acts f (i + 1) (doneL ls a x.1) x.2
section
variable {th : Int} {reads : List U} {acts : List Ac} {a : Ac}
theorem want_ls {s s' : Ms} (h : s.ls = s'.ls) (h2 : s.opn = s'.opn) (h3 : s.opn = true → s.old = s'.old) : wantOf s a = wantOf s' a := by
  unfold wantOf
  rw [h, h2]
  cases hb : s'.opn with
  | false => rfl
  | true => rw [h3 (by rw [h2]; exact hb)]
theorem own_ls {s s' : Ms} (h : s.ls = s'.ls) (h1 : s.at_ = s'.at_) : (ownS s a).at_ = (ownS s' a).at_ ∧ (ownS s a).ls = (ownS s' a).ls := by
  unfold ownS setS jumpS zeroS
  split
  · exact ⟨by show s.at_ + 1 = s'.at_ + 1; rw [h1], by show s.ls.set _ _ = s'.ls.set _ _; rw [h]⟩
  · split
    · exact ⟨rfl, h⟩
    · exact ⟨by show (if _ then _ else s.at_ + 1) = (if _ then _ else s'.at_ + 1); rw [h, h1], h⟩
theorem step_act {s : Ms} {r : Rn} (how : ownB a = false) (hop : 1 ≤ a.op ∧ a.op ≤ 10) (h0 : s.opn = false) :
    (∀ l, stepR th reads a s.ls r = .inl l → actR th reads a s r = .inl l) ∧ ∀ x, stepR th reads a s.ls r = .inr x → ∃ y, actR th reads a s r = .inr y ∧ y.1.at_ = s.at_ + 1 ∧ y.1.ls = doneL s.ls a x.1 ∧ y.1.opn = false ∧ y.2 = x.2 := by
  have hw : wantOf (mk0 0 s.ls) a = wantOf s a := want_ls rfl (by rw [h0]) (by simp)
  have hno := noOwn how
  unfold stepR
  rw [hw]
  have h1n : (nextS s a).now = wantOf s a := rfl
  have hbody : bodyR th reads a s r = if (wantOf s a).what = 1 then match reads[r.used]? with
    | none => .inl (wantOf s a).loc
    | some v => .inr (feedS (nextS s a) a v, tailR th (wantOf s a) v { r with used := r.used + 1 })
    else .inr (feedS (nextS s a) a u0, tailR th (wantOf s a) u0 r) := rfl
  have hact : actR th reads a s r = match bodyR th reads a s r with
    | .inl l => .inl l
    | .inr x => if x.1.opn then bodyR th reads a x.1 x.2 else .inr x := rfl
  have key : a.op = 2 ∨ a.op = 3 ∨ a.op = 7 ∨ a.op = 8 ∨ a.op = 4 ∨ a.op = 5 ∨ a.op = 6 := by omega
  -- a load
  rcases key with h | h | h | h | h
  · have hx : wantOf s a = ⟨1, locV s.ls a, a.mode, u0, false⟩ := by unfold wantOf; rw [if_pos h]
    rw [hx] at hbody ⊢
    simp only [if_true] at hbody ⊢
    cases hr : reads[r.used]? with
    | none =>
      rw [hr] at hbody
      rw [hact, hbody]
      exact ⟨fun l hl => by simpa using hl, fun x hx => by cases hx⟩
    | some v =>
      rw [hr] at hbody
      have hf : feedS (nextS s a) a v = { nextS s a with asked := false, ls := s.ls.set a.dst.toNat v, at_ := s.at_ + 1 } := by
        unfold feedS
        rw [h1n, hx]
        simp only [Bool.false_eq_true, and_false, if_false]
        unfold finS
        simp only [h1n, hx, Bool.false_eq_true, false_and, if_false, if_true]
        rfl
      rw [hact, hbody]
      simp only [hf]
      refine ⟨fun l hl => (by cases hl), fun x hx2 => ?_⟩
      have hd : doneL s.ls a v = s.ls.set a.dst.toNat v := if_neg (by omega)
      cases hx2
      refine ⟨_, by rw [if_neg (by show ¬ s.opn = true; rw [h0]; simp)], rfl, hd.symm, h0, ?_⟩
      unfold thenR tailR addE evOf eventOf
      simp
  · have hx : wantOf s a = ⟨2, locV s.ls a, a.mode, valE s.ls a.es, false⟩ := by unfold wantOf; rw [if_neg (by omega), if_pos h]
    rw [hx] at hbody ⊢
    simp only [show ((2 : Int) = 1) = False from eq_false (by decide), if_false] at hbody ⊢
    have hf : feedS (nextS s a) a u0 = { nextS s a with asked := false, at_ := s.at_ + 1 } := by
      unfold feedS
      rw [h1n, hx]
      simp only [Bool.false_eq_true, and_false, if_false]
      unfold finS
      simp [h1n, hx]
      rfl
    rw [hact, hbody, hf]
    refine ⟨fun l hl => (by cases hl), fun x hx2 => ?_⟩
    have hd : doneL s.ls a u0 = s.ls := if_pos (by omega)
    cases hx2
    exact ⟨_, if_neg (show ¬ s.opn = true by rw [h0]; simp), rfl, hd.symm, h0, rfl⟩
  · have hx : wantOf s a = ⟨3, 0, a.mode, u0, false⟩ := by unfold wantOf; rw [if_neg (by omega), if_neg (by omega), if_pos h]
    rw [hx] at hbody ⊢
    simp only [show ((3 : Int) = 1) = False from eq_false (by decide), if_false] at hbody ⊢
    have hf : feedS (nextS s a) a u0 = { nextS s a with asked := false, at_ := s.at_ + 1 } := by
      unfold feedS
      rw [h1n, hx]
      simp only [Bool.false_eq_true, and_false, if_false]
      unfold finS
      simp [h1n, hx]
      rfl
    rw [hact, hbody, hf]
    refine ⟨fun l hl => (by cases hl), fun x hx2 => ?_⟩
    have hd : doneL s.ls a u0 = s.ls := if_pos (by omega)
    cases hx2
    exact ⟨_, if_neg (show ¬ s.opn = true by rw [h0]; simp), rfl, hd.symm, h0, rfl⟩
  · have hx : wantOf s a = ⟨4, 0, 0, valE s.ls a.es, false⟩ := by unfold wantOf; rw [if_neg (by omega), if_neg (by omega), if_neg (by omega), if_pos h]
    rw [hx] at hbody ⊢
    simp only [show ((4 : Int) = 1) = False from eq_false (by decide), if_false] at hbody ⊢
    have hf : feedS (nextS s a) a u0 = { nextS s a with asked := false, at_ := s.at_ + 1 } := by
      unfold feedS
      rw [h1n, hx]
      simp only [Bool.false_eq_true, and_false, if_false]
      unfold finS
      simp [h1n, hx]
      rfl
    rw [hact, hbody, hf]
    refine ⟨fun l hl => (by cases hl), fun x hx2 => ?_⟩
    have hd : doneL s.ls a u0 = s.ls := if_pos (by omega)
    cases hx2
    exact ⟨_, if_neg (show ¬ s.opn = true by rw [h0]; simp), rfl, hd.symm, h0, rfl⟩
  -- a pair
  have hx : wantOf s a = ⟨1, locV s.ls a, rdM a.mode, u0, true⟩ := by
    unfold wantOf; rw [if_neg (by omega), if_neg (by omega), if_neg (by omega), if_neg (by omega), h0]; rfl
  rw [hx] at hbody ⊢
  simp only [if_true] at hbody ⊢
  cases hr : reads[r.used]? with
  | none =>
    rw [hr] at hbody
    rw [hact, hbody]
    exact ⟨fun l hl => by simpa using hl, fun x hx => by cases hx⟩
  | some v =>
    rw [hr] at hbody
    have hd : doneL s.ls a v = s.ls.set a.dst.toNat v := if_neg (by omega)
    have ht : tailR th ⟨1, locV s.ls a, rdM a.mode, u0, true⟩ v { r with used := r.used + 1 } = addE { r with used := r.used + 1 } (evOf th 1 ⟨1, locV s.ls a, rdM a.mode, u0, true⟩ v) := by
      unfold tailR addE evOf eventOf; simp
    refine ⟨fun l hl => (by cases hl), fun x hx2 => ?_⟩
    cases hx2
    by_cases hc : a.op ≠ 6 ∨ (valE s.ls a.es).1 = v.1
    · have hf : feedS (nextS s a) a v = { nextS s a with asked := false, old := v, opn := true } := by
        unfold feedS
        rw [h1n, hx]
        simp only [and_self, if_true]
        rw [if_pos (show a.op ≠ 6 ∨ (valE (nextS s a).ls a.es).1 = v.1 from hc), ← hx]
        rfl
      obtain ⟨s1, hs1⟩ : ∃ s1, s1 = feedS (nextS s a) a v := ⟨_, rfl⟩
      have e1 : s1.opn = true := by rw [hs1, hf]
      have e2 : s1.ls = s.ls := by rw [hs1, hf]; rfl
      have e3 : s1.old = v := by rw [hs1, hf]
      have e4 : s1.at_ = s.at_ := by rw [hs1, hf]; rfl
      simp only [← hs1] at hbody
      have hw2 : wantOf s1 a = thenW s.ls a v := by
        unfold thenW
        rw [if_neg (by rcases hc with hc | hc <;> simp [hc])]
        exact want_ls e2 e1 (fun _ => e3)
      have h2 : (thenW s.ls a v).what = 2 ∧ (thenW s.ls a v).ex = true := by
        rw [← hw2]
        unfold wantOf
        rw [if_neg (by omega), if_neg (by omega), if_neg (by omega), if_neg (by omega), e1]
        exact ⟨rfl, rfl⟩
      have hb2 : bodyR th reads a s1 (tailR th ⟨1, locV s.ls a, rdM a.mode, u0, true⟩ v { r with used := r.used + 1 }) = .inr (feedS (nextS s1 a) a u0, tailR th (wantOf s1 a) u0 (tailR th ⟨1, locV s.ls a, rdM a.mode, u0, true⟩ v { r with used := r.used + 1 })) := by
        unfold bodyR
        rw [if_neg (by rw [hw2, h2.1]; decide)]
      have hn2 : (nextS s1 a).now = wantOf s1 a := rfl
      have hf2 : feedS (nextS s1 a) a u0 = { nextS s1 a with asked := false, ls := s.ls.set a.dst.toNat v, opn := false, at_ := s.at_ + 1 } := by
        unfold feedS
        rw [hn2, hw2, if_neg (by rw [h2.1]; simp)]
        unfold finS
        simp only [hn2, hw2, h2.2]
        rw [if_pos ⟨trivial, show s1.opn = true from e1⟩]
        show Ms.mk _ _ _ _ _ _ = Ms.mk _ _ _ _ _ _
        simp only [nextS, e2, e3, e4]
      rw [hact, hbody]
      simp only
      rw [if_pos e1, hb2]
      refine ⟨_, rfl, by rw [hf2], by rw [hf2, hd], by rw [hf2], ?_⟩
      show tailR th (wantOf s1 a) u0 _ = thenR th s.ls a _ v _
      rw [hw2, ht]
      unfold thenR
      rw [if_pos ⟨rfl, by rw [h2.1]; decide⟩]
      unfold tailR
      rw [if_neg (by rw [h2.1]; decide)]
      have he : eventOf th (thenW s.ls a v) u0 = evOf th 2 (thenW s.ls a v) (thenW s.ls a v).val := by
        unfold eventOf evOf; rw [if_neg (by rw [h2.1]; decide), if_pos h2.1]
      rw [he, if_pos h2]
      rfl
    · have hc' : a.op = 6 ∧ ¬ (valE s.ls a.es).1 = v.1 := by
        constructor
        · exact Classical.byContradiction fun h => hc (.inl h)
        · exact fun h => hc (.inr h)
      have hf : feedS (nextS s a) a v = { nextS s a with asked := false, old := v, ls := s.ls.set a.dst.toNat v, at_ := s.at_ + 1 } := by
        unfold feedS
        rw [h1n, hx]
        simp only [and_self, if_true]
        rw [if_neg (show ¬ (a.op ≠ 6 ∨ (valE (nextS s a).ls a.es).1 = v.1) from hc)]
        unfold finS
        simp only [h1n, hx]
        rw [if_neg (by show ¬ (True ∧ s.opn = true); rw [h0]; simp), if_pos trivial]
        rfl
      rw [hact, hbody]
      simp only [hf]
      refine ⟨_, if_neg (show ¬ s.opn = true by rw [h0]; simp), rfl, hd.symm, h0, ?_⟩
      dsimp only
      rw [ht]
      unfold thenR
      have : (thenW s.ls a v).what = 0 := by unfold thenW; rw [if_pos hc']; rfl
      rw [if_neg (fun h => h.2 this)]
theorem ref_run (hop : ∀ a ∈ acts, 1 ≤ a.op ∧ a.op ≤ 10) : ∀ (f : Nat) (s : Ms) (r : Rn), s.opn = false → refR th reads acts f s.at_ s.ls r = runR th reads acts f s r := by
  intro f
  induction f with
  | zero =>
    intro s r h0
    unfold refR runR
    cases acts[s.at_]? <;> rfl
  | succ f ih =>
    intro s r h0
    cases ha : acts[s.at_]? with
    | none => rw [run_none _ ha]; unfold refR; rw [ha]
    | some a =>
      rw [run_step f ha]
      unfold refR
      rw [ha]
      simp only
      have hmk := own_ls (a := a) (s := mk0 s.at_ s.ls) (s' := s) rfl rfl
      cases how : ownB a with
      | true =>
        simp only [if_true]
        rw [hmk.1, hmk.2]
        exact ih _ _ (by rw [(own_asked s a).2]; exact h0)
      | false =>
        simp only [Bool.false_eq_true, if_false]
        obtain ⟨k1, k2⟩ := step_act (th := th) (reads := reads) (r := r) how (hop a (List.mem_of_getElem? ha)) h0
        cases hs : stepR th reads a s.ls r with
        | inl l => rw [k1 l hs]
        | inr x =>
          obtain ⟨y, q1, q2, q3, q4, q5⟩ := k2 x hs
          rw [q1]
          simp only
          rw [← q2, ← q3, ← q5]
          exact ih _ _ q4
end
end Go.Sx
/- The reference's run: its steps. -/
namespace Go.Sx
open Go.Dx Go.Proofs
set_option maxRecDepth 10000
section
variable {m0 m m' : M} {g : Gs} {r : Rn} {σ : List (Nat × List Value)} {R T8 T10 T11 : Nat} {st loc : Int} {u : Nat}
theorem RJ.call (h : RJ m0 m g r σ) (e : Ext m m') {B : Nat} {l : List Value} (h1 : m.n ≤ B) (h2 : B < m'.n) (h3 : Arr m' B l) : RJ m0 m' g r ((B, l) :: σ) := by
  have hn := h.st.ext.n
  have h' := h.step e
  refine ⟨(h.st.step e).add (by omega) h2 h3 fun p hp => by have := (h.st.arr p hp).2.1; omega, h'.ge, h'.go, h'.gr, fun X hX p hp => ?_, h.eo, h.or_⟩
  rcases List.mem_cons.1 hp with rfl | hp
  · have := (h.gl X hX).2
    show B ≠ X
    omega
  · exact h.sep X hX p hp
theorem RJ.evStep (h : RJ m0 m g r σ) (j : Nat) (hj : σ[j]? = some (R, rRow g.1 g.2.1 g.2.2 st loc u)) (hb : RB r) (x : Ev5) :
    ∃ v2 m2 m3, appendV (Dx.newRow m (ev5Row x)) 5 40 g.1 (.slice (some ⟨m.n, 0, some 11⟩) 1 1) = some (v2, m2) ∧ storeS 1 (.pointer (some ⟨R, 0, none⟩)) v2 m2 = some (undef, m3) ∧ RJ m0 m3 (v2, g.2) (addE r x) (σ.set j (R, rRow v2 g.2.1 g.2.2 st loc u)) := by
  have E1 : Ext m (Dx.newRow m (ev5Row x)) := Ext.row _ _
  have h1 := h.step E1
  have hn := h.st.ext.n
  obtain ⟨v2, m2, p1, p2, p3⟩ := grow_n h1.ge (by omega) ev5_len ev5_ok (x := x) (X := m.n) (sp := some 11) ((Arr.row m _).loads (n := 5) (by simp [ev5Row])) (by have := E1.n; omega) (bytes := 40) (by have := hb.e; unfold most; omega) (by have := hb.e; omega)
  have h2 := h1.appE p2 p3
  obtain ⟨m3, q1, q2, q3⟩ := h2.store j (o := 0) (v := v2) hj (by simp [rRow]) h2.ge.okC
  exact ⟨v2, m2, m3, p1, q1, q2⟩
theorem RJ.outStep (h : RJ m0 m g r σ) (j : Nat) (hj : σ[j]? = some (R, rRow g.1 g.2.1 g.2.2 st loc u)) (hb : RB r) (x : U) :
    ∃ v2 m2 m3, appendV (Dx.newRow m [uv x.1]) 1 8 g.2.1 (.slice (some ⟨m.n, 0, some 3⟩) 1 1) = some (v2, m2) ∧ storeS 1 (.pointer (some ⟨R, 5, none⟩)) v2 m2 = some (undef, m3) ∧ RJ m0 m3 (g.1, v2, g.2.2) { r with outs := r.outs ++ [x] } (σ.set j (R, rRow g.1 v2 g.2.2 st loc u)) := by
  have E1 : Ext m (Dx.newRow m [uv x.1]) := Ext.row _ _
  have h1 := h.step E1
  have hn := h.st.ext.n
  obtain ⟨v2, m2, p1, p2, p3⟩ := grow_n h1.go (by omega) (fun _ => rfl) wordRow_ok (x := x) (X := m.n) (sp := some 3) ((Arr.row m _).loads (n := 1) (by simp)) (by have := E1.n; omega) (bytes := 8) (by have := hb.o; unfold most; omega) (by have := hb.o; omega)
  have h2 := h1.appO p2 p3
  obtain ⟨m3, q1, q2, q3⟩ := h2.store j (o := 5) (v := v2) hj (by simp [rRow]) h2.go.okC
  exact ⟨v2, m2, m3, p1, q1, q2⟩
theorem RJ.rmwStep (h : RJ m0 m g r σ) (j : Nat) (hj : σ[j]? = some (R, rRow g.1 g.2.1 g.2.2 st loc u)) (hb : r.rmw.length ≤ 1000000) (x : Int × Int) :
    ∃ v2 m2 m3, appendV (Dx.newRow m (pairRow x)) 2 16 g.2.2 (.slice (some ⟨m.n, 0, some 5⟩) 1 1) = some (v2, m2) ∧ storeS 1 (.pointer (some ⟨R, 1, none⟩)) v2 m2 = some (undef, m3) ∧ RJ m0 m3 (g.1, g.2.1, v2) { r with rmw := r.rmw ++ [x] } (σ.set j (R, rRow g.1 g.2.1 v2 st loc u)) := by
  have E1 : Ext m (Dx.newRow m (pairRow x)) := Ext.row _ _
  have h1 := h.step E1
  have hn := h.st.ext.n
  obtain ⟨v2, m2, p1, p2, p3⟩ := grow_n h1.gr (by omega) pairRow_len pairRow_ok (x := x) (X := m.n) (sp := some 5) ((Arr.row m _).loads (n := 2) (by simp [pairRow])) (by have := E1.n; omega) (bytes := 16) (by unfold most; omega) (by omega)
  have h2 := h1.appR p2 p3
  obtain ⟨m3, q1, q2, q3⟩ := h2.store j (o := 1) (v := v2) hj (by simp [rRow]) h2.gr.okC
  exact ⟨v2, m2, m3, p1, q1, q2⟩
theorem RJ.row_ok (h : RJ m0 m g r σ) (u : Nat) : ∀ v ∈ rRow g.1 g.2.1 g.2.2 st loc u, okC v = true := by
  have o1 := h.ge.okC
  have o2 := h.go.okC
  have o3 := h.gr.okC
  intro v hv
  simp only [rRow, List.mem_cons, List.not_mem_nil, or_false] at hv
  rcases hv with rfl | rfl | rfl | rfl | rfl | rfl | rfl | rfl | rfl <;> first | rfl | assumption
theorem ref_end (h : RJ m0 m g r σ) (j8 jr : Nat) {l8 : List Value} (h8 : σ[j8]? = some (T8, l8)) (hl8 : l8.length = 9) (hr : σ[jr]? = some (R, rRow g.1 g.2.1 g.2.2 st loc r.used)) :
    loads m ⟨R, 0, none⟩ 9 = some (rRow g.1 g.2.1 g.2.2 st loc r.used) ∧ ∃ me, storeS 9 (.pointer (some ⟨T8, 0, none⟩)) (.agg ⟨rRow g.1 g.2.1 g.2.2 st loc r.used⟩) m = some (undef, me) ∧
      ∀ t, Tm.get 8 t = .pointer (some ⟨T8, 0, none⟩) → Tm.get 9 t = iv 0 → Ret m0 (RunP m0 (st, loc, r)) (resK [.cell 8 9, .t 9] t me) := by
  refine ⟨(h.get jr hr).loads (n := 9) (by simp [rRow]), ?_⟩
  obtain ⟨me, w1, w2, w3⟩ := h.fill j8 h8 (n := 9) (l' := rRow g.1 g.2.1 g.2.2 st loc r.used) hl8 rfl (h.row_ok _)
  refine ⟨me, w1, fun t t8 t9 => ?_⟩
  have hlt := (List.getElem?_eq_some_iff.1 h8).1
  have hg : (σ.set j8 (T8, rRow g.1 g.2.1 g.2.2 st loc r.used))[j8]? = some (T8, rRow g.1 g.2.1 g.2.2 st loc r.used) := by rw [List.getElem?_set_self hlt]
  have lf : loads me ⟨T8, 0, none⟩ 9 = some (rRow g.1 g.2.1 g.2.2 st loc r.used) := (w2.get j8 hg).loads (n := 9) (by simp [rRow])
  refine ret_of (l := [.agg ⟨rRow g.1 g.2.1 g.2.2 st loc r.used⟩, iv 0]) ?_ w2.st.ext ⟨g, rfl, w2.ge, w2.go, w2.gr, w2.eo, w2.or_⟩
  simp only [resV, resOne, t8, vPtr_ptr, ob_some', lf, t9]
end
/-- the temporaries of the reference's run -/
structure RTr (t : Tm) (th : Int) (rl : Value) (f : Int) (T8 T10 T11 : Nat) : Prop where
  t1 : Tm.get 1 t = iv th
  t2 : Tm.get 2 t = rl
  t3 : Tm.get 3 t = iv f
  t8 : Tm.get 8 t = .pointer (some ⟨T8, 0, none⟩)
  t10 : Tm.get 10 t = .pointer (some ⟨T10, 0, none⟩)
  t11 : Tm.get 11 t = .pointer (some ⟨T11, 0, none⟩)
section
variable {m0 m m' : M} {g : Gs} {r : Rn} {T8 T10 T11 Lb k na : Nat} {cells th f : Int} {rl lv : Value} {t : Th} {i : Nat} {a : Ac} {ls : List U} {c : Nat} {tm : Tm}
abbrev lvS (Lb c k : Nat) : Value := .slice (some ⟨Lb, 0, some c⟩) k k
theorem sv_of (h : Arr m Lb (lsR ls)) (hlt : Lb < m.n) (hl : ls.length = k) : Sv m (lvS Lb c k) ls := by
  refine ⟨?_, rfl⟩
  rw [← lsR_flat] at h
  subst hl
  exact rd_made (f := wordRow) (fun _ => rfl) h hlt
theorem ls_next {rest : List (Nat × List Value)} (h : RJ m0 m g r ((Lb, lsR ls) :: rest)) (hl : ls.length = k) (e : Ext m m') {ls' : List U} {lv' : Value} (hS : LvS m m' k ls (lvS Lb c k) ls' lv') :
    ∃ Lb' c', lv' = lvS Lb' c' k ∧ ls'.length = k ∧ RJ m0 m' g r ((Lb', lsR ls') :: rest) := by
  rcases hS with ⟨rfl, rfl⟩ | ⟨B, c', rfl, h1, h2, h3, h4⟩
  · exact ⟨Lb, c, rfl, hl, h.step e⟩
  · have hnd := h.st.nd
    have h' := h.sub (σ' := rest) (fun p hp => List.mem_cons_of_mem _ hp) (by simp at hnd; exact hnd.2)
    exact ⟨B, c', rfl, h4, h'.call e h1 h2 h3⟩
/-- behind an act that wants something -/
theorem tail36 (hA : At m0 t k na cells i a) (hm0 : m0.base ≤ m0.n) (hls : ls.length = k) (hk : k ≤ 24) (hi : i < 9223372036854775807) (how : ownB a = false) {v : U}
    (h : RJ m0 m g r [(Lb, lsR ls), (T10, stL t i (lvS Lb c k)), (T11, rRow g.1 g.2.1 g.2.2 0 0 r.used), (T8, Z9)]) (hT : RTr tm th rl f T8 T10 T11) (t13 : Tm.get 13 tm = uv v.1) {N : Nat} {kn : K} {Q : Option Out → Prop}
    (H : ∀ t' m' Lb' c', RTr t' th rl f T8 T10 T11 → (doneL ls a v).length = k → RJ m0 m' g r [(Lb', lsR (doneL ls a v)), (T10, stL t (i + 1) (lvS Lb' c' k)), (T11, rRow g.1 g.2.1 g.2.2 0 0 r.used), (T8, Z9)] → Q (kn t' m')) :
    Q (seqI oa1_34 (ex Tryz.prog (N + 2)) kn tm m) := by
  obtain ⟨t1, t2, t3, t8, t10, t11⟩ := hT
  have S := h.st.sees
  have l4 : loads m ⟨T10, 0, none⟩ 4 = some (stL t i (lvS Lb c k)) := (h.get 1 rfl).loads (n := 4) (by simp [stL])
  obtain ⟨v1, m1, c1, c2, lv', rfl, c3⟩ := Done_c (hA.sees S) (sv_of (c := c) (h.get 0 rfl) (h.st.get 0 rfl).2.1 hls) hls hk hi how v N S.self.base
  obtain ⟨Lb', c', rfl, d2, d3⟩ := ls_next h hls c2 c3
  obtain ⟨m2, w1, w2, w3⟩ := d3.fill 1 rfl (n := 4) (l' := stL t (i + 1) (lvS Lb' c' k)) rfl rfl (stL_ok hA.okav rfl)
  obtain ⟨i1, hi1⟩ : ∃ i1 : Nat, i1 = i + 1 := ⟨_, rfl⟩
  rw [← hi1] at c1 w1
  simp [t10, t13, loadNS_ptr, l4, c1, w1]
  exact H _ _ Lb' c' ⟨by simp [t1], by simp [t2], by simp [t3], by simp [t8], by simp [t10], by simp [t11]⟩ d2 w2
end
end Go.Sx
/- The reference's run: a round. -/
namespace Go.Sx
open Go.Dx Go.Proofs
set_option maxRecDepth 10000
section
variable {m0 m m' : M} {g : Gs} {r : Rn} {T8 T10 T11 Lb k na : Nat} {cells th f : Int} {rl lv : Value} {t : Th} {i : Nat} {a : Ac} {ls : List U} {c : Nat} {tm : Tm}
abbrev sg (t : Th) (i Lb c k : Nat) (ls : List U) (g : Gs) (st loc : Int) (u T8 T10 T11 : Nat) : List (Nat × List Value) := [(Lb, lsR ls), (T10, stL t i (lvS Lb c k)), (T11, rRow g.1 g.2.1 g.2.2 st loc u), (T8, Z9)]
/-- the pair's write -/
theorem then_stage (hc : cells ≤ 4096) (hA : At m0 t k na cells i a) (hls : ls.length = k) (hop : a.op = 4 ∨ a.op = 5 ∨ a.op = 6) {v : U} {w : Wt} (hx : w.ex = true) (hb : RBn 200000 r)
    (h : RJ m0 m g r (sg t i Lb c k ls g 0 0 r.used T8 T10 T11)) (hT : RTr tm th rl f T8 T10 T11) (t13 : Tm.get 13 tm = uv v.1) {N : Nat} {kn kr : K} {ke : Nat → K} {Q : Option Out → Prop}
    (H : ∀ t' m' g', RTr t' th rl f T8 T10 T11 → Tm.get 13 t' = uv v.1 → RJ m0 m' g' (thenR th ls a w v r) (sg t i Lb c k ls g' 0 0 r.used T8 T10 T11) → Q (kn t' m')) :
    Q (ca1_21 (ex Tryz.prog (N + 65542)) kn ke kr tm m) := by
  obtain ⟨t1, t2, t3, t8, t10, t11⟩ := hT
  have S := h.st.sees
  have l4 : loads m ⟨T10, 0, none⟩ 4 = some (stL t i (lvS Lb c k)) := (h.get 1 rfl).loads (n := 4) (by simp [stL])
  obtain ⟨v1, m1, c1, c2, rfl⟩ := Then_c hc (hA.sees S) (sv_of (c := c) (h.get 0 rfl) (h.st.get 0 rfl).2.1 hls) hls hop v N S.self.base
  have h1 := h.step c2
  have h2 := h1.row Z6
  obtain ⟨m2, hm2⟩ : ∃ m2, m2 = Dx.newRow m1 Z6 := ⟨_, rfl⟩
  rw [← hm2] at h2
  obtain ⟨x, hxw⟩ : ∃ x, x = thenW ls a v := ⟨_, rfl⟩
  rw [← hxw] at c1
  obtain ⟨m3, w1, w2, w3⟩ := h2.fill 0 rfl (n := 6) (l' := wtL x) rfl rfl (wtL_ok x)
  have h3 : RJ m0 m3 g r ((m1.n, wtL x) :: sg t i Lb c k ls g 0 0 r.used T8 T10 T11) := w2
  have lw : ∀ o s, load1 m3 ⟨m1.n, o, s⟩ = (wtL x)[o]? := fun o s => (h3.get 0 rfl).load1 o s
  have lr : ∀ o s, load1 m3 ⟨T11, o, s⟩ = (rRow g.1 g.2.1 g.2.2 0 0 r.used)[o]? := fun o s => (h3.get 3 rfl).load1 o s
  simp only [wtL, rRow] at lw lr
  by_cases h0 : x.what = 0
  · have d0 : decide (x.what = 0) = true := decide_eq_true h0
    have hR : thenR th ls a w v r = r := by unfold thenR; rw [if_neg (fun h => h.2 (by rw [← hxw]; exact h0))]
    rw [hR] at H
    simp [t10, t13, loadNS_ptr, l4, c1, ← hm2, w1, lw, d0]
    exact H _ _ g ⟨by simp [t1], by simp [t2], by simp [t3], by simp [t8], by simp [t10], by simp [t11]⟩ (by simp [t13]) (h3.sub (fun p hp => List.mem_cons_of_mem _ hp) (by have := h3.st.nd; simp at this ⊢; exact this.2))
  · have d0 : decide (x.what = 0) = false := decide_eq_false h0
    obtain ⟨e, he⟩ : ∃ e, e = evOf th 2 x x.val := ⟨_, rfl⟩
    obtain ⟨v4, m5, m6, p1, p2, p3⟩ := h3.evStep 3 rfl (hb.rb (by omega)) e
    obtain ⟨m4, hm4⟩ : ∃ m4, m4 = Dx.newRow m3 (ev5Row e) := ⟨_, rfl⟩
    rw [← hm4] at p1
    have bse : bsliceS 5 1 (rep 1 [.int .i64 0, .int .i64 0, .int .i64 0, .int .u64 0, .int .i64 0]) [(0, 5, .agg ⟨ev5Row e⟩)] m3 = some (Value.slice (some ⟨m3.n, 0, some 11⟩) 1 1, m4) := by rw [hm4]; exact bs_ev _ _ _ _ _ _
    have h6 : RJ m0 m6 (v4, g.2) (addE r e) ((m1.n, wtL x) :: sg t i Lb c k ls (v4, g.2) 0 0 r.used T8 T10 T11) := p3
    have lr6 : ∀ o s, load1 m6 ⟨T11, o, s⟩ = (rRow v4 g.2.1 g.2.2 0 0 r.used)[o]? := fun o s => (h6.get 3 rfl).load1 o s
    simp only [rRow] at lr6
    obtain ⟨n, hn⟩ : ∃ n, n = r.evs.length := ⟨_, rfl⟩
    have hvl : lenS v4 = some (.int .i64 ((n + 1 : Nat) : Int)) := by
      have := h6.ge.lens
      simp only [addE, List.length_append, List.length_cons, List.length_nil] at this
      rw [hn]; exact this
    have hbn : n ≤ 1000000 := by rw [hn]; have := hb.e; omega
    obtain ⟨n1, hn1⟩ : ∃ n1, n1 = n + 1 := ⟨_, rfl⟩
    rw [← hn1] at hvl
    have s2 : binV .sub (.int .i64 (n1 : Int)) (.int .i64 2) = some (.int .i64 ((n : Int) - 1)) := by rw [binV_sub, wrap64 _ (by omega) (by omega), hn1]; congr 2; omega
    have s1 : binV .sub (.int .i64 (n1 : Int)) (.int .i64 1) = some (.int .i64 (n : Int)) := by rw [binV_sub, wrap64 _ (by omega) (by omega), hn1]; congr 2; omega
    obtain ⟨z, hz⟩ : ∃ z : Int, z = (n : Int) - 1 := ⟨_, rfl⟩
    rw [← hz] at s2
    obtain ⟨y, hy⟩ : ∃ y : Int, y = (n : Int) := ⟨_, rfl⟩
    rw [← hy] at s1
    obtain ⟨v7, m8, m9, q1, q2, q3⟩ := h6.rmwStep 3 rfl (by have := hb.p; show r.rmw.length ≤ _; omega) (z, y)
    obtain ⟨m7, hm7⟩ : ∃ m7, m7 = Dx.newRow m6 (pairRow (z, y)) := ⟨_, rfl⟩
    rw [← hm7] at q1
    have bsp : bsliceS 2 1 (rep 1 [.int .i64 0, .int .i64 0]) [(0, 2, .agg ⟨pairRow (z, y)⟩)] m6 = some (Value.slice (some ⟨m6.n, 0, some 5⟩) 1 1, m7) := by rw [hm7]; exact bs_p _ _ _
    have h9 : RJ m0 m9 (v4, g.2.1, v7) { addE r e with rmw := r.rmw ++ [(z, y)] } ((m1.n, wtL x) :: sg t i Lb c k ls (v4, g.2.1, v7) 0 0 r.used T8 T10 T11) := q3
    have hR : thenR th ls a w v r = { addE r e with rmw := r.rmw ++ [(z, y)] } := by
      unfold thenR; rw [if_pos ⟨hx, by rw [← hxw]; exact h0⟩, ← hxw, he, hz, hy, hn]
    rw [hR] at H
    have be : buildV [.int .i64 0, .int .i64 0, .int .i64 0, .int .u64 0, .int .i64 0] [(0, 1, .int .i64 th), (1, 1, .int .i64 2), (2, 1, .int .i64 x.loc), (3, 1, uv x.val.1), (4, 1, .int .i64 x.mode)] = some (.agg ⟨ev5Row e⟩) := by rw [he]; exact ev_b1 _ _ _ _ _
    have bp : buildV [.int .i64 0, .int .i64 0] [(0, 1, .int .i64 z), (1, 1, .int .i64 y)] = some (.agg ⟨pairRow (z, y)⟩) := b_p _ _
    simp [-binV_sub, t1, t10, t11, t13, loadNS_ptr, l4, c1, ← hm2, w1, lw, d0, lr, be, bse, p1, p2, lr6, hvl, s2, s1, bp, bsp, q1, q2]
    exact H _ _ (v4, g.2.1, v7) ⟨by simp [t1], by simp [t2], by simp [t3], by simp [t8], by simp [t10], by simp [t11]⟩ (by simp [t13]) (h9.sub (fun p hp => List.mem_cons_of_mem _ hp) (by have := h9.st.nd; simp at this ⊢; exact this.2))
end
end Go.Sx
/- The reference's run: a round, behind what an act wants. -/
namespace Go.Sx
open Go.Dx Go.Proofs
set_option maxRecDepth 10000
theorem step_len {th : Int} {reads : List U} {a : Ac} {ls : List U} {r : Rn} {x : U × Rn} {n : Nat} (h : stepR th reads a ls r = .inr x) (hb : RBn n r) : RBn (n + 2) x.2 := by
  unfold stepR at h
  split at h
  · split at h
    · cases h
    · rename_i v hv
      cases h
      have h1 : RBn (n + 1) (addE { r with used := r.used + 1 } (evOf th 1 (wantOf (mk0 0 ls) a) v)) := ⟨by have := hb.e; simp [addE]; omega, by have := hb.o; simp [addE]; omega, by have := hb.p; simp [addE]; omega⟩
      show RBn (n + 2) (thenR th ls a (wantOf (mk0 0 ls) a) v _)
      unfold thenR
      split
      · exact ⟨by have := h1.e; simp [addE] at this ⊢; omega, by have := h1.o; simp [addE] at this ⊢; omega, by have := h1.p; simp [addE] at this ⊢; omega⟩
      · exact ⟨by have := h1.e; omega, by have := h1.o; omega, by have := h1.p; omega⟩
  · cases h
    have := tail_len hb th (wantOf (mk0 0 ls) a) u0
    show RBn (n + 2) (tailR th (wantOf (mk0 0 ls) a) u0 r)
    exact ⟨by have := this.e; omega, by have := this.o; omega, by have := this.p; omega⟩
theorem step_used {th : Int} {reads : List U} {a : Ac} {ls : List U} {r : Rn} {x : U × Rn} (h : stepR th reads a ls r = .inr x) (hu : r.used ≤ reads.length) : x.2.used ≤ reads.length := by
  unfold stepR at h
  split at h
  · split at h
    · cases h
    · rename_i v hv
      cases h
      have hl := (List.getElem?_eq_some_iff.1 hv).1
      show (thenR th ls a (wantOf (mk0 0 ls) a) v _).used ≤ _
      unfold thenR
      split
      · show r.used + 1 ≤ _; omega
      · show r.used + 1 ≤ _; omega
  · cases h
    show (tailR th (wantOf (mk0 0 ls) a) u0 r).used ≤ _
    unfold tailR
    split
    · exact hu
    · exact hu
theorem then_used (th : Int) (ls : List U) (a : Ac) (w : Wt) (v : U) (r : Rn) : (thenR th ls a w v r).used = r.used := by
  unfold thenR; split <;> rfl
section
variable {m0 m m' : M} {g : Gs} {r : Rn} {T8 T10 T11 Lb k na : Nat} {cells th f : Int} {rl lv : Value} {t : Th} {i : Nat} {a : Ac} {ls : List U} {c : Nat} {tm : Tm}
theorem ref_want {reads : List U} {res : Int × Int × Rn} {n : Nat} (hc : cells ≤ 4096) (hA : At m0 t k na cells i a) (hm0 : m0.base ≤ m0.n) (hrd : Rd m0 rl 1 wordRow reads) (hrn : reads.length ≤ 9223372036854775807) (hls : ls.length = k) (hk : k ≤ 24) (hi : i < 9223372036854775807) (how : ownB a = false)
    (hb : RBn n r) (hn : n + 2 ≤ 200000) (hu : r.used ≤ reads.length) (h : RJ m0 m g r (sg t i Lb c k ls g 0 0 r.used T8 T10 T11)) (hT : RTr tm th rl f T8 T10 T11) {N : Nat} {kn : K} {ke : Nat → K}
    (hun : ∀ l, stepR th reads a ls r = .inl l → res = (2, l, r))
    (H : ∀ x t' m' g' Lb' c', stepR th reads a ls r = .inr x → RTr t' th rl f T8 T10 T11 → (doneL ls a x.1).length = k → RJ m0 m' g' x.2 (sg t (i + 1) Lb' c' k (doneL ls a x.1) g' 0 0 x.2.used T8 T10 T11) → Ret m0 (RunP m0 res) (kn t' m')) :
    Ret m0 (RunP m0 res) (ca1_38 (ex Tryz.prog (N + 65542)) kn ke (resK [.cell 8 9, .t 9]) tm m) := by
  obtain ⟨t1, t2, t3, t8, t10, t11⟩ := hT
  have S := h.st.sees
  have l4 : loads m ⟨T10, 0, none⟩ 4 = some (stL t i (lvS Lb c k)) := (h.get 1 rfl).loads (n := 4) (by simp [stL])
  obtain ⟨v1, m1, c1, c2, rfl⟩ := Wants_c hc (hA.sees S) (sv_of (c := c) (h.get 0 rfl) (h.st.get 0 rfl).2.1 hls) hls how N S.self.base
  have h1 := h.step c2
  have h2 := h1.row Z6
  obtain ⟨m2, hm2⟩ : ∃ m2, m2 = Dx.newRow m1 Z6 := ⟨_, rfl⟩
  rw [← hm2] at h2
  obtain ⟨w, hw⟩ : ∃ w, w = wantOf (mk0 i ls) a := ⟨_, rfl⟩
  have hw0 : wantOf (mk0 0 ls) a = w := by rw [hw]; rfl
  rw [← hw] at c1
  obtain ⟨m3, w1, w2, w3⟩ := h2.fill 0 rfl (n := 6) (l' := wtL w) rfl rfl (wtL_ok w)
  have h3 : RJ m0 m3 g r ((m1.n, wtL w) :: sg t i Lb c k ls g 0 0 r.used T8 T10 T11) := w2
  have lw : ∀ o s, load1 m3 ⟨m1.n, o, s⟩ = (wtL w)[o]? := fun o s => (h3.get 0 rfl).load1 o s
  have lr : ∀ o s, load1 m3 ⟨T11, o, s⟩ = (rRow g.1 g.2.1 g.2.2 0 0 r.used)[o]? := fun o s => (h3.get 3 rfl).load1 o s
  simp only [wtL] at lw
  simp only [rRow] at lr
  have hop := hA.g.op
  have hwh := want_what (mk0 i ls) a
  rw [← hw] at hwh
  -- the last stage
  have fs : ∀ {x : U × Rn} {mm : M} {gg : Gs} {tt : Tm}, stepR th reads a ls r = .inr x → RJ m0 mm gg x.2 ((m1.n, wtL w) :: sg t i Lb c k ls gg 0 0 x.2.used T8 T10 T11) → RTr tt th rl f T8 T10 T11 → Tm.get 13 tt = uv x.1.1 →
      Ret m0 (RunP m0 res) (seqI oa1_34 (ex Tryz.prog (N + 65542)) kn tt mm) := fun {x mm gg tt} hx hr hT ht13 =>
    tail36 (N := N + 65540) hA hm0 hls hk hi how (hr.sub (fun p hp => List.mem_cons_of_mem _ hp) (by have := hr.st.nd; simp at this ⊢; exact this.2)) hT ht13 (fun t' m' Lb' c' hT' hl hr' => H x t' m' gg Lb' c' hx hT' hl hr')
  have hTT : ∀ {tt : Tm}, (∀ q, q ∈ [1, 2, 3, 8, 10, 11] → Tm.get q tt = Tm.get q tm) → RTr tt th rl f T8 T10 T11 := fun {tt} hq =>
    ⟨by rw [hq 1 (by simp), t1], by rw [hq 2 (by simp), t2], by rw [hq 3 (by simp), t3], by rw [hq 8 (by simp), t8], by rw [hq 10 (by simp), t10], by rw [hq 11 (by simp), t11]⟩
  rcases hwh with q | q | q | q
  · -- a load
    have dq : decide (w.what = 1) = true := decide_eq_true q
    have hlen : lenS rl = some (.int .i64 (reads.length : Int)) := hrd.len
    cases hr : reads[r.used]? with
    | none =>
      have hge := List.getElem?_eq_none_iff.1 hr
      have du : decide ((r.used : Int) = (reads.length : Int)) = true := decide_eq_true (by omega)
      have du' : decide (r.used = reads.length) = true := decide_eq_true (by omega)
      have hs : stepR th reads a ls r = .inl w.loc := by unfold stepR; rw [hw0, if_pos q, hr]
      rw [hun _ hs]
      obtain ⟨m4, p1, p2, p3⟩ := h3.store 3 rfl (o := 6) (v := .int .i64 2) (by simp [rRow]) rfl
      have p2' : RJ m0 m4 g r ((m1.n, wtL w) :: sg t i Lb c k ls g 2 0 r.used T8 T10 T11) := p2
      have lw4 : ∀ o s, load1 m4 ⟨m1.n, o, s⟩ = (wtL w)[o]? := fun o s => (p2'.get 0 rfl).load1 o s
      simp only [wtL] at lw4
      obtain ⟨m5, q1, q2, q3⟩ := p2'.store 3 rfl (o := 7) (v := .int .i64 w.loc) (by simp [rRow]) rfl
      have q2' : RJ m0 m5 g r ((m1.n, wtL w) :: sg t i Lb c k ls g 2 w.loc r.used T8 T10 T11) := q2
      obtain ⟨e1, me, e2, e3⟩ := ref_end q2' 4 3 rfl rfl rfl
      simp [t10, t11, t2, loadNS_ptr, l4, c1, ← hm2, w1, lw, dq, lr, hlen, du, du', p1, lw4, q1, e1, t8, e2]
      exact e3 _ (by simp [t8]) (by simp)
    | some v =>
      have hl := (List.getElem?_eq_some_iff.1 hr).1
      have du : decide ((r.used : Int) = (reads.length : Int)) = false := decide_eq_false (by omega)
      have du' : decide (r.used = reads.length) = false := decide_eq_false (by omega)
      obtain ⟨y1, y2⟩ := hrd.at1 (g := fun u : U => uv u.1) hr
      have y2' := y2 m3 h3.st.sees
      have nu := nextI (i := r.used) (by omega)
      obtain ⟨r1, hr1⟩ : ∃ r1 : Rn, r1 = { r with used := r.used + 1 } := ⟨_, rfl⟩
      obtain ⟨m4, p1, p2, p3⟩ := h3.store 3 rfl (o := 8) (v := iv r1.used) (by simp [rRow]) rfl
      have hu1 : r1.used = r.used + 1 := by rw [hr1]
      rw [← hu1] at nu
      have p2' : RJ m0 m4 g r1 ((m1.n, wtL w) :: sg t i Lb c k ls g 0 0 r1.used T8 T10 T11) := by
        have := p2
        subst hr1
        exact ⟨this.st, this.ge, this.go, this.gr, this.sep, this.eo, this.or_⟩
      have lw4 : ∀ o s, load1 m4 ⟨m1.n, o, s⟩ = (wtL w)[o]? := fun o s => (p2'.get 0 rfl).load1 o s
      have lr4 : ∀ o s, load1 m4 ⟨T11, o, s⟩ = (rRow g.1 g.2.1 g.2.2 0 0 r1.used)[o]? := fun o s => (p2'.get 3 rfl).load1 o s
      simp only [wtL] at lw4
      simp only [rRow] at lr4
      obtain ⟨e, he⟩ : ∃ e, e = evOf th 1 w v := ⟨_, rfl⟩
      have hb1 : RBn n r1 := by rw [hr1]; exact ⟨hb.e, hb.o, hb.p⟩
      obtain ⟨v5, m6, m7, s1, s2, s3⟩ := p2'.evStep 3 rfl (hb1.rb (by omega)) e
      obtain ⟨m5, hm5⟩ : ∃ m5, m5 = Dx.newRow m4 (ev5Row e) := ⟨_, rfl⟩
      rw [← hm5] at s1
      have bse : bsliceS 5 1 (rep 1 [.int .i64 0, .int .i64 0, .int .i64 0, .int .u64 0, .int .i64 0]) [(0, 5, .agg ⟨ev5Row e⟩)] m4 = some (Value.slice (some ⟨m4.n, 0, some 11⟩) 1 1, m5) := by rw [hm5]; exact bs_ev _ _ _ _ _ _
      have be : buildV [.int .i64 0, .int .i64 0, .int .i64 0, .int .u64 0, .int .i64 0] [(0, 1, .int .i64 th), (1, 1, .int .i64 1), (2, 1, .int .i64 w.loc), (3, 1, uv v.1), (4, 1, .int .i64 w.mode)] = some (.agg ⟨ev5Row e⟩) := by rw [he]; exact ev_b1 _ _ _ _ _
      have h7 : RJ m0 m7 (v5, g.2) (addE r1 e) ((m1.n, wtL w) :: sg t i Lb c k ls (v5, g.2) 0 0 (addE r1 e).used T8 T10 T11) := s3
      have lw7 : ∀ o s, load1 m7 ⟨m1.n, o, s⟩ = (wtL w)[o]? := fun o s => (h7.get 0 rfl).load1 o s
      simp only [wtL] at lw7
      have hs : stepR th reads a ls r = .inr (v, thenR th ls a w v (addE r1 e)) := by unfold stepR; rw [hw0, if_pos q, hr, hr1, he]
      cases hx : w.ex with
      | false =>
        rw [hx] at lw7
        have hth : thenR th ls a w v (addE r1 e) = addE r1 e := by unfold thenR; rw [if_neg (by rw [hx]; simp)]
        rw [hth] at hs
        simp [t1, t10, t11, t2, loadNS_ptr, l4, c1, ← hm2, w1, lw, dq, lr, hlen, du, du', y1, y2', nu, p1, lw4, lr4, be, bse, s1, s2, lw7, -oa1_34_ap]
        exact fs hs (by rw [show (addE r1 e).used = r1.used from rfl] at h7; exact h7) (hTT fun q hq => by simp only [List.mem_cons, List.not_mem_nil, or_false] at hq; rcases hq with rfl | rfl | rfl | rfl | rfl | rfl <;> simp) (by simp)
      | true =>
        rw [hx] at lw7
        simp [t1, t10, t11, t2, loadNS_ptr, l4, c1, ← hm2, w1, lw, dq, lr, hlen, du, du', y1, y2', nu, p1, lw4, lr4, be, bse, s1, s2, lw7, -oa1_34_ap, -ca1_21_ap]
        have hu2 : (addE r1 e).used = r1.used := rfl
        have h7' := h7.sub (σ' := sg t i Lb c k ls (v5, g.2) 0 0 (addE r1 e).used T8 T10 T11) (fun p hp => List.mem_cons_of_mem _ hp) (by have := h7.st.nd; simp at this ⊢; exact this.2)
        have hb7 : RBn 200000 (addE r1 e) := ⟨by have := hb1.e; simp [addE]; omega, by have := hb1.o; simp [addE]; omega, by have := hb1.p; simp [addE]; omega⟩
        have hxop := want_ex (mk0 i ls) a how hop (by rw [← hw]; exact hx)
        refine then_stage (v := v) (w := w) (f := f) (th := th) (rl := rl) hc hA hls hxop hx hb7 h7' (hTT fun q hq => by simp only [List.mem_cons, List.not_mem_nil, or_false] at hq; rcases hq with rfl | rfl | rfl | rfl | rfl | rfl <;> simp) (by simp) (fun t' m' g' hT' ht13 hr' => ?_)
        rw [← then_used th ls a w v (addE r1 e)] at hr'
        simp [-oa1_34_ap]
        exact tail36 (N := N + 65540) hA hm0 hls hk hi how hr' hT' ht13 (fun t' m' Lb' c' hT' hl hr' => H (v, thenR th ls a w v (addE r1 e)) t' m' g' Lb' c' hs hT' hl hr')
  · -- a store
    have dq : decide (w.what = 2) = true := decide_eq_true q
    have d1 : decide (w.what = 1) = false := decide_eq_false (by omega)
    obtain ⟨e, he⟩ : ∃ e, e = evOf th 2 w w.val := ⟨_, rfl⟩
    obtain ⟨v5, m6, m7, s1, s2, s3⟩ := h3.evStep 3 rfl (hb.rb (by omega)) e
    obtain ⟨m5, hm5⟩ : ∃ m5, m5 = Dx.newRow m3 (ev5Row e) := ⟨_, rfl⟩
    rw [← hm5] at s1
    have bse : bsliceS 5 1 (rep 1 [.int .i64 0, .int .i64 0, .int .i64 0, .int .u64 0, .int .i64 0]) [(0, 5, .agg ⟨ev5Row e⟩)] m3 = some (Value.slice (some ⟨m3.n, 0, some 11⟩) 1 1, m5) := by rw [hm5]; exact bs_ev _ _ _ _ _ _
    have be : buildV [.int .i64 0, .int .i64 0, .int .i64 0, .int .u64 0, .int .i64 0] [(0, 1, .int .i64 th), (1, 1, .int .i64 2), (2, 1, .int .i64 w.loc), (3, 1, uv w.val.1), (4, 1, .int .i64 w.mode)] = some (.agg ⟨ev5Row e⟩) := by rw [he]; exact ev_b1 _ _ _ _ _
    have hex : w.ex = false := by
      cases hc : w.ex with
      | false => rfl
      | true =>
        have := want_ex (mk0 i ls) a how hop (by rw [← hw]; exact hc)
        have hx : w.what = 1 := by
          rw [hw]; unfold wantOf
          rw [if_neg (by omega), if_neg (by omega), if_neg (by omega), if_neg (by omega)]; rfl
        omega
    have hs : stepR th reads a ls r = .inr (u0, addE r e) := by
      unfold stepR; rw [hw0, if_neg (by omega)]
      unfold tailR; rw [if_neg (by omega), hex, if_neg (by simp)]
      have : eventOf th w u0 = e := by rw [he]; unfold eventOf evOf; rw [if_neg (by omega), if_pos q]
      rw [this]; rfl
    have h7 : RJ m0 m7 (v5, g.2) (addE r e) ((m1.n, wtL w) :: sg t i Lb c k ls (v5, g.2) 0 0 (addE r e).used T8 T10 T11) := s3
    simp [t1, t10, t11, t2, loadNS_ptr, l4, c1, ← hm2, w1, lw, dq, d1, lr, be, bse, s1, s2, -oa1_34_ap]
    exact fs hs h7 (hTT fun q hq => by simp only [List.mem_cons, List.not_mem_nil, or_false] at hq; rcases hq with rfl | rfl | rfl | rfl | rfl | rfl <;> simp) (by simp [u0])
  · -- a fence
    have dq : decide (w.what = 3) = true := decide_eq_true q
    have d1 : decide (w.what = 1) = false := decide_eq_false (by omega)
    have d2 : decide (w.what = 2) = false := decide_eq_false (by omega)
    obtain ⟨e, he⟩ : ∃ e, e = eventOf th w u0 := ⟨_, rfl⟩
    obtain ⟨v5, m6, m7, s1, s2, s3⟩ := h3.evStep 3 rfl (hb.rb (by omega)) e
    obtain ⟨m5, hm5⟩ : ∃ m5, m5 = Dx.newRow m3 (ev5Row e) := ⟨_, rfl⟩
    rw [← hm5] at s1
    have bse : bsliceS 5 1 (rep 1 [.int .i64 0, .int .i64 0, .int .i64 0, .int .u64 0, .int .i64 0]) [(0, 5, .agg ⟨ev5Row e⟩)] m3 = some (Value.slice (some ⟨m3.n, 0, some 11⟩) 1 1, m5) := by rw [hm5]; exact bs_ev _ _ _ _ _ _
    have hee : e = ⟨th, 3, -1, u0, w.mode⟩ := by rw [he]; unfold eventOf; rw [if_neg (by omega), if_neg (by omega)]
    have be : buildV [.int .i64 0, .int .i64 0, .int .i64 0, .int .u64 0, .int .i64 0] [(0, 1, .int .i64 th), (1, 1, .int .i64 3), (2, 1, .int .i64 (-1)), (4, 1, .int .i64 w.mode)] = some (.agg ⟨ev5Row e⟩) := by rw [hee]; exact ev_b2 _ _ _ _
    have hs : stepR th reads a ls r = .inr (u0, addE r e) := by
      unfold stepR; rw [hw0, if_neg (by omega)]
      unfold tailR; rw [if_neg (by omega), if_neg (by omega), he]; rfl
    have h7 : RJ m0 m7 (v5, g.2) (addE r e) ((m1.n, wtL w) :: sg t i Lb c k ls (v5, g.2) 0 0 (addE r e).used T8 T10 T11) := s3
    simp [t1, t10, t11, t2, loadNS_ptr, l4, c1, ← hm2, w1, lw, dq, d1, d2, lr, be, bse, s1, s2, -oa1_34_ap]
    exact fs hs h7 (hTT fun q hq => by simp only [List.mem_cons, List.not_mem_nil, or_false] at hq; rcases hq with rfl | rfl | rfl | rfl | rfl | rfl <;> simp) (by simp [u0])
  · -- a print
    have d1 : decide (w.what = 1) = false := decide_eq_false (by omega)
    have d2 : decide (w.what = 2) = false := decide_eq_false (by omega)
    have d3 : decide (w.what = 3) = false := decide_eq_false (by omega)
    obtain ⟨v5, m6, m7, s1, s2, s3⟩ := h3.outStep 3 rfl (hb.rb (by omega)) w.val
    obtain ⟨m5, hm5⟩ : ∃ m5, m5 = Dx.newRow m3 [uv w.val.1] := ⟨_, rfl⟩
    rw [← hm5] at s1
    have bse : bsliceS 1 1 (rep 1 [.int .u64 0]) [(0, 1, uv w.val.1)] m3 = some (Value.slice (some ⟨m3.n, 0, some 3⟩) 1 1, m5) := by rw [hm5]; exact bs_u _ _
    have hs : stepR th reads a ls r = .inr (u0, { r with outs := r.outs ++ [w.val] }) := by
      unfold stepR; rw [hw0, if_neg (by omega)]
      unfold tailR; rw [if_pos q]
    have h7 : RJ m0 m7 (g.1, v5, g.2.2) { r with outs := r.outs ++ [w.val] } ((m1.n, wtL w) :: sg t i Lb c k ls (g.1, v5, g.2.2) 0 0 r.used T8 T10 T11) := s3
    simp [t1, t10, t11, t2, loadNS_ptr, l4, c1, ← hm2, w1, lw, d1, d2, d3, lr, bse, s1, s2, -oa1_34_ap]
    exact fs hs h7 (hTT fun q hq => by simp only [List.mem_cons, List.not_mem_nil, or_false] at hq; rcases hq with rfl | rfl | rfl | rfl | rfl | rfl <;> simp) (by simp [u0])
end
end Go.Sx
/- The reference's run. -/
namespace Go.Sx
open Go.Dx Go.Proofs
set_option maxRecDepth 10000
section
variable {m0 m m' : M} {g : Gs} {r : Rn} {T8 T10 T11 Lb k na : Nat} {cells th f : Int} {rl lv : Value} {t : Th} {i : Nat} {a : Ac} {ls : List U} {c : Nat} {tm : Tm}
theorem ref_loop {reads : List U} {F : Nat} (hc : cells ≤ 4096) (hav : Rd m0 t.av 11 acRow t.acts) (hok : ∀ a ∈ t.acts, AcOK m0 a) (hgs : ∀ a ∈ t.acts, AcG k t.acts.length cells a) (hm0 : m0.base ≤ m0.n) (hrd : Rd m0 rl 1 wordRow reads) (hrn : reads.length ≤ 9223372036854775807) (hk : k ≤ 24) (hal : t.acts.length ≤ 65536) (hF : F ≤ 100000)
    (hls : ls.length = k) (h : RJ m0 m g ⟨[], [], [], 0⟩ (sg t 0 Lb c k ls g 0 0 0 T8 T10 T11)) {N : Nat} {kn : K} {ke : Nat → K} (hT : RTr tm th rl (F : Int) T8 T10 T11) :
    Ret m0 (RunP m0 (refR th reads t.acts F 0 ls ⟨[], [], [], 0⟩)) (ca1_48 (ex Tryz.prog (N + 65542)) kn ke (resK [.cell 8 9, .t 9]) tm m) := by
  obtain ⟨res, hres⟩ : ∃ res, res = refR th reads t.acts F 0 ls ⟨[], [], [], 0⟩ := ⟨_, rfl⟩
  rw [← hres]
  simp
  refine loop_run (c := ca1_44) rfl (Ret m0 _) (fun j tt m' => ∃ i ls r g Lb c, RTr tt th rl ((F - j : Nat) : Int) T8 T10 T11 ∧ RBn (2 * j) r ∧ r.used ≤ reads.length ∧ ls.length = k ∧ RJ m0 m' g r (sg t i Lb c k ls g 0 0 r.used T8 T10 T11) ∧ res = refR th reads t.acts (F - j) i ls r) F (by omega)
    ⟨0, ls, ⟨[], [], [], 0⟩, g, Lb, c, by rw [Nat.sub_zero]; exact hT, ⟨by simp, by simp, by simp⟩, Nat.zero_le _, hls, h, by rw [Nat.sub_zero]; exact hres⟩ (fun j tt m' k' hj hI hk' => ?_)
  obtain ⟨i, ls, r, g, Lb, c, hT, hrbn, hu, hls, hR, hrun⟩ := hI
  have ⟨t1, t2, t3, t8, t10, t11⟩ := hT
  have lS : ∀ o s, load1 m' ⟨T10, o, s⟩ = (stL t i (lvS Lb c k))[o]? := fun o s => (hR.get 1 rfl).load1 o s
  have l4 : loads m' ⟨T10, 0, none⟩ 4 = some (stL t i (lvS Lb c k)) := (hR.get 1 rfl).loads (n := 4) (by simp [stL])
  simp only [stL] at lS
  have hlen : lenS t.av = some (.int .i64 (t.acts.length : Int)) := hav.len
  obtain ⟨f', hf'⟩ : ∃ f', f' = F - j := ⟨_, rfl⟩
  rw [← hf'] at t3 hrun hT
  cases hat : t.acts[i]? with
  | none =>
    have hge := List.getElem?_eq_none_iff.1 hat
    have dl : decide ((i : Int) < (t.acts.length : Int)) = false := decide_eq_false (by omega)
    have dl' : ((i : Int) < (t.acts.length : Int)) = False := eq_false (by omega)
    have dl'' : (i < t.acts.length) = False := eq_false (by omega)
    have hr : res = (1, 0, r) := by rw [hrun]; unfold refR; rw [hat]
    rw [hr]
    obtain ⟨m1, p1, p3, p4⟩ := hR.store 2 rfl (o := 6) (v := .int .i64 1) (by simp [rRow]) rfl
    have h1' : RJ m0 m1 g r (sg t i Lb c k ls g 1 0 r.used T8 T10 T11) := p3
    obtain ⟨e1, me, e2, e3⟩ := ref_end h1' 3 2 rfl rfl rfl
    simp [t10, t11, lS, hlen, dl', dl'', p1, e1, loadNS_ptr, t8, e2]
    exact e3 _ (by simp [t8]) (by simp)
  | some a =>
  have hlt := (List.getElem?_eq_some_iff.1 hat).1
  have hmem := List.mem_of_getElem? hat
  have dl := dlt hlt
  have dl'' : (i < t.acts.length) = True := eq_true hlt
  have hA : At m0 t k t.acts.length cells i a := ⟨hav, hat, hok a hmem, hgs a hmem⟩
  cases f' with
  | zero =>
    have hr : res = (4, 0, r) := by rw [hrun]; unfold refR; rw [hat]
    rw [hr]
    have t3' : Tm.get 3 tt = iv 0 := t3
    obtain ⟨m1, p1, p3, p4⟩ := hR.store 2 rfl (o := 6) (v := .int .i64 4) (by simp [rRow]) rfl
    have h1' : RJ m0 m1 g r (sg t i Lb c k ls g 4 0 r.used T8 T10 T11) := p3
    obtain ⟨e1, me, e2, e3⟩ := ref_end h1' 3 2 rfl rfl rfl
    simp [t10, t11, lS, hlen, dl, dl'', t3', p1, e1, loadNS_ptr, t8, e2]
    exact e3 _ (by simp [t8]) (by simp)
  | succ f'' =>
  have hjl : j < F := by omega
  obtain ⟨z, hz⟩ : ∃ z : Int, z = ((f'' + 1 : Nat) : Int) := ⟨_, rfl⟩
  rw [← hz] at t3 hT
  have hz0 : (z = 0) = False := eq_false (by omega)
  have hz0' : decide (z = 0) = false := decide_eq_false (by omega)
  have hzs : binV .sub (.int .i64 z) (.int .i64 1) = some (.int .i64 (f'' : Int)) := by rw [binV_sub, wrap64 _ (by omega) (by omega)]; congr 2; omega
  have hnext : (F - (j + 1) : Nat) = f'' := by omega
  have S := hR.st.sees
  obtain ⟨v1, m1, c1, c2, rfl⟩ := Own_c (hA.sees S) (lvS Lb c k) (N + 65541) S.self.base
  have h1 := hR.step c2
  have l41 : loads m1 ⟨T10, 0, none⟩ 4 = some (stL t i (lvS Lb c k)) := (h1.get 1 rfl).loads (n := 4) (by simp [stL])
  have S1 := h1.st.sees
  cases how : ownB a with
  | true =>
    rw [how] at c1
    have hr : res = refR th reads t.acts f'' (ownS (mk0 i ls) a).at_ (ownS (mk0 i ls) a).ls r := by
      rw [hrun]; conv => lhs; unfold refR
      rw [hat]; simp only; rw [how, if_pos rfl]
    obtain ⟨v2, m2, d1, d2, lv', rfl, d3⟩ := Alone_c (hA.sees S1) (sv_of (c := c) (h1.get 0 rfl) (h1.st.get 0 rfl).2.1 hls) hls hk (by omega) how (N + 1) S1.self.base
    obtain ⟨Lb', c', rfl, e2, e3⟩ := ls_next h1 hls d2 d3
    obtain ⟨i', hi'⟩ : ∃ i', i' = (ownS (mk0 i ls) a).at_ := ⟨_, rfl⟩
    rw [← hi'] at d1 hr
    obtain ⟨m3, w1, w2, w3⟩ := e3.fill 1 rfl (n := 4) (l' := stL t i' (lvS Lb' c' k)) rfl rfl (stL_ok hA.okav rfl)
    simp [-binV_sub, t10, t11, lS, hlen, dl, dl'', t3, hz0, hz0', hzs, l4, loadNS_ptr, c1, l41, d1, w1]
    exact hk' hjl _ _ ⟨i', _, r, g, Lb', c', by rw [hnext]; exact ⟨by simp [t1], by simp [t2], by simp, by simp [t8], by simp [t10], by simp [t11]⟩, ⟨by have := hrbn.e; omega, by have := hrbn.o; omega, by have := hrbn.p; omega⟩, hu, e2, w2, by rw [hnext]; exact hr⟩
  | false =>
    rw [how] at c1
    have hr : res = match stepR th reads a ls r with
        | .inl l => (2, l, r)
        | .inr x => refR th reads t.acts f'' (i + 1) (doneL ls a x.1) x.2 := by
      rw [hrun]; conv => lhs; unfold refR
      rw [hat]; simp only; rw [how, if_neg (by simp)]
      try (cases stepR th reads a ls r <;> rfl)
    simp [-binV_sub, t10, t11, lS, hlen, dl, dl'', t3, hz0, hz0', hzs, l4, loadNS_ptr, c1, -ca1_38_ap]
    refine ref_want (th := th) (rl := rl) (f := (f'' : Int)) (T8 := T8) (N := N) (n := 2 * j) hc hA hm0 hrd hrn hls hk (by omega) how hrbn (by omega) hu h1 ⟨by simp [t1], by simp [t2], by simp, by simp [t8], by simp [t10], by simp [t11]⟩ (fun l hl => by rw [hr, hl]) (fun x t' m' g2 Lb' c' hx hT' hdl hR' => ?_)
    exact hk' hjl _ _ ⟨i + 1, _, x.2, g2, Lb', c', by rw [hnext]; exact hT', step_len hx hrbn, step_used hx hu, hdl, hR', by rw [hnext, hr, hx]⟩
end
theorem Z9_ok : ∀ v ∈ Z9, okC v = true := by simp [okC]
theorem refReplay_c (p : Pg) (th fuel : Int) (rl : Value) (reads : List U) (hrn : reads.length ≤ 9223372036854775807) (N : Nat) (m : M) (hm : m.base ≤ m.n) (hp : PgOK m p) (hrd : Rd m rl 1 wordRow reads) :
    Dx.Call (ex Tryz.prog (N + 65543)) 5 [pgV p, iv th, rl, iv fuel] m fun v m' =>
      (repOK p th fuel → ∃ t, p.ths[th.toNat]? = some t ∧ RunP m (runOf p th reads t fuel.toNat) v m') ∧ (¬ repOK p th fuel → v = .tuple #[.agg ⟨Z9⟩, iv 1]) := by
  refine call_ret da1_ok (by simp) ?_
  have hpv : pgV p = .agg ⟨[iv p.cells, p.tv]⟩ := rfl
  have st1 := (St.nil hm (Ext.refl m)).row [iv p.cells, p.tv]
  obtain ⟨m1, hm1⟩ : ∃ m1, m1 = Dx.newRow m [iv p.cells, p.tv] := ⟨_, rfl⟩
  rw [← hm1] at st1
  have st2 := st1.row Z9
  obtain ⟨m2, hm2⟩ : ∃ m2, m2 = Dx.newRow m1 Z9 := ⟨_, rfl⟩
  rw [← hm2] at st2
  have l2 : loads m2 ⟨m.n, 0, none⟩ 2 = some [iv p.cells, p.tv] := (st2.get 1 rfl).2.2.loads (n := 2) (by simp)
  obtain ⟨v3, m3, c1, c2, rfl⟩ := refWhole_c p (N + 65538) m2 st2.sees.self.base (hp.sees st2.sees)
  have st3 := st2.step c2
  have lp : ∀ o s, load1 m3 ⟨m.n, o, s⟩ = [iv p.cells, p.tv][o]? := fun o s => (st3.get 1 rfl).2.2.load1 o s
  rw [hpv] at c1 ⊢
  -- the refusals
  obtain ⟨me, w1, w2, w3, w4⟩ := st3.fill 0 rfl (n := 9) (l' := Z9) rfl rfl Z9_ok
  have lf : loads me ⟨m1.n, 0, none⟩ 9 = some Z9 := (w2.get 0 rfl).2.2.loads (n := 9) (by simp)
  have bad : ∀ (t : Tm), ¬ repOK p th fuel → Tm.get 8 t = .pointer (some ⟨m1.n, 0, none⟩) → Tm.get 9 t = iv 1 → Ret m (fun v m' => (repOK p th fuel → ∃ t, p.ths[th.toNat]? = some t ∧ RunP m (runOf p th reads t fuel.toNat) v m') ∧ (¬ repOK p th fuel → v = .tuple #[.agg ⟨Z9⟩, iv 1])) (resK [.cell 8 9, .t 9] t me) := fun t hn t8 t9 => by
    refine ret_of (l := [.agg ⟨Z9⟩, iv 1]) ?_ w2.ext ⟨fun h => absurd h hn, fun _ => rfl⟩
    simp only [resV, resOne, t8, vPtr_ptr, ob_some', lf, t9]
  obtain ⟨n, hn⟩ : ∃ n, n = p.ths.length := ⟨_, rfl⟩
  have hll : lenS p.tv = some (.int .i64 (n : Int)) := by rw [hn]; exact hp.tv.len
  cases hB : pgB p with
  | false =>
    rw [hB] at c1
    simp [← hm1, ← hm2, l2, loadNS_ptr, c1, Z9_b, w1]
    exact bad _ (fun h => by have := h.1; rw [hB] at this; cases this) (by simp) (by simp)
  | true =>
  rw [hB] at c1
  by_cases h1 : th < 0
  · have e1 : (th < 0) = True := eq_true h1
    simp [← hm1, ← hm2, l2, loadNS_ptr, c1, e1, Z9_b, w1]
    exact bad _ (fun h => by have := h.2.1; omega) (by simp) (by simp)
  have e1 : (th < 0) = False := eq_false h1
  by_cases h2 : (n : Int) ≤ th
  · have e2 : ((n : Int) ≤ th) = True := eq_true h2
    simp [← hm1, ← hm2, l2, loadNS_ptr, c1, e1, lp, hll, e2, Z9_b, w1]
    exact bad _ (fun h => by have := h.2.2.1; omega) (by simp) (by simp)
  have e2 : ((n : Int) ≤ th) = False := eq_false h2
  by_cases h3 : fuel < 0
  · have e3 : (fuel < 0) = True := eq_true h3
    simp [← hm1, ← hm2, l2, loadNS_ptr, c1, e1, lp, hll, e2, e3, Z9_b, w1]
    exact bad _ (fun h => by have := h.2.2.2.1; omega) (by simp) (by simp)
  have e3 : (fuel < 0) = False := eq_false h3
  by_cases h4 : 100000 < fuel
  · have e4 : (100000 < fuel) = True := eq_true h4
    simp [← hm1, ← hm2, l2, loadNS_ptr, c1, e1, lp, hll, e2, e3, e4, Z9_b, w1]
    exact bad _ (fun h => by have := h.2.2.2.2; omega) (by simp) (by simp)
  have e4 : (100000 < fuel) = False := eq_false h4
  have hOK : repOK p th fuel := ⟨hB, by omega, by omega, by omega, by omega⟩
  obtain ⟨q, hq⟩ : ∃ q : Nat, th = q := ⟨th.toNat, by omega⟩
  have hqt : th.toNat = q := by omega
  obtain ⟨t, ht⟩ : ∃ t, p.ths[q]? = some t := ⟨_, List.getElem?_eq_getElem (by omega)⟩
  have hthok := hp.ths t (List.mem_of_getElem? ht)
  have htB : thB p.cells t = true := by
    have := hB
    unfold pgB at this
    simp only [Bool.and_eq_true] at this
    exact List.all_eq_true.1 this.2.2 t (List.mem_of_getElem? ht)
  have hcells : p.cells ≤ 4096 := by
    have := hB
    unfold pgB at this
    simp only [Bool.and_eq_true, decide_eq_true_eq] at this
    exact this.1.2
  unfold thB at htB
  simp only [Bool.and_eq_true, decide_eq_true_eq] at htB
  obtain ⟨⟨hl0, hl1⟩, htl, hacts⟩ := htB
  have hgs : ∀ a ∈ t.acts, AcG t.loc.toNat t.acts.length p.cells a := fun a ha => actB_g (List.all_eq_true.1 hacts a ha)
  have hrun : runOf p th reads t fuel.toNat = refR th reads t.acts fuel.toNat 0 (List.replicate t.loc.toNat u0) ⟨[], [], [], 0⟩ := by
    unfold runOf
    rw [← ref_run (fun a ha => (hgs a ha).op) fuel.toNat (ms0 t.loc.toNat) ⟨[], [], [], 0⟩ rfl]; rfl
  suffices HH : Ret m (RunP m (refR th reads t.acts fuel.toNat 0 (List.replicate t.loc.toNat u0) ⟨[], [], [], 0⟩)) (ca1_52 (ex Tryz.prog (N + 65542)) (resK [.cell 8 9, .t 9]) noK (resK [.cell 8 9, .t 9]) (initT .blank 0 [.agg ⟨[iv p.cells, p.tv]⟩, iv th, rl, iv fuel]) m) by
    refine ret_mono HH fun v m' hr => ⟨fun _ => ⟨t, by rw [hqt]; exact ht, ?_⟩, fun hn => absurd hOK hn⟩
    rw [hrun]; exact hr
  have ⟨a1, a2, _⟩ := hp.tv.at ht
  have a2' := a2 m3 st3.sees
  have okav : okC t.av = true := hthok.av.okV
  obtain ⟨v4, m4, d1, d2, lv, rfl, d3⟩ := Begin_c t t.loc.toNat (by omega) (by omega) okav (sl_of hthok.av) (N + 65541) m3 st3.sees.self.base
  obtain ⟨Lb, c, rfl, b1, b2, b3, b4⟩ := d3
  have st4 := st3.step d2
  have st5 := st4.row Z4
  obtain ⟨m5, hm5⟩ : ∃ m5, m5 = Dx.newRow m4 Z4 := ⟨_, rfl⟩
  rw [← hm5] at st5
  obtain ⟨m6, s1, s2, s3, s4⟩ := st5.fill 0 rfl (n := 4) (l' := stL t 0 (lvS Lb c t.loc.toNat)) rfl rfl (stL_ok okav rfl)
  have st6 : St m m6 [(m4.n, stL t 0 (lvS Lb c t.loc.toNat)), (m1.n, Z9), (m.n, [iv p.cells, p.tv])] := s2
  have st7 := st6.row Z9
  obtain ⟨m7, hm7⟩ : ∃ m7, m7 = Dx.newRow m6 Z9 := ⟨_, rfl⟩
  rw [← hm7] at st7
  have hn5 : m5.n = m4.n + 1 := by rw [hm5]; exact newRow_n _ _
  have hn7 : m7.n = m6.n + 1 := by rw [hm7]; exact newRow_n _ _
  have hLb : Arr m7 Lb (lsR (List.replicate t.loc.toNat u0)) := by
    refine b3.congr ?_
    rw [hm7, (Ext.row m6 Z9).obj Lb (by omega), s4 Lb (by omega), hm5, (Ext.row m4 Z4).obj Lb (by omega)]
  have st8 := st7.add (B := Lb) (by have := st3.ext.n; omega) (by omega) hLb (fun p hp => by
    simp only [List.mem_cons, List.not_mem_nil, or_false] at hp
    have q1 := (st3.get 0 rfl).2.1
    have q2 := (st3.get 1 rfl).2.1
    rcases hp with rfl | rfl | rfl | rfl
    · show m6.n ≠ Lb; omega
    · show m4.n ≠ Lb; omega
    · show m1.n ≠ Lb; omega
    · show m.n ≠ Lb; omega)
  have nd8 := st8.nd
  simp at nd8
  have st9 := st8.sub (σ' := sg t 0 Lb c t.loc.toNat (List.replicate t.loc.toNat u0) (.slice none 0 0, .slice none 0 0, .slice none 0 0) 0 0 0 m1.n m4.n m6.n) (fun p hp => by
    simp only [sg, List.mem_cons, List.not_mem_nil, or_false] at hp ⊢
    rcases hp with rfl | rfl | rfl | rfl
    · exact .inl rfl
    · exact .inr (.inr (.inl rfl))
    · exact .inr (.inl rfl)
    · exact .inr (.inr (.inr (.inl rfl)))) (by simp; omega)
  have hRJ : RJ m m7 (.slice none 0 0, .slice none 0 0, .slice none 0 0) ⟨[], [], [], 0⟩ (sg t 0 Lb c t.loc.toNat (List.replicate t.loc.toNat u0) (.slice none 0 0, .slice none 0 0, .slice none 0 0) 0 0 0 m1.n m4.n m6.n) := by
    refine ⟨st9, .nil, .nil, .nil, fun B hB => ?_, fun B hB => ?_, fun B hB => ?_⟩
    · rcases hB with hB | hB | hB <;> cases hB
    · cases hB
    · cases hB
  obtain ⟨F, hF⟩ : ∃ F : Nat, fuel = F := ⟨fuel.toNat, by omega⟩
  have hFt : fuel.toNat = F := by omega
  rw [hFt]
  have a2'' := a2'
  simp only [thRow] at a2' d1
  rw [hq] at e1 e2 ⊢
  simp [← hm1, ← hm2, l2, loadNS_ptr, c1, e1, lp, hll, e2, e3, e4, a1, a2', d1, ← hm5, s1, ← hm7, -ca1_48_ap]
  exact ref_loop (cells := p.cells) hcells hthok.av hthok.acts hgs hm hrd hrn (by omega) htl (by omega) List.length_replicate hRJ ⟨by simp, by simp, by simp [hF], by simp, by simp, by simp⟩
end Go.Sx
/- The reference's Same: of two programs that are alike it is true. -/
namespace Go.Sx
open Go.Dx Go.Proofs
set_option maxRecDepth 10000
theorem nd_eq (e : Nd) : eqFlat [1, 1, 1, 1] (nodeRow e) (nodeRow e) = some true := by unfold nodeRow; rw [eqFlat_int, eqFlat_int, eqFlat_int, eqFlat_int]; rfl
theorem sameNodes_eq (ls : List Nd) (hl : ls.length ≤ 9223372036854775807) (a b : Value) (N : Nat) (m : M) (hm : m.base ≤ m.n) (ha : Rd m a 4 nodeRow ls) (hb : Rd m b 4 nodeRow ls) : CallV (ex Tryz.prog (N + 1)) 31 [a, b] m (.bool true) := by
  refine call_ret dc2_ok (by simp) ?_
  have la := ha.len
  have lb := hb.len
  have S := Sees.refl hm
  simp [la, lb]
  refine loop_run (c := cc2_12) rfl (Ret m _) (fun i t m' => m' = m ∧ Tm.get 0 t = a ∧ Tm.get 1 t = b ∧ Tm.get 5 t = iv i) ls.length hl
    ⟨rfl, by simp, by simp, by simp⟩ (fun i t m' k hi hI hk => ?_)
  obtain ⟨rfl, t0, t1, t5⟩ := hI
  by_cases hil : i < ls.length
  · have hd := dlt hil
    have hd' : (i < ls.length) = True := eq_true hil
    have ni := nextI (i := i) (by omega)
    obtain ⟨u, hu⟩ : ∃ r, ls[i]? = some r := ⟨_, List.getElem?_eq_getElem hil⟩
    obtain ⟨a1, a2, _⟩ := ha.at hu
    obtain ⟨b1, b2, _⟩ := hb.at hu
    have a2' := a2 m' S
    have b2' := b2 m' S
    have he := nd_eq u
    simp [t0, t1, t5, la, hd, hd', a1, a2', b1, b2', loadNS_ptr, he, ni]
    exact hk hil _ _ ⟨rfl, by simp [t0], by simp [t1], by simp⟩
  · have hd : ((i : Int) < (ls.length : Int)) = False := eq_false (by omega)
    have hd' : (i < ls.length) = False := eq_false hil
    simp [t0, t1, t5, la, hd, hd']
    exact ret_1 (Ext.refl m') (by simp)
/-- two programs alike: but for where their lists lie -/
structure ThEq (a b : Th) : Prop where
  loc : a.loc = b.loc
  len : a.acts.length = b.acts.length
  acts : ∀ (j : Nat) x, b.acts[j]? = some x → ∃ y, a.acts[j]? = some y ∧ AcEq y x
structure PgEq (p q : Pg) : Prop where
  cells : p.cells = q.cells
  len : p.ths.length = q.ths.length
  ths : ∀ (j : Nat) x, q.ths[j]? = some x → ∃ y, p.ths[j]? = some y ∧ ThEq y x
theorem Same_eq (p q : Pg) (he : PgEq p q) (N : Nat) (m : M) (hm : m.base ≤ m.n) (hp : PgOK m p) (hq : PgOK m q) : CallV (ex Tryz.prog (N + 2)) 9 [pgV p, pgV q] m (.bool true) := by
  refine call_ret da5_ok (by simp) ?_
  obtain ⟨cells, tv, ths⟩ := p
  obtain ⟨cells', tv', ths'⟩ := q
  obtain ⟨rfl, hlen, hths⟩ := he
  simp only at hlen hths
  have st1 := (St.nil hm (Ext.refl m)).row [iv cells, tv]
  obtain ⟨m1, hm1⟩ : ∃ m1, m1 = Dx.newRow m [iv cells, tv] := ⟨_, rfl⟩
  rw [← hm1] at st1
  have st2 := st1.row [iv cells, tv']
  obtain ⟨m2, hm2⟩ : ∃ m2, m2 = Dx.newRow m1 [iv cells, tv'] := ⟨_, rfl⟩
  rw [← hm2] at st2
  have l1 : ∀ o s, load1 m2 ⟨m.n, o, s⟩ = [iv cells, tv][o]? := fun o s => (st2.get 1 rfl).2.2.load1 o s
  have l2 : ∀ o s, load1 m2 ⟨m1.n, o, s⟩ = [iv cells, tv'][o]? := fun o s => (st2.get 0 rfl).2.2.load1 o s
  obtain ⟨n, hn⟩ : ∃ n, n = ths.length := ⟨_, rfl⟩
  have h1l : lenS tv = some (.int .i64 (n : Int)) := by rw [hn]; exact hp.tv.len
  have h2l : lenS tv' = some (.int .i64 (n : Int)) := by rw [hn, hlen]; exact hq.tv.len
  have hnl : n ≤ 9223372036854775807 := by rw [hn]; exact hp.len
  unfold pgV
  simp [← hm1, ← hm2, l1, l2, h1l, h2l]
  refine loop_run (c := ca5_32) rfl (Ret m _) (fun i t m' => St m m' [(m1.n, [iv cells, tv']), (m.n, [iv cells, tv])] ∧ Tm.get 2 t = .pointer (some ⟨m.n, 0, none⟩) ∧ Tm.get 3 t = .pointer (some ⟨m1.n, 0, none⟩) ∧ Tm.get 5 t = iv i) n hnl
    ⟨st2, by simp, by simp, by simp⟩ (fun i t m' k' hi hI hk' => ?_)
  obtain ⟨st, t2, t3, t5⟩ := hI
  have la : ∀ o s, load1 m' ⟨m.n, o, s⟩ = [iv cells, tv][o]? := fun o s => (st.get 1 rfl).2.2.load1 o s
  have lb : ∀ o s, load1 m' ⟨m1.n, o, s⟩ = [iv cells, tv'][o]? := fun o s => (st.get 0 rfl).2.2.load1 o s
  by_cases hil : i < n
  · have hd := dlt hil
    have hd' : (i < n) = True := eq_true hil
    obtain ⟨u, hu⟩ : ∃ r, ths'[i]? = some r := ⟨_, List.getElem?_eq_getElem (by omega)⟩
    obtain ⟨t', ht', hte⟩ := hths i u hu
    obtain ⟨loc, av, acts⟩ := t'
    obtain ⟨loc', av', acts'⟩ := u
    obtain ⟨rfl, hal, hacts⟩ := hte
    simp only at hal hacts
    have ⟨x1, x2, _⟩ := hp.tv.at ht'
    have ⟨y1, y2, _⟩ := hq.tv.at hu
    have x2' := x2 m' st.sees
    have hpt := hp.ths _ (List.mem_of_getElem? ht')
    have hqt := hq.ths _ (List.mem_of_getElem? hu)
    have ni := nextI (i := i) (by omega)
    have ok1 : okC av = true := hpt.av.okV
    have ok2 : okC av' = true := hqt.av.okV
    have s3 := st.row [.int .i64 0, .slice none 0 0]
    obtain ⟨m3, hm3⟩ : ∃ m3, m3 = Dx.newRow m' [.int .i64 0, .slice none 0 0] := ⟨_, rfl⟩
    rw [← hm3] at s3
    obtain ⟨m4, f1, f2, f3, f4⟩ := s3.fill 0 rfl (n := 2) (l' := [iv loc, av]) rfl rfl (by simp [okC]; exact ok1)
    have s4 : St m m4 [(m'.n, [iv loc, av]), (m1.n, [iv cells, tv']), (m.n, [iv cells, tv])] := f2
    have lb4 : ∀ o s, load1 m4 ⟨m1.n, o, s⟩ = [iv cells, tv'][o]? := fun o s => (s4.get 1 rfl).2.2.load1 o s
    have y2' := y2 m4 s4.sees
    have s5 := s4.row [.int .i64 0, .slice none 0 0]
    obtain ⟨m5, hm5⟩ : ∃ m5, m5 = Dx.newRow m4 [.int .i64 0, .slice none 0 0] := ⟨_, rfl⟩
    rw [← hm5] at s5
    obtain ⟨m6, g1, g2, g3, g4⟩ := s5.fill 0 rfl (n := 2) (l' := [iv loc, av']) rfl rfl (by simp [okC]; exact ok2)
    have s6 : St m m6 [(m4.n, [iv loc, av']), (m'.n, [iv loc, av]), (m1.n, [iv cells, tv']), (m.n, [iv cells, tv])] := g2
    have l61 : ∀ o s, load1 m6 ⟨m'.n, o, s⟩ = [iv loc, av][o]? := fun o s => (s6.get 1 rfl).2.2.load1 o s
    have l62 : ∀ o s, load1 m6 ⟨m4.n, o, s⟩ = [iv loc, av'][o]? := fun o s => (s6.get 0 rfl).2.2.load1 o s
    obtain ⟨na, hna⟩ : ∃ n, n = acts.length := ⟨_, rfl⟩
    have a1l : lenS av = some (.int .i64 (na : Int)) := by rw [hna]; exact hpt.av.len
    have a2l : lenS av' = some (.int .i64 (na : Int)) := by rw [hna, hal]; exact hqt.av.len
    have hnal : na ≤ 9223372036854775807 := by rw [hna]; exact hpt.len
    simp only [thRow] at x2' y2'
    simp [t2, t3, t5, la, lb, h1l, hd, hd', x1, x2', loadNS_ptr, ← hm3, f1, lb4, y1, y2', ← hm5, g1, l61, l62, a1l, a2l]
    refine loop_run (c := ca5_23) rfl (Ret m _) (fun j t m3 => St m m3 [(m4.n, [iv loc, av']), (m'.n, [iv loc, av]), (m1.n, [iv cells, tv']), (m.n, [iv cells, tv])] ∧ Tm.get 2 t = .pointer (some ⟨m.n, 0, none⟩) ∧ Tm.get 3 t = .pointer (some ⟨m1.n, 0, none⟩) ∧ Tm.get 5 t = iv i ∧ Tm.get 6 t = .pointer (some ⟨m'.n, 0, none⟩) ∧ Tm.get 7 t = .pointer (some ⟨m4.n, 0, none⟩) ∧ Tm.get 8 t = iv j) na hnal
      ⟨s6, by simp [t2], by simp [t3], by simp [t5], by simp, by simp, by simp⟩ (fun j t n0 k3 hj hJ hk3 => ?_)
    obtain ⟨u0', t2, t3, t5, t6, t7, t8⟩ := hJ
    have q1 : ∀ o s, load1 n0 ⟨m'.n, o, s⟩ = [iv loc, av][o]? := fun o s => (u0'.get 1 rfl).2.2.load1 o s
    by_cases hjl : j < na
    · have hd := dlt hjl
      have hd' : (j < na) = True := eq_true hjl
      have nj := nextI (i := j) (by omega)
      obtain ⟨b, hb⟩ : ∃ r, acts'[j]? = some r := ⟨_, List.getElem?_eq_getElem (by omega)⟩
      obtain ⟨a, ha, ix, ev, fv, rfl⟩ := hacts j b hb
      have ⟨v1, v2, _⟩ := hpt.av.at ha
      have ⟨w1, w2, _⟩ := hqt.av.at hb
      have v2' := v2 n0 u0'.sees
      have oka := hpt.acts _ (List.mem_of_getElem? ha)
      have okb := hqt.acts _ (List.mem_of_getElem? hb)
      have u1 := u0'.row Z11
      obtain ⟨n1, hn1⟩ : ∃ n1, n1 = Dx.newRow n0 Z11 := ⟨_, rfl⟩
      rw [← hn1] at u1
      obtain ⟨n2, i1, i2, i3, i4⟩ := u1.fill 0 rfl (n := 11) (l' := acRow { b with ix := ix, ev := ev, fv := fv }) rfl rfl (acRow_ok oka)
      have u2 : St m n2 [(n0.n, acRow { b with ix := ix, ev := ev, fv := fv }), (m4.n, [iv loc, av']), (m'.n, [iv loc, av]), (m1.n, [iv cells, tv']), (m.n, [iv cells, tv])] := i2
      have q2 : ∀ o s, load1 n2 ⟨m4.n, o, s⟩ = [iv loc, av'][o]? := fun o s => (u2.get 1 rfl).2.2.load1 o s
      have w2' := w2 n2 u2.sees
      have u3 := u2.row Z11
      obtain ⟨n3, hn3⟩ : ∃ n3, n3 = Dx.newRow n2 Z11 := ⟨_, rfl⟩
      rw [← hn3] at u3
      obtain ⟨n4, j1, j2, j3, j4⟩ := u3.fill 0 rfl (n := 11) (l' := acRow b) rfl rfl (acRow_ok okb)
      have u4 : St m n4 [(n2.n, acRow b), (n0.n, acRow { b with ix := ix, ev := ev, fv := fv }), (m4.n, [iv loc, av']), (m'.n, [iv loc, av]), (m1.n, [iv cells, tv']), (m.n, [iv cells, tv])] := j2
      have r1 : ∀ o s, load1 n4 ⟨n0.n, o, s⟩ = (acRow { b with ix := ix, ev := ev, fv := fv })[o]? := fun o s => (u4.get 1 rfl).2.2.load1 o s
      have r2 : ∀ o s, load1 n4 ⟨n2.n, o, s⟩ = (acRow b)[o]? := fun o s => (u4.get 0 rfl).2.2.load1 o s
      have ixl : b.ixs.length ≤ 9223372036854775807 := okb.ixl
      obtain ⟨z1, n5, c1, c2, rfl⟩ := sameNodes_eq b.ixs okb.ixl ix b.ix N n4 u4.sees.base (oka.ix.sees u4.sees) (okb.ix.sees u4.sees)
      have u5 := u4.step c2
      have r15 : ∀ o s, load1 n5 ⟨n0.n, o, s⟩ = (acRow { b with ix := ix, ev := ev, fv := fv })[o]? := fun o s => (u5.get 1 rfl).2.2.load1 o s
      have r25 : ∀ o s, load1 n5 ⟨n2.n, o, s⟩ = (acRow b)[o]? := fun o s => (u5.get 0 rfl).2.2.load1 o s
      obtain ⟨z2, n6, d1, d2, rfl⟩ := sameNodes_eq b.es okb.evl ev b.ev N n5 u5.sees.base (oka.ev.sees u5.sees) (okb.ev.sees u5.sees)
      have u6 := u5.step d2
      have r16 : ∀ o s, load1 n6 ⟨n0.n, o, s⟩ = (acRow { b with ix := ix, ev := ev, fv := fv })[o]? := fun o s => (u6.get 1 rfl).2.2.load1 o s
      have r26 : ∀ o s, load1 n6 ⟨n2.n, o, s⟩ = (acRow b)[o]? := fun o s => (u6.get 0 rfl).2.2.load1 o s
      obtain ⟨z3, n7, e1, e2, rfl⟩ := sameNodes_eq b.fs okb.fvl fv b.fv N n6 u6.sees.base (oka.fv.sees u6.sees) (okb.fv.sees u6.sees)
      have u7 := u6.step e2
      simp only [acRow] at v2' w2' r1 r2 r15 r25 r16 r26 i1 j1
      simp [t2, t3, t5, t6, t7, t8, q1, a1l, hd, hd', v1, v2', loadNS_ptr, ← hn1, i1, q2, w1, w2', ← hn3, j1, r1, r2, c1, r15, r25, d1, r16, r26, e1, nj]
      exact hk3 hjl _ _ ⟨u7.sub (fun p hp => List.mem_cons_of_mem _ (List.mem_cons_of_mem _ hp)) (by have := u7.nd; simp at this ⊢; omega), by simp [t2], by simp [t3], by simp [t5], by simp [t6], by simp [t7], by simp⟩
    · obtain rfl : j = na := by omega
      have hd : ((j : Int) < (j : Int)) = False := eq_false (by omega)
      simp [t2, t3, t5, t6, t7, t8, q1, a1l, hd, ni]
      exact hk' hil _ _ ⟨u0'.sub (fun p hp => List.mem_cons_of_mem _ (List.mem_cons_of_mem _ hp)) (by have := u0'.nd; simp at this ⊢; omega), by simp [t2], by simp [t3], by simp⟩
  · obtain rfl : i = n := by omega
    have hd : ((i : Int) < (i : Int)) = False := eq_false (by omega)
    simp [t2, t3, t5, la, h1l, hd]
    exact ret_1 st.ext (by simp)
end Go.Sx
/- The reference's Copy: own blocks, the copies' lists among them, and two slices that grow. -/
namespace Go.Dx
theorem append_clone2 {α : Type} {m : M} (hm : m.base ≤ m.n) {v : Value} {e : Nat} {f : α → List Value} {es : List α} (h : Rd m v e f es) (hf : ∀ x, (f x).length = e) (bytes : Nat) (hb : es.length * bytes ≤ most) (hn : es.length ≤ 4611686018427387904) :
    ∃ B c m', appendV (newRow m []) e bytes (.slice (some ⟨m.n, 0, some (code e true)⟩) 0 0) v = some (.slice (some ⟨B, 0, some c⟩) es.length es.length, m') ∧ Ext m m' ∧ m.n ≤ B ∧ B < m'.n ∧ Arr m' B (es.flatMap f) := by
  by_cases hz : es = []
  · subst hz
    refine ⟨m.n, code e true, newRow m [], ?_, Ext.row m [], Nat.le_refl _, by rw [newRow_n]; omega, Arr.row m []⟩
    have h' := h.sees ((Sees.refl hm).ext (Ext.row m []))
    show ob (lenV v) _ = _
    rw [h.lenV, ob_some']
    show ob (firsts (newRow m []) e ([] : List α).length v) _ = _
    rw [h'.all, ob_some']
    rfl
  · obtain ⟨v', m', h1, h2, h3, h4, h5⟩ := append_clone hm h hf bytes hb hn
    have hv := h5 hz
    subst hv
    obtain ⟨q1, q2⟩ := h4 _ rfl
    exact ⟨_, _, m', h1, h2, q1, h3.lt _ rfl, q2⟩
end Go.Dx
namespace Go.Sx
open Go.Dx Go.Proofs
set_option maxRecDepth 10000
structure CJ (m0 m : M) (g : Value) (ts : List Th) (ga : Value) (xs : List Ac) (σ : List (Nat × List Value)) : Prop where
  st : St m0 m σ
  gt : Grown m0 m g 2 thRow ts
  gs : Grown m0 m ga 11 acRow xs
  sep : ∀ B, (blk g = some B ∨ blk ga = some B) → ∀ p ∈ σ, p.1 ≠ B
  ne : ∀ B, blk g = some B → blk ga ≠ some B
section
variable {m0 m m' : M} {g ga : Value} {ts : List Th} {xs : List Ac} {σ σ' : List (Nat × List Value)}
theorem CJ.gl (h : CJ m0 m g ts ga xs σ) : ∀ B, (blk g = some B ∨ blk ga = some B) → m0.n ≤ B ∧ B < m.n := fun B hB => by
  rcases hB with hB | hB
  · exact grown_low h.gt B hB
  · exact grown_low h.gs B hB
theorem CJ.of (h : CJ m0 m g ts ga xs σ) (hst : St m0 m' σ') (hn : m.n ≤ m'.n) (hk : ∀ B, (blk g = some B ∨ blk ga = some B) → m'.obj B = m.obj B) (hσ : ∀ p ∈ σ', (∃ q ∈ σ, q.1 = p.1) ∨ m.n ≤ p.1) : CJ m0 m' g ts ga xs σ' :=
  ⟨hst, h.gt.keep hn fun B _ hB => hk B (.inl hB), h.gs.keep hn fun B _ hB => hk B (.inr hB), fun B hB p hp => by
    rcases hσ p hp with ⟨q, hq, e⟩ | h'
    · rw [← e]; exact h.sep B hB q hq
    · have := (h.gl B hB).2; omega, h.ne⟩
theorem CJ.step (h : CJ m0 m g ts ga xs σ) (e : Ext m m') : CJ m0 m' g ts ga xs σ := h.of (h.st.step e) e.n (fun B hB => e.obj B (h.gl B hB).2) fun p hp => .inl ⟨p, hp, rfl⟩
theorem CJ.row (h : CJ m0 m g ts ga xs σ) (l : List Value) : CJ m0 (Dx.newRow m l) g ts ga xs ((m.n, l) :: σ) :=
  h.of (h.st.row l) (Ext.row m l).n (fun B hB => (Ext.row m l).obj B (h.gl B hB).2) fun p hp => by
    rcases List.mem_cons.1 hp with rfl | hp
    · exact .inr (Nat.le_refl _)
    · exact .inl ⟨p, hp, rfl⟩
theorem CJ.sub (h : CJ m0 m g ts ga xs σ) (hs : ∀ p ∈ σ', p ∈ σ) (hn : (σ'.map (·.1)).Nodup) : CJ m0 m g ts ga xs σ' :=
  h.of (h.st.sub hs hn) (Nat.le_refl _) (fun _ _ => rfl) fun p hp => .inl ⟨p, hs p hp, rfl⟩
theorem CJ.put (h : CJ m0 m g ts ga xs σ) {i b : Nat} {l l' : List Value} (hi : σ[i]? = some (b, l)) (hst : St m0 m' (σ.set i (b, l'))) (hn : m'.n = m.n) (ho : ∀ X, X ≠ b → m'.obj X = m.obj X) : CJ m0 m' g ts ga xs (σ.set i (b, l')) :=
  h.of hst (by omega) (fun B hB => ho B fun e => h.sep B hB _ (List.mem_of_getElem? hi) e.symm) fun p hp => by
    obtain ⟨q, hq, e⟩ := key_mem hi hp
    exact .inl ⟨q, hq, e⟩
theorem CJ.get (h : CJ m0 m g ts ga xs σ) (i : Nat) {b : Nat} {l : List Value} (hi : σ[i]? = some (b, l)) : Arr m b l := (h.st.get i hi).2.2
theorem CJ.mb (h : CJ m0 m g ts ga xs σ) : m.base ≤ m.n := h.st.sees.self.base
theorem CJ.store (h : CJ m0 m g ts ga xs σ) (k : Nat) {b o : Nat} {l : List Value} {v : Value} (hk : σ[k]? = some (b, l)) (ho : o < l.length) (hv : okC v = true) :
    ∃ m', storeS 1 (.pointer (some ⟨b, o, none⟩)) v m = some (undef, m') ∧ CJ m0 m' g ts ga xs (σ.set k (b, l.set o v)) ∧ m'.n = m.n := by
  obtain ⟨m', h1, h2, h3, h4⟩ := h.st.store k hk ho hv
  exact ⟨m', h1, h.put hk h2 h3 h4, h3⟩
theorem CJ.fill (h : CJ m0 m g ts ga xs σ) (k : Nat) {b : Nat} {l : List Value} (hk : σ[k]? = some (b, l)) {n : Nat} {l' : List Value} (hl : l.length = n) (hl' : l'.length = n) (hv : ∀ v ∈ l', okC v = true) :
    ∃ m', storeS n (.pointer (some ⟨b, 0, none⟩)) (.agg ⟨l'⟩) m = some (undef, m') ∧ CJ m0 m' g ts ga xs (σ.set k (b, l')) ∧ m'.n = m.n := by
  obtain ⟨m', h1, h2, h3, h4⟩ := h.st.fill k hk hl hl' hv
  exact ⟨m', h1, h.put hk h2 h3 h4, h3⟩
theorem CJ.call (h : CJ m0 m g ts ga xs σ) (e : Ext m m') {B : Nat} {l : List Value} (h1 : m.n ≤ B) (h2 : B < m'.n) (h3 : Arr m' B l) : CJ m0 m' g ts ga xs ((B, l) :: σ) := by
  have hn := h.st.ext.n
  have h' := h.step e
  refine ⟨(h.st.step e).add (by omega) h2 h3 fun p hp => by have := (h.st.arr p hp).2.1; omega, h'.gt, h'.gs, fun X hX p hp => ?_, h.ne⟩
  rcases List.mem_cons.1 hp with rfl | hp
  · have := (h.gl X hX).2
    show B ≠ X
    omega
  · exact h.sep X hX p hp
/-- a thread more -/
theorem CJ.appT {x : Th} {v' : Value} (h : CJ m0 m g ts ga xs σ) (hg : Grown m0 m' v' 2 thRow (ts ++ [x])) (hA : Ap m m' g v') : CJ m0 m' v' (ts ++ [x]) ga xs σ := by
  refine ⟨h.st.app hA (fun B hB => (h.gl B (.inl hB)).1) (fun B hB => h.sep B (.inl hB)), hg, h.gs.keep hA.n fun B hB hb => hA.obj B hB fun e => h.ne B e hb, fun B hB p hp => ?_, fun B hB e => ?_⟩
  · rcases hB with hB | hB
    · have := hA.new B hB
      have := (h.st.arr p hp).2.1
      omega
    · exact h.sep B (.inr hB) p hp
  · have := hA.new B hB
    have := (h.gl B (.inr e)).2
    omega
/-- an act more -/
theorem CJ.appA {x : Ac} {v' : Value} (h : CJ m0 m g ts ga xs σ) (hg : Grown m0 m' v' 11 acRow (xs ++ [x])) (hA : Ap m m' ga v') : CJ m0 m' g ts v' (xs ++ [x]) σ := by
  refine ⟨h.st.app hA (fun B hB => (h.gl B (.inr hB)).1) (fun B hB => h.sep B (.inr hB)), h.gt.keep hA.n fun B hB hb => hA.obj B hB fun e => h.ne B hb e, hg, fun B hB p hp => ?_, fun B hB e => ?_⟩
  · rcases hB with hB | hB
    · exact h.sep B (.inl hB) p hp
    · have := hA.new B hB
      have := (h.st.arr p hp).2.1
      omega
  · have := hA.new B e
    have := (h.gl B (.inl hB)).2
    omega
end
/-! a copy's lists among the blocks -/
def NdIn (σ : List (Nat × List Value)) (v : Value) (es : List Nd) : Prop := ∃ B c, v = .slice (some ⟨B, 0, some c⟩) es.length es.length ∧ (B, es.flatMap nodeRow) ∈ σ
structure AcIn (σ : List (Nat × List Value)) (a : Ac) : Prop where
  ix : NdIn σ a.ix a.ixs
  ev : NdIn σ a.ev a.es
  fv : NdIn σ a.fv a.fs
def AsIn (σ : List (Nat × List Value)) (v : Value) (xs : List Ac) : Prop := (xs = [] ∧ v = .slice none 0 0) ∨ ∃ B c, v = .slice (some ⟨B, 0, some c⟩) xs.length xs.length ∧ (B, xs.flatMap acRow) ∈ σ
structure ThIn (σ : List (Nat × List Value)) (t : Th) : Prop where
  av : AsIn σ t.av t.acts
  acts : ∀ a ∈ t.acts, AcIn σ a
section
variable {σ σ' : List (Nat × List Value)} {m0 m : M}
theorem NdIn.sub {v : Value} {es : List Nd} (h : NdIn σ v es) (hs : ∀ p ∈ σ, p ∈ σ') : NdIn σ' v es := let ⟨B, c, h1, h2⟩ := h; ⟨B, c, h1, hs _ h2⟩
theorem AcIn.sub {a : Ac} (h : AcIn σ a) (hs : ∀ p ∈ σ, p ∈ σ') : AcIn σ' a := ⟨h.ix.sub hs, h.ev.sub hs, h.fv.sub hs⟩
theorem AsIn.sub {v : Value} {xs : List Ac} (h : AsIn σ v xs) (hs : ∀ p ∈ σ, p ∈ σ') : AsIn σ' v xs := by
  rcases h with h | ⟨B, c, h1, h2⟩
  · exact .inl h
  · exact .inr ⟨B, c, h1, hs _ h2⟩
theorem ThIn.sub {t : Th} (h : ThIn σ t) (hs : ∀ p ∈ σ, p ∈ σ') : ThIn σ' t := ⟨h.av.sub hs, fun a ha => (h.acts a ha).sub hs⟩
theorem NdIn.rd {v : Value} {es : List Nd} (h : NdIn σ v es) (hst : St m0 m σ) : Rd m v 4 nodeRow es := by
  obtain ⟨B, c, rfl, h2⟩ := h
  obtain ⟨_, h3, h4⟩ := hst.arr _ h2
  exact rd_made (f := nodeRow) (fun _ => rfl) h4 h3
theorem AsIn.rd {v : Value} {xs : List Ac} (h : AsIn σ v xs) (hst : St m0 m σ) : Rd m v 11 acRow xs := by
  rcases h with ⟨rfl, rfl⟩ | ⟨B, c, rfl, h2⟩
  · exact ⟨rfl, fun i r hr => by simp at hr, rfl, fun B hB => by cases hB⟩
  · obtain ⟨_, h3, h4⟩ := hst.arr _ h2
    exact rd_made (f := acRow) (fun _ => rfl) h4 h3
end
theorem bs_ac (a : Ac) (m : M) : bsliceS 11 1 (rep 1 Z11) [(0, 11, .agg ⟨acRow a⟩)] m = some (Value.slice (some ⟨m.n, 0, some 23⟩) 1 1, Dx.newRow m (acRow a)) := rfl
theorem bs_th (t : Th) (m : M) : bsliceS 2 1 (rep 1 [.int .i64 0, .slice none 0 0]) [(0, 2, .agg ⟨thRow t⟩)] m = some (Value.slice (some ⟨m.n, 0, some 5⟩) 1 1, Dx.newRow m (thRow t)) := rfl
theorem bs_nd (m : M) : bsliceS 4 0 (rep 0 [.int .i64 0, .int .u64 0, .int .i64 0, .int .i64 0]) [] m = some (Value.slice (some ⟨m.n, 0, some (code 4 true)⟩) 0 0, Dx.newRow m []) := rfl
theorem b_pg (c : Int) : buildV [.int .i64 0, .slice none 0 0] [(0, 1, .int .i64 c)] = some (.agg ⟨[.int .i64 c, .slice none 0 0]⟩) := rfl
end Go.Sx
/- The reference's Copy. -/
namespace Go.Dx
theorem Grown.congr {α : Type} {m0 m : M} {v : Value} {e : Nat} {f f' : α → List Value} {es : List α} (h : Grown m0 m v e f es) (hf : ∀ y ∈ es, f y = f' y) : Grown m0 m v e f' es := by
  have hfl : es.flatMap f = es.flatMap f' := by rw [List.flatMap_def, List.flatMap_def, List.map_congr_left hf]
  rcases h with h | ⟨B, h1, h2, h3, h4, h5⟩
  · exact .inl h
  · exact .inr ⟨B, h1, h2, h3, h4, hfl ▸ h5⟩
open Classical in
theorem grow_some {α : Type} {m0 m : M} {v : Value} {e : Nat} {f : α → List Value} {es : List α} (h : Grown m0 m v e f es) (he : 0 < e) (hf : ∀ x, (f x).length = e) {x : α} (hok : ∀ y ∈ es ++ [x], ∀ v ∈ f y, okC v = true) {X : Nat} {sp : Option Nat}
    (hx : loads m ⟨X, 0, sp⟩ e = some (f x)) (h0 : m0.n ≤ m.n) {bytes : Nat} (hm : (es.length + 1) * bytes ≤ most) (hn : es.length + 1 ≤ 4611686018427387904) :
    ∃ v' m', appendV m e bytes v (.slice (some ⟨X, 0, sp⟩) 1 1) = some (v', m') ∧ Grown m0 m' v' e f (es ++ [x]) ∧ Ap m m' v v' := by
  obtain ⟨f', hf'⟩ : ∃ f' : α → List Value, f' = fun y => if (∀ v ∈ f y, okC v = true) then f y else List.replicate e (.bool false) := ⟨_, rfl⟩
  have hy : ∀ y ∈ es ++ [x], f y = f' y := fun y hy => by rw [hf']; simp only; rw [if_pos (hok y hy)]
  have h1 := h.congr (f' := f') fun y hy' => hy y (List.mem_append_left _ hy')
  have hx' : loads m ⟨X, 0, sp⟩ e = some (f' x) := by rw [← hy x (by simp)]; exact hx
  obtain ⟨v', m', a1, a2, a3⟩ := grow_n h1 he (fun y => by
    rw [hf']; simp only; split
    · exact hf y
    · simp) (fun y u hu => by
    rw [hf'] at hu; simp only at hu; split at hu
    · rename_i hh; exact hh u hu
    · rw [List.mem_replicate] at hu; rw [hu.2]; rfl) hx' h0 hm hn
  exact ⟨v', m', a1, a2.congr fun y hy' => (hy y hy').symm, a3⟩
end Go.Dx
namespace Go.Sx
open Go.Dx Go.Proofs
set_option maxRecDepth 10000
theorem CJ.mid {m0 m : M} {g ga : Value} {ts : List Th} {xs : List Ac} {x : Nat × List Value} {l D : List (Nat × List Value)} (h : CJ m0 m g ts ga xs (x :: (l ++ D))) : CJ m0 m g ts ga xs (l ++ x :: D) := by
  have hp : (l ++ x :: D).Perm (x :: (l ++ D)) := List.perm_middle
  exact h.sub (fun p hp' => hp.mem_iff.1 hp') ((hp.map (·.1)).nodup_iff.2 h.st.nd)
theorem CJ.clone {m0 m : M} {g ga : Value} {ts : List Th} {xs : List Ac} {l D : List (Nat × List Value)} (h : CJ m0 m g ts ga xs (l ++ D)) {v : Value} {es : List Nd} (hv : Rd m v 4 nodeRow es) (hsz : es.length * 32 ≤ most) :
    ∃ B c m', appendV (Dx.newRow m []) 4 32 (.slice (some ⟨m.n, 0, some (code 4 true)⟩) 0 0) v = some (.slice (some ⟨B, 0, some c⟩) es.length es.length, m') ∧ CJ m0 m' g ts ga xs (l ++ (B, es.flatMap nodeRow) :: D) := by
  obtain ⟨B, c, m', h1, h2, h3, h4, h5⟩ := append_clone2 h.mb hv (fun _ => rfl) 32 hsz (by unfold most at hsz; omega)
  exact ⟨B, c, m', h1, (h.call h2 h3 h4 h5).mid⟩
structure CT (t : Tm) (T1 T2 T3 T5 i j : Nat) : Prop where
  t1 : Tm.get 1 t = .pointer (some ⟨T1, 0, none⟩)
  t2 : Tm.get 2 t = .pointer (some ⟨T2, 0, none⟩)
  t3 : Tm.get 3 t = .pointer (some ⟨T3, 0, none⟩)
  t4 : Tm.get 4 t = iv i
  t5 : Tm.get 5 t = .pointer (some ⟨T5, 0, none⟩)
  t6 : Tm.get 6 t = iv j
abbrev cS (T5 T3 T2 T1 : Nat) (loc cells : Int) (ga g tv : Value) : List (Nat × List Value) := [(T5, [iv loc, ga]), (T3, [iv cells, g]), (T2, [.int .i64 0, .slice none 0 0]), (T1, [iv cells, tv])]
section
variable {m0 m : M} {g ga tv : Value} {ts ths : List Th} {xs : List Ac} {T1 T2 T3 T5 i j : Nat} {loc cells : Int} {D : List (Nat × List Value)} {tm : Tm}
theorem copy_act {th : Th} {a : Ac} (hm0 : m0.base ≤ m0.n) (htv : Rd m0 tv 2 thRow ths) (hth : ths[i]? = some th) (hav : Rd m0 th.av 11 acRow th.acts) (ha : th.acts[j]? = some a) (hok : AcOK m0 a)
    (hs1 : a.ixs.length * 32 ≤ most) (hs2 : a.es.length * 32 ≤ most) (hs3 : a.fs.length * 32 ≤ most) (hs4 : (xs.length + 1) * 136 ≤ most) (hxs : ∀ y ∈ xs, ∀ v ∈ acRow y, okC v = true)
    (h : CJ m0 m g ts ga xs (cS T5 T3 T2 T1 loc cells ga g tv ++ D)) (hT : CT tm T1 T2 T3 T5 i j) {x : Ex} {kn kr : K} {ke : Nat → K} {Q : Option Out → Prop}
    (H : ∀ t' m' ga' a' D', CT t' T1 T2 T3 T5 i j → CJ m0 m' g ts ga' (xs ++ [a']) (cS T5 T3 T2 T1 loc cells ga' g tv ++ D') → (∀ p ∈ D, p ∈ D') → AcIn D' a' → AcEq a' a → (∀ v ∈ acRow a', okC v = true) → Q (kn t' m')) : Q (ca2_8 x kn ke kr tm m) := by
  obtain ⟨t1, t2, t3, t4, t5, t6⟩ := hT
  have S := h.st.sees
  have lp : ∀ o s, load1 m ⟨T1, o, s⟩ = [iv cells, tv][o]? := fun o s => (h.get 3 rfl).load1 o s
  obtain ⟨x1, x2, x3⟩ := htv.at hth
  have xa : ∀ s, load1 m ⟨(adr 2 tv i).block, (adr 2 tv i).off + 1, s⟩ = some th.av := fun s => x3 m 1 s S (by simp [thRow])
  obtain ⟨y1, y2, y3⟩ := hav.at ha
  have y2' := y2 m S
  have h1 := h.row Z11
  obtain ⟨m1, hm1⟩ : ∃ m1, m1 = Dx.newRow m Z11 := ⟨_, rfl⟩
  rw [← hm1] at h1
  obtain ⟨m2, f1, f2, f3⟩ := h1.fill 0 rfl (n := 11) (l' := acRow a) rfl rfl (acRow_ok hok)
  have h2 : CJ m0 m2 g ts ga xs (((m.n, acRow a) :: cS T5 T3 T2 T1 loc cells ga g tv) ++ D) := f2
  -- the first list
  have r2 : ∀ o s, load1 (Dx.newRow m2 []) ⟨m.n, o, s⟩ = (acRow a)[o]? := fun o s => (((h2.step (Ext.row m2 [])).get 0 rfl)).load1 o s
  obtain ⟨B1, c1, m3, a1, h3⟩ := h2.clone (hok.ix.sees h2.st.sees) hs1
  obtain ⟨v1, hv1⟩ : ∃ v1 : Value, v1 = .slice (some ⟨B1, 0, some c1⟩) a.ixs.length a.ixs.length := ⟨_, rfl⟩
  rw [← hv1] at a1
  have bs2 := bs_nd m2
  obtain ⟨n2, hn2⟩ : ∃ n2, n2 = Dx.newRow m2 [] := ⟨_, rfl⟩
  rw [← hn2] at bs2 a1 r2
  obtain ⟨m4, s1, s2, s3⟩ := h3.store 0 rfl (o := 4) (v := v1) (by simp [acRow]) (by rw [hv1]; rfl)
  have h4 : CJ m0 m4 g ts ga xs (((m.n, acRow { a with ix := v1 }) :: cS T5 T3 T2 T1 loc cells ga g tv) ++ (B1, a.ixs.flatMap nodeRow) :: D) := s2
  -- the second
  have r4 : ∀ o s, load1 (Dx.newRow m4 []) ⟨m.n, o, s⟩ = (acRow { a with ix := v1 })[o]? := fun o s => (((h4.step (Ext.row m4 [])).get 0 rfl)).load1 o s
  obtain ⟨B2, c2, m5, a2, h5⟩ := h4.clone (hok.ev.sees h4.st.sees) hs2
  obtain ⟨v2, hv2⟩ : ∃ v2 : Value, v2 = .slice (some ⟨B2, 0, some c2⟩) a.es.length a.es.length := ⟨_, rfl⟩
  rw [← hv2] at a2
  have bs4 := bs_nd m4
  obtain ⟨n4, hn4⟩ : ∃ n4, n4 = Dx.newRow m4 [] := ⟨_, rfl⟩
  rw [← hn4] at bs4 a2 r4
  obtain ⟨m6, u1, u2, u3⟩ := h5.store 0 rfl (o := 5) (v := v2) (by simp [acRow]) (by rw [hv2]; rfl)
  have h6 : CJ m0 m6 g ts ga xs (((m.n, acRow { a with ix := v1, ev := v2 }) :: cS T5 T3 T2 T1 loc cells ga g tv) ++ (B2, a.es.flatMap nodeRow) :: (B1, a.ixs.flatMap nodeRow) :: D) := u2
  -- the third
  have r6 : ∀ o s, load1 (Dx.newRow m6 []) ⟨m.n, o, s⟩ = (acRow { a with ix := v1, ev := v2 })[o]? := fun o s => (((h6.step (Ext.row m6 [])).get 0 rfl)).load1 o s
  obtain ⟨B3, c3, m7, a3, h7⟩ := h6.clone (hok.fv.sees h6.st.sees) hs3
  obtain ⟨v3, hv3⟩ : ∃ v3 : Value, v3 = .slice (some ⟨B3, 0, some c3⟩) a.fs.length a.fs.length := ⟨_, rfl⟩
  rw [← hv3] at a3
  have bs6 := bs_nd m6
  obtain ⟨n6, hn6⟩ : ∃ n6, n6 = Dx.newRow m6 [] := ⟨_, rfl⟩
  rw [← hn6] at bs6 a3 r6
  obtain ⟨m8, w1, w2, w3⟩ := h7.store 0 rfl (o := 6) (v := v3) (by simp [acRow]) (by rw [hv3]; rfl)
  obtain ⟨a', ha'⟩ : ∃ a' : Ac, a' = { a with ix := v1, ev := v2, fv := v3 } := ⟨_, rfl⟩
  have h8 : CJ m0 m8 g ts ga xs (((m.n, acRow a') :: cS T5 T3 T2 T1 loc cells ga g tv) ++ (B3, a.fs.flatMap nodeRow) :: (B2, a.es.flatMap nodeRow) :: (B1, a.ixs.flatMap nodeRow) :: D) := by rw [ha']; exact w2
  -- the act
  have l8 : ∀ o s, load1 m8 ⟨T5, o, s⟩ = [iv loc, ga][o]? := fun o s => (h8.get 1 rfl).load1 o s
  have l8n : loads m8 ⟨m.n, 0, none⟩ 11 = some (acRow a') := (h8.get 0 rfl).loads (n := 11) (by simp [acRow])
  have bs8 := bs_ac a' m8
  have E9 : Ext m8 (Dx.newRow m8 (acRow a')) := Ext.row _ _
  have h9 := h8.step E9
  have hoka' : ∀ v ∈ acRow a', okC v = true := by
    rw [ha', hv1, hv2, hv3]; simp [acRow, okC]
  obtain ⟨m9, hm9⟩ : ∃ m9, m9 = Dx.newRow m8 (acRow a') := ⟨_, rfl⟩
  have hl9 : loads m9 ⟨m8.n, 0, some 23⟩ 11 = some (acRow a') := by rw [hm9]; exact (Arr.row m8 _).loads (n := 11) (by simp [acRow])
  rw [← hm9] at bs8 h9 E9
  have core := h9.gs
  have hgrow : ∃ v' m', appendV m9 11 136 ga (.slice (some ⟨m8.n, 0, some 23⟩) 1 1) = some (v', m') ∧ Grown m0 m' v' 11 acRow (xs ++ [a']) ∧ Ap m9 m' ga v' :=
    grow_some h9.gs (by omega) acRow_len (fun y hy => by
      rcases List.mem_append.1 hy with hy | hy
      · exact hxs y hy
      · rw [List.mem_singleton.1 hy]; exact hoka') hl9 h9.st.ext.n hs4 (by unfold most at hs4; omega)
  obtain ⟨ga', m10, p1, p2, p3⟩ := hgrow
  have h10 := h9.appA p2 p3
  obtain ⟨m11, q1, q2, q3⟩ := h10.store 1 rfl (o := 1) (v := ga') (by simp) h10.gs.okC
  have h11 : CJ m0 m11 g ts ga' (xs ++ [a']) (((m.n, acRow a') :: cS T5 T3 T2 T1 loc cells ga' g tv) ++ (B3, a.fs.flatMap nodeRow) :: (B2, a.es.flatMap nodeRow) :: (B1, a.ixs.flatMap nodeRow) :: D) := q2
  have h12 := h11.sub (σ' := cS T5 T3 T2 T1 loc cells ga' g tv ++ (B3, a.fs.flatMap nodeRow) :: (B2, a.es.flatMap nodeRow) :: (B1, a.ixs.flatMap nodeRow) :: D) (fun p hp => List.mem_cons_of_mem _ hp) (by have := h11.st.nd; simp only [List.cons_append, List.map_cons, List.nodup_cons] at this ⊢; exact this.2)
  simp only [acRow] at y2' f1 r2 r4 r6
  rw [ha'] at l8n bs8
  simp only [acRow] at l8n bs8
  simp [t1, t4, t5, t6, lp, x1, xa, y1, y2', loadNS_ptr, ← hm1, f1, bs2, ← hn2, r2, a1, s1, bs4, ← hn4, r4, a2, u1, bs6, ← hn6, r6, a3, w1, l8, l8n, bs8, ← hm9, p1, q1]
  refine H _ _ ga' a' _ ⟨by simp [t1], by simp [t2], by simp [t3], by simp [t4], by simp [t5], by simp [t6]⟩ h12 (fun p hp => List.mem_cons_of_mem _ (List.mem_cons_of_mem _ (List.mem_cons_of_mem _ hp))) ?_ ⟨v1, v2, v3, ha'⟩ hoka'
  rw [ha']
  exact ⟨⟨B1, c1, hv1, by simp⟩, ⟨B2, c2, hv2, by simp⟩, ⟨B3, c3, hv3, by simp⟩⟩
end
end Go.Sx
/- The reference's Copy: its loops. -/
namespace Go.Sx
open Go.Dx Go.Proofs
set_option maxRecDepth 10000
structure AcSz (a : Ac) : Prop where
  ix : a.ixs.length * 32 ≤ most
  ev : a.es.length * 32 ≤ most
  fv : a.fs.length * 32 ≤ most
structure PgSz (p : Pg) : Prop where
  len : p.ths.length * 32 ≤ most
  ths : ∀ t ∈ p.ths, t.acts.length * 136 ≤ most ∧ ∀ a ∈ t.acts, AcSz a
/-- a program among the blocks -/
structure PgIn (D : List (Nat × List Value)) (p : Pg) : Prop where
  tv : (p.ths = [] ∧ p.tv = .slice none 0 0) ∨ ∃ B c, p.tv = .slice (some ⟨B, 0, some c⟩) p.ths.length p.ths.length ∧ (B, p.ths.flatMap thRow) ∈ D
  ths : ∀ t ∈ p.ths, ThIn D t
theorem ac_eq_len {a b : Ac} (h : AcEq a b) : a.ixs = b.ixs ∧ a.es = b.es ∧ a.fs = b.fs := by obtain ⟨x, y, z, rfl⟩ := h; exact ⟨rfl, rfl, rfl⟩
theorem th_ok {m0 m : M} {D : List (Nat × List Value)} (hst : St m0 m D) {t u : Th} (h : ThIn D t) (he : ThEq t u) {m1 : M} (hu : ThOK m1 u) : ThOK m t := by
  refine ⟨h.av.rd hst, fun a ha => ?_, by rw [he.len]; exact hu.len⟩
  have hi := h.acts a ha
  obtain ⟨j, hj⟩ := List.getElem?_of_mem ha
  have hjl := (List.getElem?_eq_some_iff.1 hj).1
  obtain ⟨b, hb⟩ : ∃ b, u.acts[j]? = some b := ⟨_, List.getElem?_eq_getElem (by rw [← he.len]; exact hjl)⟩
  obtain ⟨y, h1, h2⟩ := he.acts j b hb
  rw [hj] at h1; cases h1
  obtain ⟨e1, e2, e3⟩ := ac_eq_len h2
  have hbk := hu.acts b (List.mem_of_getElem? hb)
  exact ⟨hi.ix.rd hst, hi.ev.rd hst, hi.fv.rd hst, by rw [e1]; exact hbk.ixl, by rw [e2]; exact hbk.evl, by rw [e3]; exact hbk.fvl⟩
theorem pg_ok {m0 m : M} {D : List (Nat × List Value)} (hst : St m0 m D) {p q : Pg} (h : PgIn D p) (he : PgEq p q) {m1 : M} (hq : PgOK m1 q) : PgOK m p := by
  refine ⟨?_, fun t ht => ?_, by rw [he.len]; exact hq.len⟩
  · rcases h.tv with ⟨h1, h2⟩ | ⟨B, c, h1, h2⟩
    · rw [h1, h2]; exact ⟨rfl, fun i r hr => by simp at hr, rfl, fun B hB => by cases hB⟩
    · rw [h1]
      obtain ⟨_, h3, h4⟩ := hst.arr _ h2
      exact rd_made (f := thRow) (fun _ => rfl) h4 h3
  · obtain ⟨j, hj⟩ := List.getElem?_of_mem ht
    have hjl := (List.getElem?_eq_some_iff.1 hj).1
    obtain ⟨u, hu⟩ : ∃ b, q.ths[j]? = some b := ⟨_, List.getElem?_eq_getElem (by rw [← he.len]; exact hjl)⟩
    obtain ⟨y, h1, h2⟩ := he.ths j u hu
    rw [hj] at h1; cases h1
    exact th_ok hst (h.ths t ht) h2 (hq.ths u (List.mem_of_getElem? hu))
theorem CJ.close {m0 m : M} {g ga : Value} {ts : List Th} {xs : List Ac} {l D : List (Nat × List Value)} (h : CJ m0 m g ts ga xs (l ++ D)) : ∃ D', CJ m0 m g ts (.slice none 0 0) [] (l ++ D') ∧ AsIn D' ga xs ∧ ∀ p ∈ D, p ∈ D' := by
  rcases h.gs with ⟨h1, h2⟩ | ⟨B, h1, h2, h3, h4, h5⟩
  · subst h1; subst h2
    exact ⟨D, h, .inl ⟨rfl, rfl⟩, fun p hp => hp⟩
  · have hB : blk ga = some B := by rw [h4]; rfl
    have hs := h.st.add h1 h2 h5 (fun p hp => h.sep B (.inr hB) p hp)
    have h' : CJ m0 m g ts (.slice none 0 0) [] ((B, xs.flatMap acRow) :: (l ++ D)) := by
      refine ⟨hs, h.gt, .nil, fun X hX p hp => ?_, fun X hX e => by cases e⟩
      rcases hX with hX | hX
      · rcases List.mem_cons.1 hp with rfl | hp
        · show B ≠ X
          intro e; subst e; exact h.ne B hX hB
        · exact h.sep X (.inl hX) p hp
      · cases hX
    exact ⟨_, h'.mid, .inr ⟨B, _, h4, by simp⟩, fun p hp => List.mem_cons_of_mem _ hp⟩
section
variable {m0 m : M} {g tv : Value} {ts ths : List Th} {T1 T2 T3 T5 i : Nat} {loc cells : Int} {D : List (Nat × List Value)} {tm : Tm}
/-- a thread's acts -/
theorem copy_acts {th : Th} (hm0 : m0.base ≤ m0.n) (htv : Rd m0 tv 2 thRow ths) (hth : ths[i]? = some th) (hok : ThOK m0 th) (hsz : th.acts.length * 136 ≤ most ∧ ∀ a ∈ th.acts, AcSz a)
    (h : CJ m0 m g ts (.slice none 0 0) [] (cS T5 T3 T2 T1 loc cells (.slice none 0 0) g tv ++ D)) (hT : CT tm T1 T2 T3 T5 i 0) {x : Ex} {kn kr : K} {ke : Nat → K} {Q : Option Out → Prop}
    (H : ∀ t' m' ga xs D', Tm.get 1 t' = .pointer (some ⟨T1, 0, none⟩) → Tm.get 2 t' = .pointer (some ⟨T2, 0, none⟩) → Tm.get 3 t' = .pointer (some ⟨T3, 0, none⟩) → Tm.get 4 t' = iv i → Tm.get 5 t' = .pointer (some ⟨T5, 0, none⟩) →
      CJ m0 m' g ts ga xs (cS T5 T3 T2 T1 loc cells ga g tv ++ D') → (∀ p ∈ D, p ∈ D') → xs.length = th.acts.length → (∀ (q : Nat) y, th.acts[q]? = some y → ∃ z, xs[q]? = some z ∧ AcEq z y) → (∀ a ∈ xs, AcIn D' a) → Q (kn t' m')) : Q (ca2_13 x kn ke kr tm m) := by
  obtain ⟨na, hna⟩ : ∃ n, n = th.acts.length := ⟨_, rfl⟩
  have hal : lenS th.av = some (.int .i64 (na : Int)) := by rw [hna]; exact hok.av.len
  have hnal : na ≤ 9223372036854775807 := by rw [hna]; exact hok.len
  simp
  refine loop_run (c := ca2_12) rfl Q (fun j t m' => ∃ ga xs D', CT t T1 T2 T3 T5 i j ∧ CJ m0 m' g ts ga xs (cS T5 T3 T2 T1 loc cells ga g tv ++ D') ∧ (∀ p ∈ D, p ∈ D') ∧ xs.length = j ∧ (∀ (q : Nat) y, q < j → th.acts[q]? = some y → ∃ z, xs[q]? = some z ∧ AcEq z y) ∧ (∀ a ∈ xs, AcIn D' a) ∧ ∀ a ∈ xs, ∀ v ∈ acRow a, okC v = true) na hnal
    ⟨_, [], D, hT, h, fun p hp => hp, rfl, fun q y hq => absurd hq (Nat.not_lt_zero _), by simp, by simp⟩ (fun j t m' k' hj hI hk' => ?_)
  obtain ⟨ga, xs, D', hT, hC, hD, hl, he, hin, hok2⟩ := hI
  have ⟨t1, t2, t3, t4, t5, t6⟩ := hT
  have S := hC.st.sees
  have lp : ∀ o s, load1 m' ⟨T1, o, s⟩ = [iv cells, tv][o]? := fun o s => (hC.get 3 rfl).load1 o s
  obtain ⟨x1, x2, x3⟩ := htv.at hth
  have xa : ∀ s, load1 m' ⟨(adr 2 tv i).block, (adr 2 tv i).off + 1, s⟩ = some th.av := fun s => x3 m' 1 s S (by simp [thRow])
  by_cases hjl : j < na
  · have hd := dlt hjl
    have hd' : (j < na) = True := eq_true hjl
    have nj := nextI (i := j) (by omega)
    obtain ⟨a, ha⟩ : ∃ a, th.acts[j]? = some a := ⟨_, List.getElem?_eq_getElem (by omega)⟩
    have hmem := List.mem_of_getElem? ha
    have hs := hsz.2 a hmem
    simp [t1, t4, t6, lp, x1, xa, hal, hd, hd', -ca2_8_ap]
    refine copy_act (th := th) hm0 htv hth hok.av ha (hok.acts a hmem) hs.ix hs.ev hs.fv (by rw [hl]; have := Nat.mul_le_mul_right 136 (show j + 1 ≤ th.acts.length by omega); omega) hok2 hC ⟨by simp [t1], by simp [t2], by simp [t3], by simp [t4], by simp [t5], by simp [t6]⟩ (fun t' m2 ga' a' D2 hT' hC' hD2 hin' heq' hok' => ?_)
    have ⟨t1, t2, t3, t4, t5, t6⟩ := hT'
    simp [t6, nj]
    refine hk' hjl _ _ ⟨ga', xs ++ [a'], D2, ⟨by simp [t1], by simp [t2], by simp [t3], by simp [t4], by simp [t5], by simp⟩, hC', fun p hp => hD2 p (hD p hp), by simp [hl], fun q y hq hy => ?_, fun b hb => ?_, fun b hb => ?_⟩
    · by_cases hqj : q < j
      · obtain ⟨z, h1, h2⟩ := he q y hqj hy
        exact ⟨z, by rw [List.getElem?_append_left (by omega)]; exact h1, h2⟩
      · obtain rfl : q = j := by omega
        rw [ha] at hy; cases hy
        exact ⟨a', by rw [List.getElem?_append_right (by omega)]; simp [hl], heq'⟩
    · rcases List.mem_append.1 hb with hb | hb
      · exact (hin b hb).sub hD2
      · rw [List.mem_singleton.1 hb]; exact hin'
    · rcases List.mem_append.1 hb with hb | hb
      · exact hok2 b hb
      · rw [List.mem_singleton.1 hb]; exact hok'
  · obtain rfl : j = na := by omega
    have hd : ((j : Int) < (j : Int)) = False := eq_false (by omega)
    simp [t1, t4, t6, lp, x1, xa, hal, hd]
    exact H _ _ ga xs D' (by simp [t1]) (by simp [t2]) (by simp [t3]) (by simp [t4]) (by simp [t5]) hC hD (by omega) (fun q y hy => he q y (by have := (List.getElem?_eq_some_iff.1 hy).1; omega) hy) hin
end
theorem Copy_c (p : Pg) (hsz : PgSz p) (N : Nat) (m : M) (hm : m.base ≤ m.n) (hp : PgOK m p) :
    Dx.Call (ex Tryz.prog (N + 1)) 6 [pgV p] m fun v m' => ∃ p' D, v = pgV p' ∧ PgEq p' p ∧ PgIn D p' ∧ St m m' D := by
  refine call_ret da2_ok (by simp) ?_
  obtain ⟨cells, tv, ths⟩ := p
  have st1 := (St.nil hm (Ext.refl m)).row [iv cells, tv]
  obtain ⟨m1, hm1⟩ : ∃ m1, m1 = Dx.newRow m [iv cells, tv] := ⟨_, rfl⟩
  rw [← hm1] at st1
  have st2 := st1.row [.int .i64 0, .slice none 0 0]
  obtain ⟨m2, hm2⟩ : ∃ m2, m2 = Dx.newRow m1 [.int .i64 0, .slice none 0 0] := ⟨_, rfl⟩
  rw [← hm2] at st2
  have l2 : ∀ o s, load1 m2 ⟨m.n, o, s⟩ = [iv cells, tv][o]? := fun o s => (st2.get 1 rfl).2.2.load1 o s
  have st3 := st2.row [.int .i64 0, .slice none 0 0]
  obtain ⟨m3, hm3⟩ : ∃ m3, m3 = Dx.newRow m2 [.int .i64 0, .slice none 0 0] := ⟨_, rfl⟩
  rw [← hm3] at st3
  obtain ⟨m4, f1, f2, f3, f4⟩ := st3.fill 0 rfl (n := 2) (l' := [iv cells, .slice none 0 0]) rfl rfl (by simp [okC])
  have st4 : St m m4 [(m2.n, [iv cells, .slice none 0 0]), (m1.n, [.int .i64 0, .slice none 0 0]), (m.n, [iv cells, tv])] := f2
  obtain ⟨n, hn⟩ : ∃ n, n = ths.length := ⟨_, rfl⟩
  have hll : lenS tv = some (.int .i64 (n : Int)) := by rw [hn]; exact hp.tv.len
  have hnl : n ≤ 9223372036854775807 := by rw [hn]; exact hp.len
  have hsl : ths.length * 32 ≤ most := hsz.len
  have htv : Rd m tv 2 thRow ths := hp.tv
  obtain ⟨g0, hg0⟩ : ∃ g0 : Value, g0 = .slice none 0 0 := ⟨_, rfl⟩
  have C4 : CJ m m4 (.slice none 0 0) [] (.slice none 0 0) [] [(m2.n, [iv cells, .slice none 0 0]), (m1.n, [.int .i64 0, .slice none 0 0]), (m.n, [iv cells, tv])] := by
    refine ⟨st4, .nil, .nil, fun B hB => ?_, fun B hB => by cases hB⟩
    rcases hB with hB | hB <;> cases hB
  unfold pgV
  simp [← hm1, ← hm2, l2, b_pg, ← hm3, f1]
  refine loop_run (c := ca2_20) rfl (Ret m _) (fun i t m' => ∃ g ts D, CJ m m' g ts (.slice none 0 0) [] ([(m2.n, [iv cells, g]), (m1.n, [.int .i64 0, .slice none 0 0]), (m.n, [iv cells, tv])] ++ D) ∧ ts.length = i ∧ (∀ (j : Nat) x, j < i → ths[j]? = some x → ∃ y, ts[j]? = some y ∧ ThEq y x) ∧ (∀ t ∈ ts, ThIn D t) ∧ (∀ t ∈ ts, ∀ v ∈ thRow t, okC v = true) ∧
      Tm.get 1 t = .pointer (some ⟨m.n, 0, none⟩) ∧ Tm.get 2 t = .pointer (some ⟨m1.n, 0, none⟩) ∧ Tm.get 3 t = .pointer (some ⟨m2.n, 0, none⟩) ∧ Tm.get 4 t = iv i) n hnl
    ⟨_, [], [], C4, rfl, fun j x hj => absurd hj (Nat.not_lt_zero _), by simp, by simp, by simp, by simp, by simp, by simp⟩ (fun i t m' k' hi hI hk' => ?_)
  obtain ⟨g, ts, D, hC, hl, he, hin, hokt, t1, t2, t3, t4⟩ := hI
  have S := hC.st.sees
  have lp : ∀ o s, load1 m' ⟨m.n, o, s⟩ = [iv cells, tv][o]? := fun o s => (hC.get 2 rfl).load1 o s
  by_cases hil : i < n
  · have hd := dlt hil
    have hd' : (i < n) = True := eq_true hil
    have ni := nextI (i := i) (by omega)
    obtain ⟨th, hth⟩ : ∃ r, ths[i]? = some r := ⟨_, List.getElem?_eq_getElem (by omega)⟩
    have hmem := List.mem_of_getElem? hth
    obtain ⟨x1, x2, x3⟩ := htv.at hth
    have xl : ∀ s, load1 m' ⟨(adr 2 tv i).block, (adr 2 tv i).off, s⟩ = some (iv th.loc) := fun s => x3 m' 0 s S (by simp [thRow])
    have c1 := hC.row [.int .i64 0, .slice none 0 0]
    obtain ⟨m5, hm5⟩ : ∃ m5, m5 = Dx.newRow m' [.int .i64 0, .slice none 0 0] := ⟨_, rfl⟩
    rw [← hm5] at c1
    obtain ⟨m6, g1, g2, g3⟩ := c1.fill 0 rfl (n := 2) (l' := [iv th.loc, .slice none 0 0]) rfl rfl (by simp [okC])
    have C6 : CJ m m6 g ts (.slice none 0 0) [] (cS m'.n m2.n m1.n m.n th.loc cells (.slice none 0 0) g tv ++ D) := g2
    simp [t1, t4, lp, hll, hd, hd', x1, xl, b_pg, ← hm5, g1, -ca2_13_ap]
    refine copy_acts (th := th) hm htv hth (hp.ths th hmem) (hsz.ths th hmem) C6 ⟨by simp [t1], by simp [t2], by simp [t3], by simp [t4], by simp, by simp⟩ (fun t' m7 ga xs D' t1 t2 t3 t4 t5 hC7 hD hxl hxe hxin => ?_)
    obtain ⟨D2, hC8, has, hD2⟩ := hC7.close
    have l3 : ∀ o s, load1 m7 ⟨m2.n, o, s⟩ = [iv cells, g][o]? := fun o s => (hC7.get 1 rfl).load1 o s
    have l5 : loads m7 ⟨m'.n, 0, none⟩ 2 = some [iv th.loc, ga] := (hC7.get 0 rfl).loads (n := 2) (by simp)
    have okga : okC ga = true := hC7.gs.okC
    obtain ⟨nt, hnt⟩ : ∃ nt : Th, nt = ⟨th.loc, ga, xs⟩ := ⟨_, rfl⟩
    have hnr : thRow nt = [iv th.loc, ga] := by rw [hnt]; rfl
    have bs := bs_th nt m7
    have C9 := hC8.step (Ext.row m7 (thRow nt))
    obtain ⟨m8, hm8⟩ : ∃ m8, m8 = Dx.newRow m7 (thRow nt) := ⟨_, rfl⟩
    have hl8 : loads m8 ⟨m7.n, 0, some 5⟩ 2 = some (thRow nt) := by rw [hm8]; exact (Arr.row m7 _).loads (n := 2) (by rw [hnr]; simp)
    rw [← hm8] at bs C9
    obtain ⟨g', m9, p1, p2, p3⟩ := grow_some C9.gt (by omega) (fun _ => rfl) (x := nt) (fun y hy => by
      rcases List.mem_append.1 hy with hy | hy
      · exact hokt y hy
      · rw [List.mem_singleton.1 hy, hnr]; simp [okC]; exact okga) hl8 C9.st.ext.n (bytes := 32) (by rw [hl]; have := Nat.mul_le_mul_right 32 (show i + 1 ≤ ths.length by omega); omega) (by rw [hl]; unfold most at hsl; omega)
    have C10 := C9.appT p2 p3
    obtain ⟨m10, q1, q2, q3⟩ := C10.store 1 rfl (o := 1) (v := g') (by simp) C10.gt.okC
    have C11 : CJ m m10 g' (ts ++ [nt]) (.slice none 0 0) [] (cS m'.n m2.n m1.n m.n th.loc cells ga g' tv ++ D2) := q2
    have C12 := C11.sub (σ' := [(m2.n, [iv cells, g']), (m1.n, [.int .i64 0, .slice none 0 0]), (m.n, [iv cells, tv])] ++ D2) (fun p hp => List.mem_cons_of_mem _ hp) (by have := C11.st.nd; simp only [List.cons_append, List.map_cons, List.nodup_cons] at this ⊢; exact this.2)
    rw [hnr] at bs
    simp [t3, t4, t5, l3, l5, loadNS_ptr, bs, p1, q1, ni]
    refine hk' hil _ _ ⟨g', ts ++ [nt], D2, C12, by simp [hl], fun j x hj hx => ?_, fun y hy => ?_, fun y hy => ?_, by simp [t1], by simp [t2], by simp [t3], by simp⟩
    · by_cases hji : j < i
      · obtain ⟨z, h1, h2⟩ := he j x hji hx
        exact ⟨z, by rw [List.getElem?_append_left (by omega)]; exact h1, h2⟩
      · obtain rfl : j = i := by omega
        rw [hth] at hx; cases hx
        exact ⟨nt, by rw [List.getElem?_append_right (by omega)]; simp [hl], by rw [hnt], by rw [hnt]; exact hxl, fun q y hy => by rw [hnt]; exact hxe q y hy⟩
    · rcases List.mem_append.1 hy with hy | hy
      · exact (hin y hy).sub fun p hp => hD2 p (hD p hp)
      · rw [List.mem_singleton.1 hy, hnt]
        exact ⟨has, fun a ha => (hxin a ha).sub hD2⟩
    · rcases List.mem_append.1 hy with hy | hy
      · exact hokt y hy
      · rw [List.mem_singleton.1 hy, hnr]; simp [okC]; exact okga
  · obtain rfl : i = n := by omega
    have hd : ((i : Int) < (i : Int)) = False := eq_false (by omega)
    have l3 : loads m' ⟨m2.n, 0, none⟩ 2 = some [iv cells, g] := (hC.get 0 rfl).loads (n := 2) (by simp)
    have okg : okC g = true := hC.gt.okC
    obtain ⟨m8, q1, q2, q3⟩ := hC.fill 1 rfl (n := 2) (l' := [iv cells, g]) rfl rfl (by simp [okC]; exact okg)
    have C8 : CJ m m8 g ts (.slice none 0 0) [] ([(m2.n, [iv cells, g]), (m1.n, [iv cells, g]), (m.n, [iv cells, tv])] ++ D) := q2
    have lf : loads m8 ⟨m1.n, 0, none⟩ 2 = some [iv cells, g] := (C8.get 1 rfl).loads (n := 2) (by simp)
    simp [t1, t2, t3, t4, lp, hll, hd, loadNS_ptr, l3, q1]
    refine ret_cell (a := ⟨m1.n, 0, none⟩) (by simp [t2]) lf C8.st.ext ?_
    have hnd := C8.st.nd
    have stD : St m m8 D := C8.st.sub (fun p hp => List.mem_append_right _ hp) (by simp only [List.cons_append, List.nil_append, List.map_cons, List.nodup_cons] at hnd; exact hnd.2.2.2)
    have heq : PgEq ⟨cells, g, ts⟩ ⟨cells, tv, ths⟩ := ⟨rfl, by show ts.length = ths.length; omega, fun j x hx => he j x (by have h2 : j < ths.length := (List.getElem?_eq_some_iff.1 hx).1; omega) hx⟩
    rcases C8.gt with ⟨h1, h2⟩ | ⟨B, h1, h2, h3, h4, h5⟩
    · exact ⟨⟨cells, g, ts⟩, rfl, heq, D, ⟨.inl ⟨h1, h2⟩, hin⟩, stD⟩
    · refine ⟨⟨cells, g, ts⟩, rfl, heq, (B, ts.flatMap thRow) :: D, ⟨.inr ⟨B, _, h4, by simp⟩, fun t ht => (hin t ht).sub fun p hp => List.mem_cons_of_mem _ hp⟩, stD.add h1 h2 h5 fun p hp => ?_⟩
      exact C8.sep B (.inl (by rw [h4]; rfl)) p (List.mem_append_right _ hp)
end Go.Sx
