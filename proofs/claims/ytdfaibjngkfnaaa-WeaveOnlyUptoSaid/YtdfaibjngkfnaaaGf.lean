/- Contracts. -/
import Derived.Test.YtdfaibjngkfnaaaGe
import Derived.Test.YtdfaibjngkfnaaaGd
import Derived.Test.YtdfaibjngkfnaaaGa
set_option linter.unusedVariables false
set_option linter.unusedSimpArgs false
set_option linter.defProp false
namespace Go.Sx
open Go.Dx Go.Proofs
set_option maxRecDepth 10000
theorem XJ (n : Nat) (av bv : Value) (a b : List Nat) (ha : a.length ≤ 1000) (hb : b.length ≤ 1000) (m : M) (hm : m.base ≤ m.n) (h1 : Rd m av 1 kA a) (h2 : Rd m bv 1 kA b) : CallV (ex Try.prog (n + 1)) 36 [av, bv] m (.bool (decide (a = b))) := by
 refine qE da6_ok (by simp) ?_
 have e1 := h1.len
 have e2 := h2.len
 by_cases hl : a.length = b.length
 ·have hl' : ((a.length : Int) = b.length) = True := eq_true (by omega)
  simp [e1, e2, hl]
  refine qu (c := YH) rfl (Ret m _) (fun i t m' => m' = m ∧ (∀ j, j < i → a[j]? = b[j]?) ∧ Tm.get 0 t = av ∧ Tm.get 1 t = bv ∧ Tm.get 5 t = iv i) a.length (by omega)
   ⟨rfl, fun j hj => by omega, by simp, by simp, by simp⟩ (fun i t m' k hi hI hk => ?_)
  obtain ⟨rfl, hp, h0, h1', h5⟩ := hI
  by_cases hil : i < a.length
  ·obtain ⟨x, hx⟩ : ∃ x, a[i]? = some x := ⟨_, qaa hil⟩
   obtain ⟨y, hy⟩ : ∃ y, b[i]? = some y := ⟨_, qaa (by omega)⟩
   have ⟨p1, p2⟩ := Rd.at1 (g := fun (x : Nat) => Value.int .u64 (x : Int)) h1 hx
   have ⟨q1, q2⟩ := Rd.at1 (g := fun (x : Nat) => Value.int .u64 (x : Int)) h2 hy
   have hd := dlt hil
   have w1 := qS (i := i) (by omega)
   have S := Sees.refl hm
   by_cases hxy : x = y
   ·subst hxy
    simp [h0, h1', h5, e1, hd, p1, p2, q1, q2, S, w1, meets, FP.meet, FP.clear]
    refine hk hil _ _ ⟨rfl, fun j hj => ?_, by simp [h0], by simp [h1'], by simp⟩
    rcases Nat.lt_succ_iff_lt_or_eq.1 hj with h | rfl
    ·exact hp j h
    ·rw [hx, hy]
   ·have hne : ((x : Int) = y) = False := eq_false (by omega)
    simp [h0, h1', h5, e1, hd, p1, p2, q1, q2, S, hne, meets, FP.meet, FP.clear]
    refine qX (Ext.refl _) ?_
    have : a ≠ b := fun e => by subst e; rw [hx] at hy; cases hy; exact hxy rfl
    simp [this]
  obtain rfl : i = a.length := by omega
  have hnl : ((a.length : Int) < a.length) = False := eq_false (by omega)
  simp [h0, h1', h5, e1, hnl]
  refine qX (Ext.refl _) ?_
  have : a = b := List.ext_getElem? fun j => by
   by_cases hj : j < a.length
   ·exact hp j hj
   ·rw [qav (by omega), qav (by omega)]
  simp [this]
 ·have hl' : ((a.length : Int) = b.length) = False := eq_false (by omega)
  simp [e1, e2, hl']
  refine qX (Ext.refl _) ?_
  have : a ≠ b := fun e => hl (by rw [e])
  simp [this]
def mtB (byB : Bool) (x y : Nat) (p : Nat × Nat) : Bool := if byB then decide (p.2 = x ∧ p.1 = y) else decide (p.1 = x ∧ p.2 = y)
def XO (l : List (Nat × Nat)) (n : Nat) (byB : Bool) (x : Nat) : List (Nat × Nat) := (List.range n).flatMap fun y => l.filter (mtB byB x y)
def yM (l : List (Nat × Nat)) (n : Nat) (byB : Bool) : Nat → Nat → List (Nat × Nat) → List (Nat × Nat)
 | 0, _, out => out
 | k + 1, x, out => if out.length < l.length then yM l n byB k (x + 1) (out ++ XO l n byB x) else out
theorem bK (l : List (Nat × Nat)) (n : Nat) (byB : Bool) (x : Nat) : (XO l n byB x).length ≤ n * l.length := by
 unfold XO
 induction n with
 | zero => simp
 | succ n ih =>
  rw [List.range_succ, List.flatMap_append, qak, Nat.succ_mul]
  have : ([n].flatMap fun y => l.filter (mtB byB x y)).length ≤ l.length := by simpa using List.length_filter_le _ _
  omega
theorem Za (l : List (Nat × Nat)) (n : Nat) (byB : Bool) : ∀ (k x : Nat) (out : List (Nat × Nat)), out.length ≤ l.length + n * l.length → (yM l n byB k x out).length ≤ l.length + n * l.length
 | 0, _, out, h => h
 | k + 1, x, out, h => by
  unfold yM
  split
  ·refine Za l n byB k (x + 1) _ ?_
   rw [qak]
   have := bK l n byB x
   omega
  ·exact h
theorem app_pr {m0 m : M} {v : Value} {es : List (Nat × Nat)} (h : Grown m0 m v 2 qq es) (hE : Ext m0 m) (hb : m0.base ≤ m0.n) (hl : es.length ≤ 1000000) (p : Nat × Nat) :
  ∃ v' m', qZ (Dx.newRow m (qq p)) 2 16 v (.slice (some ⟨m.n, 0, some 5⟩) 1 1) = some (v', m') ∧ Ext m0 m' ∧ Grown m0 m' v' 2 qq (es ++ [p]) ∧ m.n ≤ m'.n := by
 obtain ⟨v', m', h1, h2, h3, h4, h5, h6⟩ := (h.ext (Ext.row m (qq p))).append (hE.trans (Ext.row m (qq p))) hb (by omega) wy xU (x := p) (X := m.n) (sp := some 5)
  ((Arr.row m (qq p)).loads (o := 0) (n := 2) (by simp [qq])) (bytes := 16) (by unfold most; omega) (by omega)
 exact ⟨v', m', h1, h2, h3, by rw [qn] at h4; omega⟩
theorem Vd {α : Type} (f : Nat → List α) (n : Nat) : (List.range (n + 1)).flatMap f = (List.range n).flatMap f ++ f n := by
 rw [List.range_succ, List.flatMap_append]; simp
theorem fZ {α : Type} (p : α → Bool) {l : List α} {i : Nat} {x : α} (h : l[i]? = some x) : (l.take (i + 1)).filter p = (l.take i).filter p ++ (if p x then [x] else []) := by
 rw [take_at h, List.filter_append]
 congr 1
 by_cases hp : p x <;> simp [hp]
theorem KY (nf : Nat) (lv : Value) (l : List (Nat × Nat)) (n : Nat) (byB : Bool) (hl : l.length ≤ 300) (hn : n ≤ 300) (m : M) (hm : m.base ≤ m.n) (h : Rd m lv 2 qq l) :
  Dx.Call (ex Try.prog (nf + 1)) 66 [lv, iv n, .bool byB] m fun v m' => Grown m m' v 2 qq (yM l n byB n 0 []) := by
 refine qE db6_ok (by simp) ?_
 have hel := h.len
 have hbd : n * l.length ≤ 90000 := Nat.mul_le_mul hn hl
 obtain ⟨R, hR⟩ := qay (yM l n byB n 0 [])
 rw [← hR]
 simp
 refine qu (c := YN) rfl (Ret m _) (fun x t m' => ∃ v out, yM l n byB (n - x) x out = R ∧ out.length ≤ l.length + n * l.length ∧ Grown m m' v 2 qq out ∧ Ext m m' ∧ Tm.get 0 t = lv ∧ Tm.get 1 t = iv n ∧ Tm.get 2 t = .bool byB ∧ Tm.get 7 t = v ∧ Tm.get 8 t = iv x) n (by omega)
  ⟨_, [], by simpa using hR.symm, by simp, Grown.nil, Ext.refl _, by simp, by simp, by simp, by simp, by simp⟩ (fun x t m' k hi hI hk => ?_)
 obtain ⟨v, out, hgo, hlen, hG, hE, h0, h1, h2, h7, h8⟩ := hI
 have hsv := hG.lens
 by_cases hil : x < n
 ·have hd := dlt hil
  have hstep : yM l n byB (n - x) x out = if out.length < l.length then yM l n byB (n - (x + 1)) (x + 1) (out ++ XO l n byB x) else out := by
   rw [show n - x = (n - (x + 1)) + 1 by omega]; rfl
  by_cases hol : out.length < l.length
  ·rw [if_pos hol] at hstep
   simp [h0, h1, h2, h7, h8, hd, hel, hsv, hol]
   refine qu (c := YM) rfl (Ret m _) (fun y t m' => ∃ v, Grown m m' v 2 qq (out ++ (List.range y).flatMap fun y => l.filter (mtB byB x y)) ∧ Ext m m' ∧ Tm.get 0 t = lv ∧ Tm.get 1 t = iv n ∧ Tm.get 2 t = .bool byB ∧ Tm.get 7 t = v ∧ Tm.get 8 t = iv x ∧ Tm.get 9 t = iv y) n (by omega)
    ⟨v, by simpa using hG, hE, by simp [h0], by simp [h1], by simp [h2], by simp [h7], by simp [h8], by simp⟩ (fun y t m' k2 hi2 hI2 hk2 => ?_)
   obtain ⟨v, hG, hE, h0, h1, h2, h7, h8, h9⟩ := hI2
   by_cases hyl : y < n
   ·have hd2 := dlt hyl
    simp [h0, h1, h2, h7, h8, h9, hd2]
    refine qu (c := YL) rfl (Ret m _) (fun i t m' => ∃ v, Grown m m' v 2 qq ((out ++ (List.range y).flatMap fun y => l.filter (mtB byB x y)) ++ (l.take i).filter (mtB byB x y)) ∧ Ext m m' ∧ Tm.get 0 t = lv ∧ Tm.get 1 t = iv n ∧ Tm.get 2 t = .bool byB ∧ Tm.get 7 t = v ∧ Tm.get 8 t = iv x ∧ Tm.get 9 t = iv y ∧ Tm.get 10 t = iv i) l.length (by omega)
     ⟨v, by simpa using hG, hE, by simp [h0], by simp [h1], by simp [h2], by simp [h7], by simp [h8], by simp [h9], by simp⟩ (fun i t m' k3 hi3 hI3 hk3 => ?_)
    obtain ⟨v, hG, hE, h0, h1, h2, h7, h8, h9, h10⟩ := hI3
    by_cases hil3 : i < l.length
    ·have hd3 := dlt hil3
     have w3 := qS (i := i) (by omega)
     obtain ⟨p, hp⟩ : ∃ p, l[i]? = some p := ⟨_, qaa hil3⟩
     have hS := (Sees.refl hm).ext hE
     have ⟨a1, a2, a3⟩ := (h.sees hS).at hp
     have a2' : loads m' (adr 2 lv i) 2 = some (qq p) := a2 m' hS.self
     have b0 : load1 m' ⟨(adr 2 lv i).block, (adr 2 lv i).off, none⟩ = some (iv p.1) := by have := a3 m' 0 none hS.self (by simp [qq]); exact this
     have b1 : load1 m' ⟨(adr 2 lv i).block, (adr 2 lv i).off + 1, none⟩ = some (iv p.2) := by rw [a3 m' 1 none hS.self (by simp [qq])]; rfl
     have hft := fZ (mtB byB x y) hp
     obtain ⟨F, hF⟩ := qay ((out ++ (List.range y).flatMap fun y => l.filter (mtB byB x y)) ++ (l.take i).filter (mtB byB x y))
     have hFl : F.length ≤ 1000000 := by
      have hb1 := bK l y byB x
      unfold XO at hb1
      have hb2 : ((l.take i).filter (mtB byB x y)).length ≤ l.length := qam (List.length_filter_le _ _) (by simp; omega)
      have hy3 : y ≤ 300 := by omega
      have hb3 : y * l.length ≤ 90000 := Nat.mul_le_mul hy3 hl
      rw [hF, qak, qak]
      omega
     rw [← hF] at hG
     have hnx : (out ++ (List.range y).flatMap fun y => l.filter (mtB byB x y)) ++ (l.take (i + 1)).filter (mtB byB x y) = F ++ (if mtB byB x y p then [p] else []) := by rw [hft, hF, List.append_assoc, List.append_assoc, List.append_assoc]
     obtain ⟨v', m2, f1, f2, f3, f4⟩ := app_pr hG hE hm hFl p
     have f1' : qZ (Dx.newRow m' [iv p.1, iv p.2]) 2 16 v (.slice (some ⟨m'.n, 0, some 5⟩) 1 1) = some (v', m2) := f1
     have yes : mtB byB x y p = true → ∀ t', Tm.get 0 t' = lv → Tm.get 1 t' = iv n → Tm.get 2 t' = .bool byB → Tm.get 7 t' = v' → Tm.get 8 t' = iv x → Tm.get 9 t' = iv y → Tm.get 10 t' = iv (i + 1 : Nat) → Ret m (fun v m' => Grown m m' v 2 qq R) (k3 t' m2) := fun hm t' q0 q1 q2 q7 q8 q9 q10 => by
      refine hk3 hil3 _ _ ⟨v', ?_, f2, q0, q1, q2, q7, q8, q9, q10⟩
      rw [hnx, if_pos hm]; exact f3
     have no : mtB byB x y p = false → ∀ t', Tm.get 0 t' = lv → Tm.get 1 t' = iv n → Tm.get 2 t' = .bool byB → Tm.get 7 t' = v → Tm.get 8 t' = iv x → Tm.get 9 t' = iv y → Tm.get 10 t' = iv (i + 1 : Nat) → Ret m (fun v m' => Grown m m' v 2 qq R) (k3 t' m') := fun hm t' q0 q1 q2 q7 q8 q9 q10 => by
      refine hk3 hil3 _ _ ⟨v, ?_, hE, q0, q1, q2, q7, q8, q9, q10⟩
      rw [hnx, hm]; simpa using hG
     cases byB with
     | false =>
      by_cases c1 : p.1 = x
      ·have e1 : ((p.1 : Int) = x) = True := eq_true (by omega)
       by_cases c2 : p.2 = y
       ·have e2 : ((p.2 : Int) = y) = True := eq_true (by omega)
        simp [h0, h1, h2, h7, h8, h9, h10, hd3, hel, a1, a2', b0, b1, e1, e2, ql, qq, f1', w3]
        exact yes (by simp [mtB, c1, c2]) _ (by simp [h0]) (by simp [h1]) (by simp [h2]) (by simp) (by simp [h8]) (by simp [h9]) (by simp)
       ·have e2 : ((p.2 : Int) = y) = False := eq_false (by omega)
        simp [h0, h1, h2, h7, h8, h9, h10, hd3, hel, a1, a2', b0, b1, e1, e2, w3]
        exact no (by simp [mtB, c2]) _ (by simp [h0]) (by simp [h1]) (by simp [h2]) (by simp [h7]) (by simp [h8]) (by simp [h9]) (by simp)
      ·have e1 : ((p.1 : Int) = x) = False := eq_false (by omega)
       simp [h0, h1, h2, h7, h8, h9, h10, hd3, hel, a1, a2', b0, b1, e1, w3]
       exact no (by simp [mtB, c1]) _ (by simp [h0]) (by simp [h1]) (by simp [h2]) (by simp [h7]) (by simp [h8]) (by simp [h9]) (by simp)
     | true =>
      by_cases c1 : p.2 = x
      ·have e1 : ((p.2 : Int) = x) = True := eq_true (by omega)
       by_cases c2 : p.1 = y
       ·have e2 : ((p.1 : Int) = y) = True := eq_true (by omega)
        simp [h0, h1, h2, h7, h8, h9, h10, hd3, hel, a1, a2', b0, b1, e1, e2, ql, qq, f1', w3]
        exact yes (by simp [mtB, c1, c2]) _ (by simp [h0]) (by simp [h1]) (by simp [h2]) (by simp) (by simp [h8]) (by simp [h9]) (by simp)
       ·have e2 : ((p.1 : Int) = y) = False := eq_false (by omega)
        simp [h0, h1, h2, h7, h8, h9, h10, hd3, hel, a1, a2', b0, b1, e1, e2, w3]
        exact no (by simp [mtB, c2]) _ (by simp [h0]) (by simp [h1]) (by simp [h2]) (by simp [h7]) (by simp [h8]) (by simp [h9]) (by simp)
      ·have e1 : ((p.2 : Int) = x) = False := eq_false (by omega)
       simp [h0, h1, h2, h7, h8, h9, h10, hd3, hel, a1, a2', b0, b1, e1, w3]
       exact no (by simp [mtB, c1]) _ (by simp [h0]) (by simp [h1]) (by simp [h2]) (by simp [h7]) (by simp [h8]) (by simp [h9]) (by simp)
    obtain rfl : i = l.length := by omega
    have w2 := qS (i := y) (by omega)
    simp [h0, h10, hel, h9, w2]
    refine hk2 hyl _ _ ?_
    refine ⟨v, ?_, hE, by simp [h0], by simp [h1], by simp [h2], by simp [h7], by simp [h8], by simp⟩
    rw [Vd, ← List.append_assoc]
    rw [List.take_length] at hG
    exact hG
   obtain rfl : y = n := by omega
   have w1 := qS (i := x) (by omega)
   simp [h1, h9, h8, w1]
   refine hk hil _ _ ?_
   refine ⟨v, out ++ XO l y byB x, by rw [← hstep, hgo], ?_, hG, hE, by simp [h0], by simp [h1], by simp [h2], by simp [h7], by simp⟩
   rw [qak]
   have := bK l y byB x
   omega
  ·rw [if_neg hol] at hstep
   simp [h0, h1, h2, h7, h8, hd, hel, hsv, hol]
   refine qX hE ?_
   rw [hgo] at hstep
   simp [h7, hstep]
   exact hG
 obtain rfl : x = n := by omega
 rw [Nat.sub_self] at hgo
 simp [h0, h1, h2, h7, h8, hel, hsv]
 refine qX hE ?_
 simp [h7]
 have : R = out := hgo.symm
 rw [this]; exact hG
end Go.Sx
namespace Go.Sx
open Go.Dx Go.Proofs
set_option maxHeartbeats 1000000 in
theorem Same_m (n N : Nat) (x : GX) (ev rf co ev' rf' co' : Value) (m : M) (hm : m.base ≤ m.n) (hev : x.EV.length ≤ 1000000) (hrf : x.RF.length ≤ 1000000) (hco : x.CO.length ≤ 1000000) (hcl : ∀ l ∈ x.CO, l.length ≤ 1000000) (h : GV m N x ev rf co) (h' : GV m N x ev' rf' co') :
  CallV (ex Try.prog (n + 2)) 24 [.agg ⟨qc N ev rf co⟩, .agg ⟨qc N ev' rf' co'⟩] m (.bool true) := by
 refine qE da3_ok (by simp) ?_
 have st0 : St m m [] := St.nil hm (Ext.refl m)
 have st1 := (st0.row (qc N ev rf co)).row (qc N ev' rf' co')
 simp only [qn] at st1
 obtain ⟨m1, hm1⟩ := qay (Dx.newRow (Dx.newRow m (qc N ev rf co)) (qc N ev' rf' co'))
 rw [← hm1] at st1
 have l1 : ∀ m'', Sees m1 m'' → ∀ o s, load1 m'' ⟨m.n, o, s⟩ = (qc N ev rf co)[o]? := fun m'' k o s => by rw [qv k (st1.get 1 rfl).2.1]; exact (st1.get 1 rfl).2.2.load1 o s
 have l2 : ∀ m'', Sees m1 m'' → ∀ o s, load1 m'' ⟨m.n + 1, o, s⟩ = (qc N ev' rf' co')[o]? := fun m'' k o s => by rw [qv k (st1.get 0 rfl).2.1]; exact (st1.get 0 rfl).2.2.load1 o s
 have L1 : ∀ m'', Sees m1 m'' → ∀ s, loads m'' ⟨m.n, 0, s⟩ 8 = some (qc N ev rf co) := fun m'' k s => by rw [ky k (st1.get 1 rfl).2.1]; exact (st1.get 1 rfl).2.2.loads (n := 8) (by simp [qc])
 have L2 : ∀ m'', Sees m1 m'' → ∀ s, loads m'' ⟨m.n + 1, 0, s⟩ 8 = some (qc N ev' rf' co') := fun m'' k s => by rw [ky k (st1.get 0 rfl).2.1]; exact (st1.get 0 rfl).2.2.loads (n := 8) (by simp [qc])
 have g10 : (qc N ev rf co)[0]? = some (iv N) := rfl
 have g11 : (qc N ev rf co)[1]? = some ev := rfl
 have g13 : (qc N ev rf co)[3]? = some co := rfl
 have g20 : (qc N ev' rf' co')[0]? = some (iv N) := rfl
 have g21 : (qc N ev' rf' co')[1]? = some ev' := rfl
 have g23 : (qc N ev' rf' co')[3]? = some co' := rfl
 have S1 := st1.sees.self
 have H := h.sees st1.sees
 have H' := h'.sees st1.sees
 obtain ⟨sv, hc1, hc2⟩ := H.co
 obtain ⟨sv', hc1', hc2'⟩ := H'.co
 have e1 := H.ev.len
 have e2 := H'.ev.len
 have f1 := hc1.len
 have f2 := hc1'.len
 simp only [List.length_map, List.length_range] at f1 f2
 obtain ⟨ne, hne⟩ := qay (x.EV.length)
 obtain ⟨nc, hnc⟩ := qay (x.CO.length)
 rw [← hne] at e1 e2 hev
 rw [← hnc] at f1 f2 hco
 simp (maxDischargeDepth := 30) [← hm1, l1, l2, S1, g10, g11, g13, g20, g21, g23, e1, e2, f1, f2]
 refine qu (c := Yy) rfl (Ret m _) (fun i t m' => Tm.get 2 t = .pointer (some ⟨m.n, 0, none⟩) ∧ Tm.get 3 t = .pointer (some ⟨m.n + 1, 0, none⟩) ∧ Tm.get 5 t = iv i ∧ Ext m1 m') ne (by omega)
  ⟨by simp, by simp, by simp, Ext.refl _⟩ (fun i t m' k hi hI hk => ?_)
 obtain ⟨t2, t3, t5, hE⟩ := hI
 have S' := S1.ext hE
 by_cases hil : i < ne
 ·have hd := dlt hil
  have w1 := qS (i := i) (by omega)
  obtain ⟨r, hr⟩ : ∃ r, x.EV[i]? = some r := ⟨_, qaa (by omega)⟩
  have ⟨a1, a2, _⟩ := H.ev.at hr
  have ⟨b1, b2, _⟩ := H'.ev.at hr
  simp (maxDischargeDepth := 30) [t2, t3, t5, l1, l2, S', g11, g21, e1, hd, a1, b1, ql, a2, b2, eq_ev r, w1]
  exact hk hil _ _ ⟨by simp [t2], by simp [t3], by simp, hE⟩
 obtain rfl : i = ne := by omega
 have hd : ((i : Int) < (i : Int)) = False := eq_false (by omega)
 have hLok : ∀ y, okC y = true → ∀ v ∈ [y, .slice none 0 0, .slice none 0 0, .slice none 0 0, .slice none 0 0], okC v = true := fun y hy v hv => by
  simp only [List.mem_cons, List.not_mem_nil, or_false] at hv
  rcases hv with e | e | e | e | e <;> rw [e]
  ·exact hy
  all_goals rfl
 have stB := (St.nil (m0 := m1) st1.sees.base (Ext.refl m1)).step hE
 obtain ⟨v2, m2, a1, a2, rfl⟩ := QJ n N ev rf co m' stB.sees.base H.rf.okV
 have stC := (stB.step a2).row [.slice none 0 0, .slice none 0 0, .slice none 0 0, .slice none 0 0, .slice none 0 0]
 obtain ⟨m3, b1, b2, b3, b4⟩ := stC.fill 0 rfl (n := 5) (l' := [rf, .slice none 0 0, .slice none 0 0, .slice none 0 0, .slice none 0 0]) rfl rfl (hLok _ H.rf.okV)
 obtain ⟨v4, m4, c1, c2, rfl⟩ := QJ n N ev' rf' co' m3 b2.sees.base H'.rf.okV
 have stD := (b2.step c2).row [.slice none 0 0, .slice none 0 0, .slice none 0 0, .slice none 0 0, .slice none 0 0]
 obtain ⟨m5, d1, d2, d3, d4⟩ := stD.fill 0 rfl (n := 5) (l' := [rf', .slice none 0 0, .slice none 0 0, .slice none 0 0, .slice none 0 0]) rfl rfl (hLok _ H'.rf.okV)
 have S5 := d2.sees
 have L1' := L1 m' S'
 have L2' := L2 m3 b2.sees
 simp (maxDischargeDepth := 30) [t2, t3, t5, l1, l2, S', g11, e1, hd, L1', ql, a1, b1, L2', c1, d1]
 have Hm := h.sees (st1.sees.trans S5)
 obtain ⟨LL, hLL⟩ : ∃ LL : Nat → List (Nat × Nat), LL = fun k => if k = 0 then x.RF else [] := ⟨_, rfl⟩
 obtain ⟨xv, hxv⟩ : ∃ xv : Nat → Value, xv = fun k => if k = 0 then rf else .slice none 0 0 := ⟨_, rfl⟩
 obtain ⟨yv, hyv⟩ : ∃ yv : Nat → Value, yv = fun k => if k = 0 then rf' else .slice none 0 0 := ⟨_, rfl⟩
 have rdnil : ∀ m'' : M, Rd m'' (.slice none 0 0) 2 qq ([] : List (Nat × Nat)) := fun m'' => ⟨rfl, fun i r hr => by simp at hr, rfl, fun B hB => by cases hB⟩
 have rx : ∀ k, Rd m5 (xv k) 2 qq (LL k) := fun k => by
  rw [hxv, hLL]; by_cases e : k = 0
  ·simp only [e, if_true]; exact H.rf.sees S5
  ·simp only [e, if_false]; exact rdnil _
 have ry : ∀ k, Rd m5 (yv k) 2 qq (LL k) := fun k => by
  rw [hyv, hLL]; by_cases e : k = 0
  ·simp only [e, if_true]; exact H'.rf.sees S5
  ·simp only [e, if_false]; exact rdnil _
 have ll : ∀ k, (LL k).length ≤ 1000000 := fun k => by
  rw [hLL]; simp only
  by_cases e : k = 0
  ·rw [if_pos e]; exact hrf
  ·rw [if_neg e]; simp
 have ax := fun m'' (k : Sees m5 m'') => (d2.get 1 rfl).2.2.sees k (d2.get 1 rfl).2.1
 have ay := fun m'' (k : Sees m5 m'') => (d2.get 0 rfl).2.2.sees k (d2.get 0 rfl).2.1
 have n6 : m2.n < m5.n := (d2.get 1 rfl).2.1
 have lx : ∀ m'', Sees m5 m'' → ∀ k, k < 5 → load1 m'' ⟨m2.n, k, none⟩ = some (xv k) := fun m'' s k hk => by
  rw [(ax m'' s).load1, hxv]
  rcases (by omega : k = 0 ∨ k = 1 ∨ k = 2 ∨ k = 3 ∨ k = 4) with rfl | rfl | rfl | rfl | rfl <;> rfl
 have ly : ∀ m'', Sees m5 m'' → ∀ k, k < 5 → load1 m'' ⟨m4.n, k, none⟩ = some (yv k) := fun m'' s k hk => by
  rw [(ay m'' s).load1, hyv]
  rcases (by omega : k = 0 ∨ k = 1 ∨ k = 2 ∨ k = 3 ∨ k = 4) with rfl | rfl | rfl | rfl | rfl <;> rfl
 have SS := S5.self
 have iA : ∀ (B k : Nat), k < 5 → zA 5 1 (.pointer (some ⟨B, 0, none⟩)) (.int .i64 (k : Int)) = some (.pointer (some ⟨B, k, none⟩)) := fun B k hk => by
  rcases (by omega : k = 0 ∨ k = 1 ∨ k = 2 ∨ k = 3 ∨ k = 4) with rfl | rfl | rfl | rfl | rfl <;> rfl
 refine qu (c := YA) rfl (Ret m _) (fun k t m' => Tm.get 2 t = .pointer (some ⟨m.n, 0, none⟩) ∧ Tm.get 3 t = .pointer (some ⟨m.n + 1, 0, none⟩) ∧ Tm.get 6 t = .pointer (some ⟨m2.n, 0, none⟩) ∧ Tm.get 7 t = .pointer (some ⟨m4.n, 0, none⟩) ∧ Tm.get 8 t = iv k ∧ Ext m5 m') 5 (by omega)
  ⟨by simp [t2], by simp [t3], by simp, by simp, by simp, Ext.refl _⟩ (fun k t m' kk hk5 hI hk => ?_)
 obtain ⟨t2, t3, t6, t7, t8, hE⟩ := hI
 have S' := SS.ext hE
 by_cases hkl : k < 5
 ·have hd := dlt hkl
  have hd' : ((k : Int) < 5) = True := eq_true (by omega)
  have w1 := qS (i := k) (by omega)
  have ix := iA m2.n k hkl
  have iy := iA m4.n k hkl
  have vx := fun m'' (s : Sees m' m'') => lx m'' (S'.trans s) k hkl
  have vy := fun m'' (s : Sees m' m'') => ly m'' (S'.trans s) k hkl
  have ex := (rx k).len
  have ey := (ry k).len
  have hlk := ll k
  obtain ⟨nk, hnk⟩ := qay ((LL k).length)
  rw [← hnk] at ex ey hlk
  simp (maxDischargeDepth := 30) [t2, t3, t6, t7, t8, hd', ix, iy, vx, vy, S'.self, ex, ey]
  refine qu (c := Yz) rfl (Ret m _) (fun j t m' => Tm.get 2 t = .pointer (some ⟨m.n, 0, none⟩) ∧ Tm.get 3 t = .pointer (some ⟨m.n + 1, 0, none⟩) ∧ Tm.get 6 t = .pointer (some ⟨m2.n, 0, none⟩) ∧ Tm.get 7 t = .pointer (some ⟨m4.n, 0, none⟩) ∧ Tm.get 8 t = iv k ∧ Tm.get 9 t = iv j ∧ Ext m5 m') nk (by omega)
   ⟨by simp [t2], by simp [t3], by simp [t6], by simp [t7], by simp [t8], by simp, hE⟩ (fun j t m' kj hj hI hk' => ?_)
  obtain ⟨t2, t3, t6, t7, t8, t9, hE⟩ := hI
  have S' := SS.ext hE
  have vx := lx m' S' k hkl
  have vy := ly m' S' k hkl
  by_cases hjl : j < nk
  ·have hd := dlt hjl
   have w2 := qS (i := j) (by omega)
   obtain ⟨r, hr⟩ : ∃ r, (LL k)[j]? = some r := ⟨_, qaa (by omega)⟩
   have ⟨q1, q2, _⟩ := (rx k).at hr
   have ⟨q3, q4, _⟩ := (ry k).at hr
   have q2' := q2 m' S'
   have q4' := q4 m' S'
   simp (maxDischargeDepth := 30) [t2, t3, t6, t7, t8, t9, hd, ix, iy, vx, vy, ex, ey, q1, q2', q3, q4', ql, BO r, w2]
   exact hk' hjl _ _ ⟨by simp [t2], by simp [t3], by simp [t6], by simp [t7], by simp [t8], by simp, hE⟩
  ·obtain rfl : j = nk := by omega
   have hd : ((j : Int) < (j : Int)) = False := eq_false (by omega)
   simp (maxDischargeDepth := 30) [t2, t3, t6, t7, t8, t9, hd, ix, vx, ex, w1]
   exact hk hkl _ _ ⟨by simp [t2], by simp [t3], by simp [t6], by simp [t7], by simp, hE⟩
 obtain rfl : k = 5 := by omega
 simp (maxDischargeDepth := 30) [t2, t3, t6, t7, t8]
 have l1m := fun m'' (k : Sees m5 m'') => l1 m'' (S5.trans k)
 have l2m := fun m'' (k : Sees m5 m'') => l2 m'' (S5.trans k)
 refine qu (c := YC) rfl (Ret m _) (fun c t m' => Tm.get 2 t = .pointer (some ⟨m.n, 0, none⟩) ∧ Tm.get 3 t = .pointer (some ⟨m.n + 1, 0, none⟩) ∧ Tm.get 10 t = iv c ∧ Ext m5 m') nc (by omega)
  ⟨by simp [t2], by simp [t3], by simp, hE⟩ (fun c t m' kk hc5 hI hk => ?_)
 obtain ⟨t2, t3, t10, hE⟩ := hI
 have S' := SS.ext hE
 by_cases hcl' : c < nc
 ·have hd := dlt hcl'
  have w1 := qS (i := c) (by omega)
  obtain ⟨l, hl⟩ : ∃ l, x.CO[c]? = some l := ⟨_, qaa (by omega)⟩
  have hlm := hcl l (qab hl)
  have sc : ((List.range x.CO.length).map sv)[c]? = some (sv c) := by rw [qaq, List.getElem?_range (by omega)]; rfl
  have sc' : ((List.range x.CO.length).map sv')[c]? = some (sv' c) := by rw [qaq, List.getElem?_range (by omega)]; rfl
  have ⟨i1, i2⟩ := Rd.at1 (g := fun (v : Value) => v) (hc1.sees S5) sc
  have ⟨j1, j2⟩ := Rd.at1 (g := fun (v : Value) => v) (hc1'.sees S5) sc'
  have i2' := i2 m' S'
  have j2' := j2 m' S'
  have R1 := (hc2 c l hl).sees S5
  have R2 := (hc2' c l hl).sees S5
  have ex := R1.len
  have ey := R2.len
  obtain ⟨nl, hnl⟩ := qay (l.length)
  rw [← hnl] at ex ey hlm
  simp (maxDischargeDepth := 30) [t2, t3, t10, l1m, l2m, S', g13, g23, f1, f2, hd, i1, j1, i2', j2', ex, ey]
  refine qu (c := YB) rfl (Ret m _) (fun j t m' => Tm.get 2 t = .pointer (some ⟨m.n, 0, none⟩) ∧ Tm.get 3 t = .pointer (some ⟨m.n + 1, 0, none⟩) ∧ Tm.get 10 t = iv c ∧ Tm.get 11 t = iv j ∧ Ext m5 m') nl (by omega)
   ⟨by simp [t2], by simp [t3], by simp [t10], by simp, hE⟩ (fun j t m' kj hj hI hk' => ?_)
  obtain ⟨t2, t3, t10, t11, hE⟩ := hI
  have S' := SS.ext hE
  have i2' := i2 m' S'
  have j2' := j2 m' S'
  by_cases hjl : j < nl
  ·have hd := dlt hjl
   have w2 := qS (i := j) (by omega)
   obtain ⟨r, hr⟩ : ∃ r, l[j]? = some r := ⟨_, qaa (by omega)⟩
   have ⟨q1, q2⟩ := Rd.at1 (g := fun (v : Nat) => iv v) R1 hr
   have ⟨q3, q4⟩ := Rd.at1 (g := fun (v : Nat) => iv v) R2 hr
   have q2' := q2 m' S'
   have q4' := q4 m' S'
   simp (maxDischargeDepth := 30) [t2, t3, t10, t11, l1m, l2m, S', g13, g23, i1, j1, i2', j2', ex, hd, q1, q2', q3, q4', w2]
   exact hk' hjl _ _ ⟨by simp [t2], by simp [t3], by simp [t10], by simp, hE⟩
  ·obtain rfl : j = nl := by omega
   have hd : ((j : Int) < (j : Int)) = False := eq_false (by omega)
   simp (maxDischargeDepth := 30) [t2, t3, t10, t11, l1m, S', g13, i1, i2', ex, hd, w1]
   exact hk hcl' _ _ ⟨by simp [t2], by simp [t3], by simp, hE⟩
 obtain rfl : c = nc := by omega
 have hd : ((c : Int) < (c : Int)) = False := eq_false (by omega)
 simp (maxDischargeDepth := 30) [t2, t3, t10, l1m, S', g13, f1, hd]
 exact qX (st1.ext.trans (d2.ext.trans hE)) (by simp)
end Go.Sx
namespace Go.Dx
section
variable {α β : Type} {m0 m1 m m' : M} {P2 P3 : Nat} {σ : List (Nat × List Value)} {g : Value} {e e' : Nat} {f : α → List Value} {f' : β → List Value} {rows : List α}
theorem GS.ofSt (h : St m0 m σ) (e : Nat) (f : α → List Value) : GS m0 m0 m 0 0 σ (.slice none 0 0) e f [] :=
 ⟨h, ⟨h.ext.n, fun B hB _ => h.ext.obj B hB, h.ext.base, h.ext.log⟩, fun p hp => .inr (.inr (h.arr p hp).1), qad _, h.base, .nil, fun B hB => by cases hB⟩
theorem GS.addBlk (h : GS m0 m1 m P2 P3 σ g e f rows) (hE : Ext m m') {B : Nat} {l : List Value} (h1 : m.n ≤ B) (h2 : B < m'.n) (h3 : Arr m' B l) : GS m0 m1 m' P2 P3 (σ ++ [(B, l)]) g e f rows := by
 have h' := h.step hE
 have hr := h.rest.n
 have h01 := h.m01
 have hlt : ∀ p ∈ σ, p.1 < B := fun p hp => qaf (h.st.arr p hp).2.1 h1
 refine ⟨⟨h'.st.ext, h'.st.base, fun p hp => ?_, ?_⟩, h'.rest, fun p hp => ?_, h.m01, h.m1b, h'.gr, fun C hC => ?_⟩
 ·rcases qax.1 hp with hp | hp
  ·exact h'.st.arr p hp
  ·rw [qah.1 hp]; exact ⟨by show m0.n ≤ B; omega, h2, h3⟩
 ·rw [List.map_append, List.nodup_append]
  refine ⟨h.st.nd, by simp, fun a ha b hb => ?_⟩
  obtain ⟨p, hp, rfl⟩ := List.mem_map.1 ha
  simp at hb
  have := hlt p hp
  omega
 ·rcases qax.1 hp with hp | hp
  ·exact h.low p hp
  ·rw [qah.1 hp]; exact .inr (.inr (by show m1.n ≤ B; omega))
 ·obtain ⟨a, b, c⟩ := h.sep C hC
  refine ⟨a, (h'.sep C hC).2.1, fun p hp => ?_⟩
  rcases qax.1 hp with hp | hp
  ·exact c p hp
  ·rw [qah.1 hp]; show B ≠ C; omega
end
end Go.Dx
namespace Go.Sx
open Go.Dx Go.Proofs
set_option maxRecDepth 10000
abbrev qt : Value := .slice none 0 0
@[simp] theorem build_gr1 (a : Int) : ko [.int .i64 0, .slice none 0 0, .slice none 0 0, .slice none 0 0, .slice none 0 0, .slice none 0 0, .slice none 0 0, .slice none 0 0] [(0, 1, .int .i64 a)] = some (.agg ⟨[.int .i64 a, .slice none 0 0, .slice none 0 0, .slice none 0 0, .slice none 0 0, .slice none 0 0, .slice none 0 0, .slice none 0 0]⟩) := _root_.id rfl
abbrev CnS := List Nat × List EvR
def cnI (EV : List EvR) (t : Int) (s : CnS) (i : Nat) : CnS := match EV[i]? with
 | some e => if e.th = t then (s.1.set i s.2.length, s.2 ++ [e]) else s
 | none => s
def xb (EV : List EvR) (t : Int) (j : Nat) (s : CnS) : CnS := (List.range j).foldl (cnI EV t) s
def kD (EV : List EvR) (k : Nat) : CnS := (List.range k).foldl (fun s (k : Nat) => xb EV ((k : Int) - 1) EV.length s) (List.replicate EV.length 0, [])
theorem qL {α : Type} (f : α → Nat → α) (n : Nat) (s : α) : (List.range (n + 1)).foldl f s = f ((List.range n).foldl f s) n := by
 rw [List.range_succ, List.foldl_append]; rfl
theorem BM (EV : List EvR) (t : Int) (s : CnS) (i : Nat) : (cnI EV t s i).1.length = s.1.length ∧ (cnI EV t s i).2.length ≤ s.2.length + 1 := by
 unfold cnI
 split
 ·split <;> simp
 ·simp
theorem fW (EV : List EvR) (t : Int) (s : CnS) : ∀ j, (xb EV t j s).1.length = s.1.length ∧ (xb EV t j s).2.length ≤ s.2.length + j
 | 0 => by simp [xb]
 | j + 1 => by
  have ih := fW EV t s j
  unfold xb at ih ⊢
  rw [qL]
  have := BM EV t ((List.range j).foldl (cnI EV t) s) j
  omega
theorem ji (EV : List EvR) : ∀ k, (kD EV k).1.length = EV.length ∧ (kD EV k).2.length ≤ k * EV.length
 | 0 => by simp [kD]
 | k + 1 => by
  have ih := ji EV k
  unfold kD at ih ⊢
  rw [qL]
  have := fW EV ((k : Int) - 1) ((List.range k).foldl (fun s (k : Nat) => xb EV ((k : Int) - 1) EV.length s) (List.replicate EV.length 0, [])) EV.length
  rw [Nat.succ_mul]
  omega
section
variable {m m' : M} {N : Nat} {ev rf co : Value} {EV : List EvR} {RF : List (Nat × Nat)} {CO : List (List Nat)} {sv : Nat → Value}
structure CnT (t : Tm) (B1 B2 NB B6 n : Nat) : Prop where
 t1 : Tm.get 1 t = .pointer (some ⟨B1, 0, none⟩)
 t2 : Tm.get 2 t = .pointer (some ⟨B2, 0, none⟩)
 t4 : Tm.get 4 t = iv n
 t5 : Tm.get 5 t = .slice (some ⟨NB, 0, some 3⟩) n n
 t6 : Tm.get 6 t = .pointer (some ⟨B6, 0, none⟩)
def cnσ (B1 B2 NB B6 N : Nat) (ev rf co g : Value) (now : List Nat) : List (Nat × List Value) := [(B6, qc N g qt qt), (NB, nums now), (B2, wD), (B1, qc N ev rf co)]
theorem cnB (n : Nat) (hev : Rd m ev 5 qp EV) (hl : EV.length ≤ 256) {B1 B2 NB B6 : Nat} {t : Tm} (hG : GS m m m' 0 0 (cnσ B1 B2 NB B6 N ev rf co qt (List.replicate EV.length 0)) qt 5 qp ([] : List EvR)) (hT : CnT t B1 B2 NB B6 EV.length) (t7 : Tm.get 7 t = iv (-1)) {kn kr : K} {ke : Nat → K} {Q : Option Out → Prop}
  (H : ∀ t' m2 g, GS m m m2 0 0 (cnσ B1 B2 NB B6 N ev rf co g (kD EV 65).1) g 5 qp (kD EV 65).2 → CnT t' B1 B2 NB B6 EV.length → Q (ke 0 t' m2)) : Q (ZE (ex Try.prog n) kn ke kr t m') := by
 refine qu (c := ZE) rfl Q (fun k t m' => ∃ g, GS m m m' 0 0 (cnσ B1 B2 NB B6 N ev rf co g (kD EV k).1) g 5 qp (kD EV k).2 ∧ CnT t B1 B2 NB B6 EV.length ∧ Tm.get 7 t = iv ((k : Int) - 1)) 65 (by omega)
  ⟨qt, hG, hT, by simpa using t7⟩ (fun k t m' kk hi hI hk => ?_)
 obtain ⟨g, hG, hT, h7⟩ := hI
 obtain ⟨z, hz⟩ : ∃ z : Int, z = (k : Int) - 1 := ⟨_, rfl⟩
 rw [← hz] at h7
 have q1 := hT.t1
 have q2 := hT.t2
 have q4 := hT.t4
 have q5 := hT.t5
 have q6 := hT.t6
 by_cases hil : k < 65
 ·have hd : (z < 64) = True := eq_true (by omega)
  simp [h7, hd]
  have hkl := ji EV k
  refine qu (c := YI) rfl Q (fun i t m' => ∃ g, GS m m m' 0 0 (cnσ B1 B2 NB B6 N ev rf co g (xb EV z i (kD EV k)).1) g 5 qp (xb EV z i (kD EV k)).2 ∧ CnT t B1 B2 NB B6 EV.length ∧ Tm.get 7 t = iv z ∧ Tm.get 8 t = iv i) EV.length (by omega)
   ⟨g, by simpa [xb] using hG, ⟨by simp [q1], by simp [q2], by simp [q4], by simp [q5], by simp [q6]⟩, by simp [h7], by simp⟩ (fun i t m' k2 hi2 hI2 hk2 => ?_)
  obtain ⟨g, hG, hT, h7, h8⟩ := hI2
  have q1 := hT.t1
  have q2 := hT.t2
  have q4 := hT.t4
  have q5 := hT.t5
  have q6 := hT.t6
  by_cases hil2 : i < EV.length
  ·have hd2 := dlt hil2
   have w2 := qS (i := i) (by omega)
   obtain ⟨e, he⟩ : ∃ e, EV[i]? = some e := ⟨_, qaa hil2⟩
   obtain ⟨s, hs⟩ := qay (xb EV z i (kD EV k))
   have hsl := fW EV z (kD EV k) i
   rw [← hs] at hG hsl
   have hnx : xb EV z (i + 1) (kD EV k) = if e.th = z then (s.1.set i s.2.length, s.2 ++ [e]) else s := by
    unfold xb at hs ⊢
    rw [qL, ← hs]
    unfold cnI
    rw [he]
   have hS := hG.st.sees
   have l1 : load1 m' ⟨B1, 1, none⟩ = some ev := (hG.st.get 3 rfl).2.2.load1 1 none
   have ⟨a1, a2, a3⟩ := (hev.sees hS).at he
   have b0 : load1 m' ⟨(adr 5 ev i).block, (adr 5 ev i).off, none⟩ = some (iv e.th) := by have := a3 m' 0 none hS.self (by simp [qp]); exact this
   by_cases hth : e.th = z
   ·rw [if_pos hth] at hnx
    have l6 : load1 m' ⟨B6, 1, none⟩ = some g := (hG.st.get 0 rfl).2.2.load1 1 none
    have hgl := hG.gr.lens
    have hix := kO NB EV.length i hil2
    obtain ⟨m1, s1, G1, n1, o1⟩ := hG.store 1 (b := NB) (o := i) (l := nums s.1) (v := iv s.2.length) rfl (by rw [zC]; omega) rfl
    have e1 : (nums s.1).set i (iv s.2.length) = nums (s.1.set i s.2.length) := xk _ _ _
    rw [e1] at G1
    have G1' : GS m m m1 0 0 (cnσ B1 B2 NB B6 N ev rf co g (s.1.set i s.2.length)) g 5 qp s.2 := G1
    have hS1 := G1'.st.sees
    have u6 : load1 m1 ⟨B6, 1, none⟩ = some g := (G1'.st.get 0 rfl).2.2.load1 1 none
    have u1 : load1 m1 ⟨B1, 1, none⟩ = some ev := (G1'.st.get 3 rfl).2.2.load1 1 none
    have ⟨c1, c2, c3⟩ := (hev.sees hS1).at he
    have c2' : loads m1 (adr 5 ev i) 5 = some (qp e) := c2 m1 hS1.self
    obtain ⟨v', m2, f1, f2, G2, n2, o2, b2⟩ := G1'.appAny (by omega) wM kS (x := e) (M1 := Dx.newRow m1 (qp e)) (Ext.row _ _) (X := m1.n) (sp := some 11) ((Arr.row m1 (qp e)).loads (o := 0) (n := 5) (by simp [qp])) (bytes := 40) (by have := ji EV k; have : k * EV.length ≤ 65 * 256 := Nat.mul_le_mul (by omega) hl; unfold most; omega) (by have := ji EV k; have : k * EV.length ≤ 65 * 256 := Nat.mul_le_mul (by omega) hl; omega)
    have f1' : qZ (qh (Dx.newRow m1 [.int .i64 e.th, .int .i64 e.kind, .int .i64 e.loc, .int .u64 e.val, .int .i64 e.mode])) 5 40 g (.slice (some ⟨m1.n, 0, some 11⟩) 1 1) = some (v', m2) := f1
    obtain ⟨M2, hM2⟩ := qay (behind (Dx.newRow m1 (qp e)) m2)
    rw [← hM2] at G2
    have hv' := (G2.gr.rd wM).okV
    obtain ⟨m3, g1, g2, G3, n3, o3⟩ := G2.storeAny 0 (b := B6) (o := 1) (l := qc N g qt qt) (v := v') rfl (by simp [qc]) hv'
    have g1' : qO 1 (.pointer (some ⟨B6, 1, none⟩)) v' (qh (behind (Dx.newRow m1 [.int .i64 e.th, .int .i64 e.kind, .int .i64 e.loc, .int .u64 e.val, .int .i64 e.mode]) m2)) = some (undef, m3) := by rw [hM2] at g1; exact g1
    have heq : (e.th = z) = True := eq_true hth
    have er : qp e = [.int .i64 e.th, .int .i64 e.kind, .int .i64 e.loc, .int .u64 e.val, .int .i64 e.mode] := rfl
    rw [er] at c2'
    simp [q1, q4, q5, q6, h7, h8, hd2, l1, a1, b0, heq, l6, hgl, hix, s1, u6, u1, c1, ql, c2', f1', g1', w2, meets, FP.meet, FP.clear]
    refine hk2 hil2 _ _ ?_
    refine ⟨v', ?_, ⟨by simp [q1], by simp [q2], by simp [q4], by simp [q5], by simp [q6]⟩, by simp [h7], by simp⟩
    rw [hnx]
    rw [hM2] at G3
    exact G3
   ·rw [if_neg hth] at hnx
    have hne : (e.th = z) = False := eq_false hth
    simp [q1, q4, h7, h8, hd2, l1, a1, b0, hne, w2]
    refine hk2 hil2 _ _ ⟨g, by rw [hnx]; exact hG, ⟨by simp [q1], by simp [q2], by simp [q4], by simp [q5], by simp [q6]⟩, by simp [h7], by simp⟩
  obtain rfl : i = EV.length := by omega
  have w1 : IntKind.i64.wrap (z + 1) = ((k + 1 : Nat) : Int) - 1 := by rw [wrap64 _ (by omega) (by omega)]; omega
  obtain ⟨z2, hz2⟩ : ∃ z2 : Int, z2 = ((k + 1 : Nat) : Int) - 1 := ⟨_, rfl⟩
  rw [← hz2] at w1
  simp [q4, h8, h7, w1]
  refine hk hil _ _ ?_
  refine ⟨g, ?_, ⟨by simp [q1], by simp [q2], by simp [q4], by simp [q5], by simp [q6]⟩, by rw [← hz2]; simp⟩
  have hx : kD EV (k + 1) = xb EV z EV.length (kD EV k) := by
   unfold kD
   rw [qL, hz]
  rw [hx]; exact hG
 obtain rfl : k = 65 := by omega
 have hd : (z < 64) = False := eq_false (by omega)
 simp [h7, hd]
 exact H _ _ g hG ⟨by simp [q1], by simp [q2], by simp [q4], by simp [q5], by simp [q6]⟩
end
end Go.Sx
namespace Go.Sx
open Go.Dx Go.Proofs
set_option maxRecDepth 10000
theorem iA5 (B k : Nat) (hk : k < 5) : zA 5 1 (.pointer (some ⟨B, 0, none⟩)) (.int .i64 (k : Int)) = some (.pointer (some ⟨B, k, none⟩)) := by
 rcases (by omega : k = 0 ∨ k = 1 ∨ k = 2 ∨ k = 3 ∨ k = 4) with rfl | rfl | rfl | rfl | rfl <;> rfl
def dp (now : List Nat) (p : Nat × Nat) : Nat × Nat := (now.getD p.1 0, now.getD p.2 0)
section
variable {m m' : M} {N : Nat} {ev rf co g0 : Value} {EV : List EvR} {RF : List (Nat × Nat)} {CO : List (List Nat)} {sv : Nat → Value} {now : List Nat}
def l5 (r : Value) : List Value := [r, qt, qt, qt, qt]
theorem l5_ok {r : Value} (h : okC r = true) : ∀ v ∈ l5 r, okC v = true := by
 intro v hv
 simp [l5] at hv
 rcases hv with rfl | rfl <;> first | assumption | rfl
def yh (B1 B2 NB B6 B9 B10 N : Nat) (ev rf co g r : Value) (now : List Nat) (ex : List (Nat × List Value)) : List (Nat × List Value) := (B10, l5 r) :: (B9, l5 rf) :: (cnσ B1 B2 NB B6 N ev rf co g now ++ ex)
structure WU (t : Tm) (B1 B2 NB B6 B9 B10 n : Nat) : Prop where
 a : CnT t B1 B2 NB B6 n
 t9 : Tm.get 9 t = .pointer (some ⟨B9, 0, none⟩)
 t10 : Tm.get 10 t = .pointer (some ⟨B10, 0, none⟩)
theorem cnP (nf : Nat) (hrf : Rd m rf 2 qq RF) (hrl : RF.length ≤ 300) (hin : ∀ p ∈ RF, p.1 < EV.length ∧ p.2 < EV.length) (hnl : now.length = EV.length) (hl : EV.length ≤ 256) {B1 B2 NB B6 B9 B10 : Nat} {xs : List (Nat × List Value)} {t : Tm} (hG : GS m m m' 0 0 (yh B1 B2 NB B6 B9 B10 N ev rf co g0 qt now xs) qt 2 qq ([] : List (Nat × Nat)))
  (hT : WU t B1 B2 NB B6 B9 B10 EV.length) (t11 : Tm.get 11 t = iv 0) (t12 : Tm.get 12 t = iv 0) {kn : K} {ke : Nat → K} {kr : K} {Q : Option Out → Prop}
  (H : ∀ t' m2 g, GS m m m2 0 0 (yh B1 B2 NB B6 B9 B10 N ev rf co g0 g now xs) g 2 qq (RF.map (dp now)) → WU t' B1 B2 NB B6 B9 B10 EV.length → Tm.get 11 t' = iv 0 → Q (ke 6 t' m2)) : Q (QS (ex Try.prog nf) kn ke kr t m') := by
 have hel := hrf.len
 have i9 : zA 5 1 (.pointer (some ⟨B9, 0, none⟩)) (.int .i64 0) = some (.pointer (some ⟨B9, 0, none⟩)) := rfl
 have i10 : zA 5 1 (.pointer (some ⟨B10, 0, none⟩)) (.int .i64 0) = some (.pointer (some ⟨B10, 0, none⟩)) := rfl
 refine qu (c := QS) rfl Q (fun i t m' => ∃ g, GS m m m' 0 0 (yh B1 B2 NB B6 B9 B10 N ev rf co g0 g now xs) g 2 qq ((RF.take i).map (dp now)) ∧ WU t B1 B2 NB B6 B9 B10 EV.length ∧ Tm.get 11 t = iv 0 ∧ Tm.get 12 t = iv i) RF.length (by omega)
  ⟨qt, by simpa using hG, hT, t11, by simpa using t12⟩ (fun i t m' kk hi hI hk => ?_)
 obtain ⟨g, hG, hT, h11, h12⟩ := hI
 have q1 := hT.a.t1
 have q2 := hT.a.t2
 have q4 := hT.a.t4
 have q5 := hT.a.t5
 have q6 := hT.a.t6
 have q9 := hT.t9
 have q10 := hT.t10
 have hS := hG.st.sees
 have l9 : load1 m' ⟨B9, 0, none⟩ = some rf := (hG.st.get 1 rfl).2.2.load1 0 none
 have l10 : load1 m' ⟨B10, 0, none⟩ = some g := (hG.st.get 0 rfl).2.2.load1 0 none
 by_cases hil : i < RF.length
 ·have hd := dlt hil
  have w1 := qS (i := i) (by omega)
  obtain ⟨p, hp⟩ : ∃ p, RF[i]? = some p := ⟨_, qaa hil⟩
  obtain ⟨hp1, hp2⟩ := hin p (qab hp)
  have ⟨a1, a2, a3⟩ := (hrf.sees hS).at hp
  have b0 : load1 m' ⟨(adr 2 rf i).block, (adr 2 rf i).off, none⟩ = some (iv p.1) := by have := a3 m' 0 none hS.self (by simp [qq]); exact this
  have b1 : load1 m' ⟨(adr 2 rf i).block, (adr 2 rf i).off + 1, none⟩ = some (iv p.2) := by rw [a3 m' 1 none hS.self (by simp [qq])]; rfl
  have c1 : ((EV.length : Int) ≤ p.1) = False := eq_false (by omega)
  have c2 : ((EV.length : Int) ≤ p.2) = False := eq_false (by omega)
  have c1' : (EV.length ≤ p.1) = False := eq_false (by omega)
  have c2' : (EV.length ≤ p.2) = False := eq_false (by omega)
  have x1 := kO NB EV.length p.1 hp1
  have x2 := kO NB EV.length p.2 hp2
  have y1 : load1 m' ⟨NB, p.1, none⟩ = some (iv (now.getD p.1 0)) := by
   rw [(hG.st.get 3 rfl).2.2.load1]
   exact wj now p.1 _ (by rw [List.getD_eq_getElem?_getD, qaa (by omega)]; rfl)
  have y2 : load1 m' ⟨NB, p.2, none⟩ = some (iv (now.getD p.2 0)) := by
   rw [(hG.st.get 3 rfl).2.2.load1]
   exact wj now p.2 _ (by rw [List.getD_eq_getElem?_getD, qaa (by omega)]; rfl)
  obtain ⟨A, hA⟩ := qay (now.getD p.1 0)
  obtain ⟨B, hB⟩ := qay (now.getD p.2 0)
  rw [← hA] at y1
  rw [← hB] at y2
  obtain ⟨v', m2, f1, f2, G2, n2, o2, b2⟩ := hG.appAny (by omega) wy xU (x := (A, B)) (M1 := Dx.newRow m' (qq (A, B))) (Ext.row _ _) (X := m'.n) (sp := some 5) ((Arr.row m' (qq (A, B))).loads (o := 0) (n := 2) (by simp [qq])) (bytes := 16) (by simp; unfold most; omega) (by simp; omega)
  have f1' : qZ (qh (Dx.newRow m' [.int .i64 (A : Int), .int .i64 (B : Int)])) 2 16 g (.slice (some ⟨m'.n, 0, some 5⟩) 1 1) = some (v', m2) := f1
  obtain ⟨M2, hM2⟩ := qay (behind (Dx.newRow m' (qq (A, B))) m2)
  rw [← hM2] at G2
  have hv' := (G2.gr.rd wy).okV
  obtain ⟨m3, g1, g2, G3, n3, o3⟩ := G2.storeAny 0 (b := B10) (o := 0) (l := l5 g) (v := v') rfl (by simp [l5]) hv'
  have g1' : qO 1 (.pointer (some ⟨B10, 0, none⟩)) v' (qh (behind (Dx.newRow m' [.int .i64 (A : Int), .int .i64 (B : Int)]) m2)) = some (undef, m3) := by rw [hM2] at g1; exact g1
  simp [q1, q2, q4, q5, q6, q9, q10, h11, h12, i9, i10, l9, l10, hel, hd, a1, b0, b1, c1, c2, c1', c2', x1, x2, y1, y2, f1', g1', w1, meets, FP.meet, FP.clear]
  refine hk hil _ _ ?_
  refine ⟨v', ?_, ⟨⟨by simp [q1], by simp [q2], by simp [q4], by simp [q5], by simp [q6]⟩, by simp [q9], by simp [q10]⟩, by simp [h11], by simp⟩
  have hx : (RF.take (i + 1)).map (dp now) = (RF.take i).map (dp now) ++ [(A, B)] := by
   rw [take_at hp, List.map_append, List.map_singleton, hA, hB]; rfl
  rw [hx]
  rw [hM2] at G3
  exact G3
 obtain rfl : i = RF.length := by omega
 have hd : ((RF.length : Int) < RF.length) = False := eq_false (by omega)
 simp [q9, h11, h12, i9, l9, hel, hd]
 rw [List.take_length] at hG
 exact H _ _ g hG ⟨⟨by simp [q1], by simp [q2], by simp [q4], by simp [q5], by simp [q6]⟩, by simp [q9], by simp [q10]⟩ (by simp [h11])
theorem GN (n : Nat) (b : Bool) : ∀ k x, yM [] n b k x [] = []
 | 0, _ => rfl
 | k + 1, x => by unfold yM; simp
theorem cnD (nf : Nat) (hrf : Rd m rf 2 qq RF) (hrl : RF.length ≤ 300) (hin : ∀ p ∈ RF, p.1 < EV.length ∧ p.2 < EV.length) (hnl : now.length = EV.length) (hl : EV.length ≤ 256) {B1 B2 NB B6 B9 B10 : Nat} {xs : List (Nat × List Value)} {t : Tm} (hst : St m m' (yh B1 B2 NB B6 B9 B10 N ev rf co g0 qt now xs))
  (hT : WU t B1 B2 NB B6 B9 B10 EV.length) (t11 : Tm.get 11 t = iv 0) {kn : K} {ke : Nat → K} {kr : K} {Q : Option Out → Prop}
  (H : ∀ t' m2 r, St m m2 (yh B1 B2 NB B6 B9 B10 N ev rf co g0 r now xs) → Rd m2 r 2 qq (yM (RF.map (dp now)) EV.length true EV.length 0 []) → (∀ X, blk r = some X → ∀ p ∈ yh B1 B2 NB B6 B9 B10 N ev rf co g0 r now xs, p.1 < X) → WU t' B1 B2 NB B6 B9 B10 EV.length → Q (ke 4 t' m2)) : Q (ZF (ex Try.prog (nf + 1)) kn ke kr t m') := by
 obtain ⟨R, hR⟩ := qay (yM (RF.map (dp now)) EV.length true EV.length 0 [])
 rw [← hR] at H
 refine qu (c := ZF) rfl Q (fun k t m' => ∃ r, St m m' (yh B1 B2 NB B6 B9 B10 N ev rf co g0 r now xs) ∧ (k = 0 → r = qt) ∧ (0 < k → Rd m' r 2 qq R ∧ ∀ X, blk r = some X → ∀ p ∈ yh B1 B2 NB B6 B9 B10 N ev rf co g0 r now xs, p.1 < X) ∧ WU t B1 B2 NB B6 B9 B10 EV.length ∧ Tm.get 11 t = iv k) 5 (by omega)
  ⟨qt, hst, fun _ => rfl, fun h => absurd h (by omega), hT, by simpa using t11⟩ (fun k t m' kk hi hI hk => ?_)
 obtain ⟨r, st, hr0, hr1, hT, h11⟩ := hI
 have q1 := hT.a.t1
 have q2 := hT.a.t2
 have q4 := hT.a.t4
 have q5 := hT.a.t5
 have q6 := hT.a.t6
 have q9 := hT.t9
 have q10 := hT.t10
 by_cases hil : k < 5
 ·have w1 := qS (i := k) (by omega)
  by_cases hk0 : k = 0
  ·subst hk0
   obtain rfl := hr0 rfl
   have h11' : Tm.get 11 t = iv 0 := h11
   simp [h11']
   refine cnP (nf + 1) hrf hrl hin hnl hl (GS.ofSt st 2 qq) ⟨⟨by simp [q1], by simp [q2], by simp [q4], by simp [q5], by simp [q6]⟩, by simp [q9], by simp [q10]⟩ (by simp [h11']) (by simp) fun t' m2 g G T t11 => ?_
   have l10 : load1 m2 ⟨B10, 0, none⟩ = some g := (G.st.get 0 rfl).2.2.load1 0 none
   have i10 : zA 5 1 (.pointer (some ⟨B10, 0, none⟩)) (.int .i64 0) = some (.pointer (some ⟨B10, 0, none⟩)) := rfl
   have z4 := T.a.t4
   have z10 := T.t10
   obtain ⟨v, m3, c1, c2, c3⟩ := KY nf g (RF.map (dp now)) EV.length true (by simpa using hrl) (by omega) m2 G.st.sees.base (G.gr.rd wy)
   have st3 := G.st.step c2
   rw [← hR] at c3
   have hv := (c3.rd wy).okV
   obtain ⟨m4, s1, s2, s3, s4⟩ := st3.store 0 (b := B10) (l := l5 g) rfl (o := 0) (v := v) (by simp [l5]) hv
   have w0 : IntKind.i64.wrap 1 = 1 := wrap64 _ (by omega) (by omega)
   simp [t11, i10, z10, l10, z4, c1, s1, w0]
   refine hk hil _ _ ?_
   have hlow : ∀ X, blk v = some X → ∀ p ∈ yh B1 B2 NB B6 B9 B10 N ev rf co g0 v now xs, p.1 < X := fun X hX p hp => by
    have h1 : m2.n ≤ X := by
     rcases c3 with ⟨_, rfl⟩ | ⟨B', h1, _, _, rfl, _⟩
     ·cases hX
     ·cases hX; exact h1
    have : p.1 ∈ (yh B1 B2 NB B6 B9 B10 N ev rf co g0 g now xs).map (·.1) := by
     have := List.mem_map_of_mem (f := (·.1)) hp
     exact this
    obtain ⟨p', hp', e⟩ := List.mem_map.1 this
    have := (G.st.arr p' hp').2.1
    omega
   refine ⟨v, s2, fun h => absurd h (by omega), fun _ => ⟨(c3.rd wy).congr (by omega) fun X hX => s4 X ?_, hlow⟩, ⟨⟨by simp [T.a.t1], by simp [T.a.t2], by simp [z4], by simp [T.a.t5], by simp [T.a.t6]⟩, by simp [T.t9], by simp [z10]⟩, by simp⟩
   have := hlow X hX (B10, l5 v) (qas ..)
   simp only at this
   omega
  ·obtain ⟨hr, hlow⟩ := hr1 (by omega)
   have hd : ((k : Int) < 5) = True := eq_true (by omega)
   have i9 := iA5 B9 k hil
   have i10 := iA5 B10 k hil
   have l9 : load1 m' ⟨B9, k, none⟩ = some qt := by
    rw [(st.get 1 rfl).2.2.load1 k none]
    rcases (by omega : k = 1 ∨ k = 2 ∨ k = 3 ∨ k = 4) with rfl | rfl | rfl | rfl <;> rfl
   have l10 : load1 m' ⟨B10, k, none⟩ = some qt := by
    rw [(st.get 0 rfl).2.2.load1 k none]
    rcases (by omega : k = 1 ∨ k = 2 ∨ k = 3 ∨ k = 4) with rfl | rfl | rfl | rfl <;> rfl
   have hln : zZ qt = some (iv 0) := rfl
   have hkz : ((k : Int) = 0) = False := eq_false (by omega)
   have hkz' : (k = 0) = False := eq_false hk0
   obtain ⟨v, m3, c1, c2, c3⟩ := KY nf qt [] EV.length false (by simp) (by omega) m' st.sees.base ⟨rfl, fun i r hr => by simp at hr, rfl, fun B hB => by cases hB⟩
   rw [GN] at c3
   have hvn : v = qt := by
    rcases c3 with ⟨_, h⟩ | ⟨_, _, _, h, _⟩
    ·exact h
    ·exact absurd rfl h
   subst hvn
   have st3 := st.step c2
   obtain ⟨m4, s1, s2, s3, s4⟩ := st3.store 0 (b := B10) (l := l5 r) rfl (o := k) (v := qt) (by simp [l5]; omega) rfl
   have e5 : (l5 r).set k qt = l5 r := by
    rcases (by omega : k = 1 ∨ k = 2 ∨ k = 3 ∨ k = 4) with rfl | rfl | rfl | rfl <;> rfl
   rw [e5] at s2
   have s2' : St m m4 (yh B1 B2 NB B6 B9 B10 N ev rf co g0 r now xs) := s2
   simp [h11, hd]
   refine qu (c := QS) rfl Q (fun i t' m'' => m'' = m' ∧ Tm.get 4 t' = iv EV.length ∧ Tm.get 9 t' = .pointer (some ⟨B9, 0, none⟩) ∧ Tm.get 10 t' = .pointer (some ⟨B10, 0, none⟩) ∧ Tm.get 11 t' = iv k ∧ Tm.get 12 t' = iv 0 ∧ WU t' B1 B2 NB B6 B9 B10 EV.length) 0 (by omega)
    ⟨rfl, by simp [q4], by simp [q9], by simp [q10], by simp [h11], by simp, ⟨by simp [q1], by simp [q2], by simp [q4], by simp [q5], by simp [q6]⟩, by simp [q9], by simp [q10]⟩ (fun i t' m'' k3 _ hI3 _ => ?_)
   obtain ⟨rfl, y4, y9, y10, y11, y12, yT⟩ := hI3
   simp [y4, y9, y10, y11, y12, i9, l9, hln, i10, l10, hkz, hkz', c1, s1, w1]
   refine hk hil _ _ ?_
   refine ⟨r, s2', fun h => absurd h (by omega), fun _ => ⟨(hr.sees ((Sees.refl st.sees.base).ext c2)).congr (by omega) fun X hX => s4 X ?_, hlow⟩, ⟨⟨by simp [yT.a.t1], by simp [yT.a.t2], by simp [y4], by simp [yT.a.t5], by simp [yT.a.t6]⟩, by simp [y9], by simp [y10]⟩, by simp⟩
   have := hlow X hX (B10, l5 r) (qas ..)
   simp only at this
   omega
 obtain rfl : k = 5 := by omega
 obtain ⟨hr, hlow⟩ := hr1 (by omega)
 have h11' : Tm.get 11 t = iv 5 := h11
 simp [h11']
 exact H _ _ r st hr hlow ⟨⟨by simp [q1], by simp [q2], by simp [q4], by simp [q5], by simp [q6]⟩, by simp [q9], by simp [q10]⟩
end
end Go.Sx
namespace Go.Sx
open Go.Dx Go.Proofs
set_option maxRecDepth 10000
abbrev PL := Nat × List Nat
def plV (p : PL) : Value := .slice (some ⟨p.1, 0, some (code 1 false)⟩) p.2.length p.2.length
def plR (p : PL) : List Value := [plV p]
theorem WA (p : PL) : (plR p).length = 1 := rfl
def plB (p : PL) : Nat × List Value := (p.1, p.2.flatMap wa)
section
variable {m mG m' : M} {N : Nat} {ev rf co g0 r : Value} {EV : List EvR} {RF : List (Nat × Nat)} {CO : List (List Nat)} {sv : Nat → Value} {now : List Nat}
theorem cnF (n : Nat) {B1 B2 NB B6 B9 B10 : Nat} {xs : List (Nat × List Value)} {t : Tm} (st : St m m' (yh B1 B2 NB B6 B9 B10 N ev rf co g0 r now xs)) (hr : okC r = true) (hT : WU t B1 B2 NB B6 B9 B10 EV.length) {kn : K} {ke : Nat → K} {kr : K} {Q : Option Out → Prop}
  (H : ∀ t' m2, St m m2 ((B10, l5 r) :: (B9, l5 rf) :: ([(B6, qc N g0 r qt), (NB, nums now), (B2, wD), (B1, qc N ev rf co)] ++ xs)) → m2.n = m'.n → (∀ X, X ≠ B6 → m2.obj X = m'.obj X) → CnT t' B1 B2 NB B6 EV.length → Q (ZH (ex Try.prog n) kn ke kr t' m2)) : Q (ZI (ex Try.prog n) kn ke kr t m') := by
 have q1 := hT.a.t1
 have q2 := hT.a.t2
 have q4 := hT.a.t4
 have q5 := hT.a.t5
 have q6 := hT.a.t6
 have q10 := hT.t10
 have i0 : zA 5 1 (.pointer (some ⟨B10, 0, none⟩)) (.int .i64 0) = some (.pointer (some ⟨B10, 0, none⟩)) := rfl
 have i1 : zA 5 1 (.pointer (some ⟨B10, 0, none⟩)) (.int .i64 1) = some (.pointer (some ⟨B10, 1, none⟩)) := rfl
 have i2 : zA 5 1 (.pointer (some ⟨B10, 0, none⟩)) (.int .i64 2) = some (.pointer (some ⟨B10, 2, none⟩)) := rfl
 have i3 : zA 5 1 (.pointer (some ⟨B10, 0, none⟩)) (.int .i64 3) = some (.pointer (some ⟨B10, 3, none⟩)) := rfl
 have i4 : zA 5 1 (.pointer (some ⟨B10, 0, none⟩)) (.int .i64 4) = some (.pointer (some ⟨B10, 4, none⟩)) := rfl
 obtain ⟨m1, s1, st1, n1, o1⟩ := st.store 2 (b := B6) (l := qc N g0 qt qt) rfl (o := 2) (v := r) (by simp [qc]) hr
 have st1' : St m m1 ((B10, l5 r) :: (B9, l5 rf) :: ([(B6, qc N g0 r qt), (NB, nums now), (B2, wD), (B1, qc N ev rf co)] ++ xs)) := st1
 obtain ⟨m2, s2, st2, n2, o2⟩ := st1'.store 2 (b := B6) (l := qc N g0 r qt) rfl (o := 4) (v := qt) (by simp [qc]) rfl
 have st2' : St m m2 ((B10, l5 r) :: (B9, l5 rf) :: ([(B6, qc N g0 r qt), (NB, nums now), (B2, wD), (B1, qc N ev rf co)] ++ xs)) := st2
 obtain ⟨m3, s3, st3, n3, o3⟩ := st2'.store 2 (b := B6) (l := qc N g0 r qt) rfl (o := 5) (v := qt) (by simp [qc]) rfl
 have st3' : St m m3 ((B10, l5 r) :: (B9, l5 rf) :: ([(B6, qc N g0 r qt), (NB, nums now), (B2, wD), (B1, qc N ev rf co)] ++ xs)) := st3
 obtain ⟨m4, s4, st4, n4, o4⟩ := st3'.store 2 (b := B6) (l := qc N g0 r qt) rfl (o := 6) (v := qt) (by simp [qc]) rfl
 have st4' : St m m4 ((B10, l5 r) :: (B9, l5 rf) :: ([(B6, qc N g0 r qt), (NB, nums now), (B2, wD), (B1, qc N ev rf co)] ++ xs)) := st4
 obtain ⟨m5, s5, st5, n5, o5⟩ := st4'.store 2 (b := B6) (l := qc N g0 r qt) rfl (o := 7) (v := qt) (by simp [qc]) rfl
 have st5' : St m m5 ((B10, l5 r) :: (B9, l5 rf) :: ([(B6, qc N g0 r qt), (NB, nums now), (B2, wD), (B1, qc N ev rf co)] ++ xs)) := st5
 have l0 : load1 m' ⟨B10, 0, none⟩ = some r := (st.get 0 rfl).2.2.load1 0 none
 have l1 : load1 m1 ⟨B10, 1, none⟩ = some qt := (st1'.get 0 rfl).2.2.load1 1 none
 have l2 : load1 m2 ⟨B10, 2, none⟩ = some qt := (st2'.get 0 rfl).2.2.load1 2 none
 have l3 : load1 m3 ⟨B10, 3, none⟩ = some qt := (st3'.get 0 rfl).2.2.load1 3 none
 have l4 : load1 m4 ⟨B10, 4, none⟩ = some qt := (st4'.get 0 rfl).2.2.load1 4 none
 simp [q6, q10, i0, i1, i2, i3, i4, l0, l1, l2, l3, l4, s1, s2, s3, s4, s5, -XS]
 exact H _ m5 st5' (by omega) (fun X hX => by rw [o5 X hX, o4 X hX, o3 X hX, o2 X hX, o1 X hX]) ⟨by simp [q1], by simp [q2], by simp [q4], by simp [q5], by simp [q6]⟩
theorem cnG (n : Nat) (hco : Rd m co 1 (fun v : Value => [v]) ((List.range N).map sv)) (hsv : ∀ c l, CO[c]? = some l → Rd m (sv c) 1 wa l) (hcn : CO.length = N) (hN : N ≤ 256) (hcl : ∀ l ∈ CO, l ≠ [] ∧ l.length ≤ 256 ∧ ∀ w ∈ l, w < EV.length) (hnl : now.length = EV.length) {B1 B2 NB B6 : Nat} {t : Tm}
  (hE : Ext m mG) (h1 : Arr mG B1 (qc N ev rf co) ∧ B1 < mG.n ∧ B1 ≠ B6) (hNB : Arr mG NB (nums now) ∧ NB < mG.n ∧ NB ≠ B6)
  (hG : GS m mG mG B6 B6 [(B6, qc N g0 r qt)] qt 1 plR ([] : List PL)) (hB6 : B6 < mG.n) (h6m : m.n ≤ B6) (hT : CnT t B1 B2 NB B6 EV.length) (t13 : Tm.get 13 t = iv 0) {kn : K} {ke : Nat → K} {kr : K} {Q : Option Out → Prop}
  (H : ∀ t' m2 rows g, rows.map (·.2) = CO.map (List.map fun w => now.getD w 0) → GS m mG m2 B6 B6 ((B6, qc N g0 r g) :: rows.map plB) g 1 plR rows → CnT t' B1 B2 NB B6 EV.length → Q (ke 8 t' m2)) : Q (ZG (ex Try.prog n) kn ke kr t mG) := by
 have hcl1 := hco.len
 simp only [List.length_map, List.length_range] at hcl1
 refine qu (c := ZG) rfl Q (fun c t m' => ∃ rows g, rows.map (·.2) = (CO.take c).map (List.map fun w => now.getD w 0) ∧ GS m mG m' B6 B6 ((B6, qc N g0 r g) :: rows.map plB) g 1 plR rows ∧ CnT t B1 B2 NB B6 EV.length ∧ Tm.get 13 t = iv c) N (by omega)
  ⟨[], qt, by simp, by simpa using hG, hT, by simpa using t13⟩ (fun c t m' kk hi hI hk => ?_)
 obtain ⟨rows, g, hrows, hG, hT, h13⟩ := hI
 have q1 := hT.t1
 have q2 := hT.t2
 have q4 := hT.t4
 have q5 := hT.t5
 have q6 := hT.t6
 have hS := hG.st.sees
 have rst : ∀ {m2 : M}, Ext m' m2 → ∀ B, B < mG.n → B ≠ B6 → m2.obj B = mG.obj B := fun e B hB hne => (e.obj B (qaf hB hG.rest.n)).trans (hG.rest.obj B hB (by simp [hne]))
 have l1 : ∀ {m2 : M}, Ext m' m2 → load1 m2 ⟨B1, 3, none⟩ = some co := fun e => by
  rw [((h1.1).congr (rst e B1 h1.2.1 h1.2.2)).load1 3 none]; rfl
 have ln : ∀ {m2 : M}, Ext m' m2 → ∀ w (x : Nat), now[w]? = some x → load1 m2 ⟨NB, w, none⟩ = some (iv x) := fun e w x hx => by
  rw [((hNB.1).congr (rst e NB hNB.2.1 hNB.2.2)).load1 w none]; exact wj now w x hx
 have k1 := l1 (Ext.refl m')
 by_cases hil : c < N
 ·have hd := dlt hil
  obtain ⟨l, hl⟩ : ∃ l, CO[c]? = some l := ⟨_, qaa (by omega)⟩
  obtain ⟨hne, hll, hlw⟩ := hcl l (qab hl)
  have hcc : ((List.range N).map sv)[c]? = some (sv c) := by simp [hil]
  have ⟨a1, a2⟩ := Rd.at1 (g := fun (x : Value) => x) (hco.sees hS) hcc
  have hsl := (hsv c l hl).len
  have w1 := qS (i := c) (by omega)
  simp [q1, h13, k1, hcl1, hd]
  refine qu (c := YJ) rfl Q (fun i t m2 => ∃ v, Ext m' m2 ∧ Grown m' m2 v 1 wa ((l.take i).map fun w => now.getD w 0) ∧ CnT t B1 B2 NB B6 EV.length ∧ Tm.get 13 t = iv c ∧ Tm.get 14 t = v ∧ Tm.get 15 t = iv i) l.length (by omega)
   ⟨qt, Ext.refl _, by simpa using Grown.nil, ⟨by simp [q1], by simp [q2], by simp [q4], by simp [q5], by simp [q6]⟩, by simp [h13], by simp, by simp⟩ (fun i t m2 k2 hi2 hI2 hk2 => ?_)
  obtain ⟨v, hE2, hg2, hT, h13, h14, h15⟩ := hI2
  have q1 := hT.t1
  have q2 := hT.t2
  have q4 := hT.t4
  have q5 := hT.t5
  have q6 := hT.t6
  have k2' := l1 hE2
  have hS2 := hS.trans ((Sees.refl hS.base).ext hE2)
  by_cases hil2 : i < l.length
  ·have hd2 := dlt hil2
   have w2 := qS (i := i) (by omega)
   obtain ⟨w, hw⟩ : ∃ w, l[i]? = some w := ⟨_, qaa hil2⟩
   have hwn := hlw w (qab hw)
   obtain ⟨x, hx⟩ : ∃ x, now[w]? = some x := ⟨_, qaa (by omega)⟩
   have ⟨b1, b2⟩ := Rd.at1 (g := fun (x : Value) => x) (hco.sees hS2) hcc
   have ⟨c1, c2⟩ := Rd.at1 (g := fun (x : Nat) => iv x) ((hsv c l hl).sees hS2) hw
   have hge : ((EV.length : Int) ≤ w) = False := eq_false (by omega)
   have hge' : (EV.length ≤ w) = False := eq_false (by omega)
   have hix := kO NB EV.length w hwn
   have hnx := ln hE2 w x hx
   obtain ⟨v', m3, f1, f2, f3, f4⟩ := QO hg2 hE2 hS.base (by simp; omega) x
   simp [q1, q4, q5, h13, h14, h15, k2', b1, b2, hS2.self, hsl, hd2, c1, c2, hge, hge', hix, hnx, f1, w2]
   refine hk2 hil2 _ _ ?_
   refine ⟨v', f2, ?_, ⟨by simp [q1], by simp [q2], by simp [q4], by simp [q5], by simp [q6]⟩, by simp [h13], by simp, by simp⟩
   rw [take_at hw, List.map_append, List.map_singleton, List.getD_eq_getElem?_getD, hx]
   exact f3
  obtain rfl : i = l.length := by omega
  have hlt : ((l.length : Int) < l.length) = False := eq_false (by omega)
  have ⟨b1, b2⟩ := Rd.at1 (g := fun (x : Value) => x) (hco.sees hS2) hcc
  rw [List.take_length] at hg2
  obtain ⟨L, hL⟩ : ∃ L : List Nat, L = l.map fun w => now.getD w 0 := ⟨_, rfl⟩
  rw [← hL] at hg2
  have hLne : L ≠ [] := by rw [hL]; simpa using hne
  rcases hg2 with ⟨h, _⟩ | ⟨B, hB1, hB2, _, hvB, hArr⟩
  ·exact absurd h hLne
  have G2 := hG.addBlk hE2 hB1 hB2 hArr
  have l6 : load1 m2 ⟨B6, 3, none⟩ = some g := (G2.st.get 0 rfl).2.2.load1 3 none
  have hrl : rows.length = c := by
   have := congrArg List.length hrows
   simp at this
   omega
  obtain ⟨g', m3, f1, G3, n3, o3, b3⟩ := G2.app (by omega) WA (fun p v hv => by simp [plR] at hv; rw [hv]; rfl) (x := (B, L)) (M1 := Dx.newRow m2 [v]) (Ext.row _ _) (X := m2.n) (sp := some 3) (by
   rw [(Arr.row m2 [v]).loads (o := 0) (n := 1) (by simp)]
   rw [hvB]; rfl) (bytes := 24) (by rw [hrl]; unfold most; omega) (by rw [hrl]; omega)
  have hg' := (G3.gr.rd WA).okV
  obtain ⟨m4, s1, G4, n4, o4⟩ := G3.store 0 (b := B6) (l := qc N g0 r g) rfl (o := 3) (v := g') (by simp [qc]) hg'
  have hv : v = .slice (some ⟨B, 0, some (code 1 false)⟩) L.length L.length := hvB
  have hbs : kQ 1 1 (rep 1 [.slice none 0 0]) [(0, 1, v)] m2 = some (.slice (some ⟨m2.n, 0, some 3⟩) 1 1, Dx.newRow m2 [v]) := by rw [hv]; rfl
  simp [q1, q6, h13, h14, h15, k2', b1, b2, hS2.self, hsl, hlt, l6, hbs, f1, s1, w1]
  refine hk hil _ _ ?_
  refine ⟨rows ++ [(B, L)], g', ?_, ?_, ⟨by simp [q1], by simp [q2], by simp [q4], by simp [q5], by simp [q6]⟩, by simp⟩
  ·rw [List.map_append, hrows, take_at hl, List.map_append, List.map_singleton, List.map_singleton, hL]
  ·have e : ((B6, qc N g0 r g) :: rows.map plB ++ [(B, L.flatMap wa)]).set 0 (B6, (qc N g0 r g).set 3 g') = (B6, qc N g0 r g') :: (rows ++ [(B, L)]).map plB := by
    rw [List.map_append]; rfl
   rw [← e]; exact G4
 obtain rfl : c = N := by omega
 have hlt : ((c : Int) < c) = False := eq_false (by omega)
 simp [q1, h13, k1, hcl1, hlt]
 rw [List.take_of_length_le (by omega)] at hrows
 exact H _ _ rows g hrows hG ⟨by simp [q1], by simp [q2], by simp [q4], by simp [q5], by simp [q6]⟩
end
end Go.Sx
namespace Go.Sx
open Go.Dx Go.Proofs
set_option maxRecDepth 10000
def dL (EV : List EvR) (RF : List (Nat × Nat)) (CO : List (List Nat)) : GX :=
 ⟨(kD EV 65).2, yM (RF.map (dp (kD EV 65).1)) EV.length true EV.length 0 [], [], CO.map (List.map fun w => (kD EV 65).1.getD w 0)⟩
theorem Rd.mapV {α : Type} {m : M} {v : Value} {h : α → Value} {es : List α} (H : Rd m v 1 (fun a => [h a]) es) : Rd m v 1 (fun v : Value => [v]) (es.map h) := by
 refine ⟨by simpa using H.len, fun i r hr => ?_, ?_, H.lt⟩
 ·rw [qaq] at hr
  cases he : es[i]? with
  | none => rw [he] at hr; cases hr
  | some a =>
   rw [he] at hr; cases hr
   exact H.row i a he
 ·have := H.all
  rw [List.length_map, this]
  congr 1
  clear H this
  induction es with
  | nil => rfl
  | cons x l ih => rw [List.flatMap_cons, List.map_cons, List.flatMap_cons, ih]
section
variable {m : M} {N : Nat} {ev rf co : Value} {EV : List EvR} {RF : List (Nat × Nat)} {CO : List (List Nat)} {sv : Nat → Value}
set_option maxHeartbeats 1000000 in
theorem Ym (nf : Nat) (hm : m.base ≤ m.n) (h : GrV m N EV RF CO ev rf co sv) (wf : WFg N EV RF CO) (hrl : RF.length ≤ 300) (hin : ∀ p ∈ RF, p.1 < EV.length ∧ p.2 < EV.length) :
  Dx.Call (ex Try.prog (nf + 2)) 37 [.agg ⟨qc N ev rf co⟩] m fun v m' => ∃ ev' rf' co', v = .tuple #[.agg ⟨qc N ev' rf' co'⟩, .bool true] ∧ GV m' N (dL EV RF CO) ev' rf' co' := by
 refine qE da7_ok (by simp) ?_
 have hn2 := wf.n2
 have hn1 := wf.n1
 have hel := h.ev.len
 have st2 := ((St.nil hm (Ext.refl m)).row (qc N ev rf co)).row wD
 rw [qn] at st2
 obtain ⟨m2, hm2⟩ := qay (Dx.newRow (Dx.newRow m (qc N ev rf co)) wD)
 rw [← hm2] at st2
 have hm2' : Dx.newRow (Dx.newRow m (qc N ev rf co)) [.int .i64 0, .slice none 0 0, .slice none 0 0, .slice none 0 0, .slice none 0 0, .slice none 0 0, .slice none 0 0, .slice none 0 0] = m2 := by rw [hm2]; rfl
 have l1 : load1 m2 ⟨m.n, 1, none⟩ = some ev := (st2.get 1 rfl).2.2.load1 1 none
 have hmk := be (n := EV.length) (by omega) m2
 have st3 := st2.row (nums (List.replicate EV.length 0))
 obtain ⟨m3, hm3⟩ := qay (Dx.newRow m2 (nums (List.replicate EV.length 0)))
 rw [← hm3] at st3 hmk
 have l0 : load1 m3 ⟨m.n, 0, none⟩ = some (iv N) := (st3.get 2 rfl).2.2.load1 0 none
 obtain ⟨m4, s1, s2, s3, s4⟩ := (st3.row wD).fill 0 rfl (n := 8) (l' := qc N qt qt qt) rfl rfl (by simp [qc, okC])
 have s1' : qO 8 (.pointer (some ⟨m3.n, 0, none⟩)) (.agg ⟨[.int .i64 (N : Int), .slice none 0 0, .slice none 0 0, .slice none 0 0, .slice none 0 0, .slice none 0 0, .slice none 0 0, .slice none 0 0]⟩) (Dx.newRow m3 [.int .i64 0, .slice none 0 0, .slice none 0 0, .slice none 0 0, .slice none 0 0, .slice none 0 0, .slice none 0 0, .slice none 0 0]) = some (undef, m4) := s1
 have st4 : St m m4 (cnσ m.n (m.n + 1) m2.n m3.n N ev rf co qt (List.replicate EV.length 0)) := s2
 simp [hm2', l1, hel, hmk, l0, s1']
 refine cnB (nf + 1) h.ev hn2 (GS.ofSt st4 5 qp) ?_ ?_ fun t' m' g G T => ?_
 ·exact ⟨by simp, by simp, by simp, by simp, by simp⟩
 ·simp
 obtain ⟨xs, G5, hxs, _⟩ := G.doneLast 5 qp wM
 have st5 := G5.st
 have l8 : loads m' ⟨m.n, 0, none⟩ 8 = some (qc N ev rf co) := (st5.get 3 rfl).2.2.loads (n := 8) (by simp [qc])
 obtain ⟨v6, m6, c1, c2, rfl⟩ := QJ nf N ev rf co m' st5.sees.base h.rf.okV
 have st6 := (st5.step c2).row (l5 qt)
 obtain ⟨m7, u1, u2, u3, u4⟩ := st6.fill 0 rfl (n := 5) (l' := l5 rf) rfl rfl (l5_ok h.rf.okV)
 have u1' : qO 5 (.pointer (some ⟨m6.n, 0, none⟩)) (.agg ⟨[rf, .slice none 0 0, .slice none 0 0, .slice none 0 0, .slice none 0 0]⟩) (Dx.newRow m6 [.slice none 0 0, .slice none 0 0, .slice none 0 0, .slice none 0 0, .slice none 0 0]) = some (undef, m7) := u1
 have st7 := u2.row (l5 qt)
 obtain ⟨m8, hm8⟩ := qay (Dx.newRow m7 (l5 qt))
 rw [← hm8] at st7
 have hm8' : Dx.newRow m7 [.slice none 0 0, .slice none 0 0, .slice none 0 0, .slice none 0 0, .slice none 0 0] = m8 := by rw [hm8]; rfl
 have st8 : St m m8 (yh m.n (m.n + 1) m2.n m3.n m6.n m7.n N ev rf co g qt (kD EV 65).1 xs) := st7
 have y1 := T.t1
 simp [y1, l8, ql, c1, u1', hm8']
 have hcl := ji EV 65
 refine cnD nf h.rf hrl hin hcl.1 hn2 st8 ?_ ?_ fun t' mD r stD hr hlow T2 => ?_
 ·exact ⟨⟨by simp [T.t1], by simp [T.t2], by simp [T.t4], by simp [T.t5], by simp [T.t6]⟩, by simp, by simp⟩
 ·simp
 simp [-XT]
 refine cnF (nf + 1) stD hr.okV T2 fun t' mG stG nG oG T3 => ?_
 have hn : mD.n ≤ mG.n := by omega
 have hrG : Rd mG r 2 qq (yM (RF.map (dp (kD EV 65).1)) EV.length true EV.length 0 []) := hr.congr hn fun X hX => oG X (by
  have := hlow X hX (m3.n, qc N g qt qt) (by simp [yh, cnσ])
  simp only at this
  omega)
 have nd := stG.nd
 have e1 : m.n ≠ m3.n ∧ m2.n ≠ m3.n ∧ (m.n + 1) ≠ m3.n := by
  have a := (st3.get 0 rfl).1
  have b := (st3.get 0 rfl).2.1
  have c := (st3.get 1 rfl).2.1
  omega
 simp
 refine cnG (nf + 1) h.co h.svs wf.con (by omega) (fun l hl => ?_) hcl.1 (mG := mG) (r := r) (g0 := g) (B1 := m.n) (B2 := m.n + 1) (NB := m2.n) (B6 := m3.n) stG.ext ⟨(stG.arr (m.n, qc N ev rf co) (by simp)).2.2, (stG.arr (m.n, qc N ev rf co) (by simp)).2.1, e1.1⟩ ⟨(stG.arr (m2.n, nums (kD EV 65).1) (by simp)).2.2, (stG.arr (m2.n, nums (kD EV 65).1) (by simp)).2.1, e1.2.1⟩
  ⟨stG.sub (fun p hp => by simp at hp; rw [hp]; simp) (by simp), ⟨qad _, fun _ _ _ => rfl, rfl, rfl⟩, fun p hp => by simp at hp; rw [hp]; exact .inl rfl, stG.ext.n, stG.sees.base, .nil, fun B hB => by cases hB⟩ (stG.arr (m3.n, qc N g r qt) (by simp)).2.1 (stG.arr (m3.n, qc N g r qt) (by simp)).1 ?_ ?_ fun t' mE rows gco hrows GE T4 => ?_
 ·obtain ⟨c, hc, rfl⟩ := List.getElem_of_mem hl
  obtain ⟨p1, p2, p3, p4⟩ := wf.coh c _ (qaa hc)
  refine ⟨fun e => by rw [e] at p1; simp at p1, by rw [p4]; exact qam (KH _ _ _) hn2, fun w hw => ?_⟩
  obtain ⟨e, he, _⟩ := p3 w hw
  exact (qac.1 he).1
 ·exact ⟨by simp [T3.t1], by simp [T3.t2], by simp [T3.t4], by simp [T3.t5], by simp [T3.t6]⟩
 ·simp
 have h6 : loads mE ⟨m3.n, 0, none⟩ 8 = some (qc N g r gco) := (GE.st.get 0 rfl).2.2.loads (n := 8) (by simp [qc])
 have hB2 := stG.arr (m.n + 1, wD) (by simp)
 have a2 : Arr mE (m.n + 1) wD := hB2.2.2.congr (GE.rest.obj _ hB2.2.1 (by simp [e1.2.2]))
 have stE : St m mE [(m.n + 1, wD)] := ⟨GE.st.ext, hm, fun p hp => by simp at hp; rw [hp]; exact ⟨by simp, qaf hB2.2.1 GE.rest.n, a2⟩, by simp⟩
 have hgE := (GE.gr.rd WA)
 have hg0 : Rd mG g 5 qp (kD EV 65).2 := hxs mG (stG.sub (fun p hp => by simp [hp]) (by
  have := stG.nd
  simp only [List.map_cons, List.map_append, List.nodup_cons, List.nodup_append] at this
  exact this.2.2.2.1))
 obtain ⟨mF, v1, v2, v3, v4⟩ := stE.fill 0 rfl (n := 8) (l' := qc N g r gco) rfl rfl (xg hg0.okV hr.okV hgE.okV)
 have z2 := T4.t2
 have z6 := T4.t6
 simp [z2, z6, h6, ql, v1]
 have nd := stG.nd
 simp only [List.map_cons, List.map_append, List.nodup_cons, List.nodup_append, qax, List.mem_cons, List.map_nil, List.not_mem_nil, or_false, not_or] at nd
 have hxne : ∀ p ∈ xs, p.1 ≠ m3.n ∧ p.1 ≠ m.n + 1 := fun p hp => by
  have hm1 : p.1 ∈ xs.map (·.1) := List.mem_map_of_mem (f := (·.1)) hp
  exact ⟨fun e => nd.2.2.2.2 m3.n (.inl rfl) p.1 hm1 e.symm, fun e => nd.2.2.2.2 (m.n + 1) (.inr (.inr (.inl rfl))) p.1 hm1 e.symm⟩
 have toF : ∀ X, X < mG.n → X ≠ m3.n → X ≠ m.n + 1 → mF.obj X = mG.obj X := fun X h1 h2 h3 => (v4 X h3).trans (GE.rest.obj X h1 (by simp [h2]))
 have nF : mG.n ≤ mF.n := by have := GE.rest.n; omega
 have hgF : Rd mF g 5 qp (kD EV 65).2 := hxs mF (by
  have stx : St m mG xs := stG.sub (fun p hp => by simp [hp]) nd.2.2.2.1
  exact stx.keepC v2.ext nF fun p hp => toF p.1 (stx.arr p hp).2.1 (hxne p hp).1 (hxne p hp).2)
 have hrF : Rd mF r 2 qq (yM (RF.map (dp (kD EV 65).1)) EV.length true EV.length 0 []) := hrG.congr nF fun X hX => by
  have l1 := hlow X hX (m3.n, qc N g qt qt) (by simp [yh, cnσ])
  have l2 := hlow X hX (m.n + 1, wD) (by simp [yh, cnσ])
  simp only at l1 l2
  exact toF X (hrG.lt X hX) (by omega) (by omega)
 have hB2lt := hB2.2.1
 have hcF : Rd mF gco 1 plR rows := hgE.congr (by omega) fun X hX => v4 X (by have := (GE.sep X hX).1; omega)
 have hlr : rows.length = CO.length := by have := congrArg List.length hrows; simpa using this
 refine jU (l := [.agg ⟨qc N g r gco⟩, .bool true]) ?_ v2.ext ⟨g, r, gco, rfl, hgF, hrF, fun j => ((rows[j]?).map plV).getD qt, ?_, fun c l hc => ?_⟩
 ·have hl8 : loads mF ⟨m.n + 1, 0, none⟩ 8 = some (qc N g r gco) := (v2.get 0 rfl).2.2.loads (n := 8) (by simp [qc])
  simp [vG, jT, z2, hl8]
 ·have e : rows.map plV = (List.range (dL EV RF CO).CO.length).map fun j => ((rows[j]?).map plV).getD qt := by
   refine List.ext_getElem? fun j => ?_
   unfold dL
   by_cases hj : j < rows.length
   ·rw [qaq, qaq, List.getElem?_range (by simp; omega), qaa hj, Option.map_some, Option.map_some, qaa hj]
    rfl
   ·rw [qav (by simp; omega), qav (by simp; omega)]
  rw [← e]
  exact Rd.mapV hcF
 ·have hc' : (rows.map (·.2))[c]? = some l := by rw [hrows]; exact hc
  rw [qaq] at hc'
  cases hp : rows[c]? with
  | none => rw [hp] at hc'; cases hc'
  | some p =>
   rw [hp] at hc'; cases hc'
   obtain ⟨b1, b2, b3⟩ := GE.st.arr (plB p) (qal _ (List.mem_map_of_mem (qab hp)))
   have hne2 : (plB p).1 ≠ m.n + 1 := by
    rcases GE.low (plB p) (qal _ (List.mem_map_of_mem (qab hp))) with h | h | h
    ·have := e1.2.2; omega
    ·have := e1.2.2; omega
    ·omega
   show Rd mF (((rows[c]?).map plV).getD qt) 1 wa p.2
   rw [hp]
   exact jd (f := wa) (fun _ => rfl) (b3.congr (v4 _ hne2)) (by show (plB p).1 < _; omega)
end
end Go.Sx
namespace Go.Dx
@[simp] theorem DQ (m : M) (a b c d e f g h i j k : Value) : kQ 11 1 (rep 1 [.int .i64 0, .int .i64 0, .int .i64 0, .int .i64 0, .slice none 0 0, .slice none 0 0, .slice none 0 0, .int .i64 0, .int .i64 0, .int .i64 0, .int .i64 0]) [(0, 11, .agg ⟨[a, b, c, d, e, f, g, h, i, j, k]⟩)] m =
  some (.slice (some ⟨m.n, 0, some 23⟩) 1 1, newRow m [a, b, c, d, e, f, g, h, i, j, k]) := _root_.id rfl
@[simp] theorem DF (m : M) (a b c d : Value) : kQ 4 1 (rep 1 [.int .i64 0, .int .u64 0, .int .i64 0, .int .i64 0]) [(0, 4, .agg ⟨[a, b, c, d]⟩)] m = some (.slice (some ⟨m.n, 0, some 9⟩) 1 1, newRow m [a, b, c, d]) := _root_.id rfl
@[simp] theorem DU (o v : Int) : ko [.int .i64 0, .int .u64 0, .int .i64 0, .int .i64 0] [(0, 1, .int .i64 o), (1, 1, .int .u64 v)] = some (.agg ⟨[.int .i64 o, .int .u64 v, .int .i64 0, .int .i64 0]⟩) := _root_.id rfl
@[simp] theorem DG (o f : Int) : ko [.int .i64 0, .int .i64 0, .int .i64 0, .int .i64 0, .slice none 0 0, .slice none 0 0, .slice none 0 0, .int .i64 0, .int .i64 0, .int .i64 0, .int .i64 0] [(0, 1, .int .i64 o), (7, 1, .int .i64 f)] =
  some (.agg ⟨[.int .i64 o, .int .i64 0, .int .i64 0, .int .i64 0, .slice none 0 0, .slice none 0 0, .slice none 0 0, .int .i64 f, .int .i64 0, .int .i64 0, .int .i64 0]⟩) := _root_.id rfl
@[simp] theorem DK (o c f : Int) (a : Option Addr) (x y : Nat) : ko [.int .i64 0, .int .i64 0, .int .i64 0, .int .i64 0, .slice none 0 0, .slice none 0 0, .slice none 0 0, .int .i64 0, .int .i64 0, .int .i64 0, .int .i64 0] [(0, 1, .int .i64 o), (2, 1, .int .i64 c), (7, 1, .int .i64 f), (5, 1, .slice a x y)] =
  some (.agg ⟨[.int .i64 o, .int .i64 0, .int .i64 c, .int .i64 0, .slice none 0 0, .slice a x y, .slice none 0 0, .int .i64 f, .int .i64 0, .int .i64 0, .int .i64 0]⟩) := _root_.id rfl
@[simp] theorem DT (o d c f : Int) : ko [.int .i64 0, .int .i64 0, .int .i64 0, .int .i64 0, .slice none 0 0, .slice none 0 0, .slice none 0 0, .int .i64 0, .int .i64 0, .int .i64 0, .int .i64 0] [(0, 1, .int .i64 o), (1, 1, .int .i64 d), (2, 1, .int .i64 c), (7, 1, .int .i64 f)] =
  some (.agg ⟨[.int .i64 o, .int .i64 d, .int .i64 c, .int .i64 0, .slice none 0 0, .slice none 0 0, .slice none 0 0, .int .i64 f, .int .i64 0, .int .i64 0, .int .i64 0]⟩) := _root_.id rfl
end Go.Dx
namespace Go.Sx
open Go.Dx Go.Proofs
abbrev AB := Int × Int × Int × Int × Option (Int × Nat)
def AR.era (r : AR) : AB := (r.op, r.dst, r.base, r.mode, r.e.map (·.2))
section
variable {m1 m : M} {u : WB} {N nt : Nat} {fv : Value} {loc : Nat → Nat} {va vo : Nat → Value} {A : Nat → List AR} {O : Nat → List Nat} {tag : Nat → Nat}
theorem WI.lt8 (h : WI m1 m u N nt fv loc va vo A O tag) : load1 m ⟨u.P8, 1, none⟩ = some (.slice (some ⟨u.TB, 0, some 5⟩) nt nt) := by rw [(h.st.get 4 rfl).2.2.load1]; rfl
theorem WI.lt9 (h : WI m1 m u N nt fv loc va vo A O tag) : load1 m ⟨u.P9, 1, none⟩ = some (.slice (some ⟨u.OB, 0, some 3⟩) nt nt) := by rw [(h.st.get 3 rfl).2.2.load1]; rfl
theorem WI.lq (h : WI m1 m u N nt fv loc va vo A O tag) : load1 m ⟨u.q5, 0, none⟩ = some (.pointer (some ⟨u.PB, 0, none⟩)) := by rw [(h.st.get 5 rfl).2.2.load1]; rfl
theorem WI.lloc (h : WI m1 m u N nt fv loc va vo A O tag) {j : Nat} (hj : j < nt) : load1 m ⟨u.TB, j * 2, none⟩ = some (iv (loc j)) := by
 rw [(h.st.get 1 rfl).2.2.load1]
 have := vt (e := 2) (f := xZ loc va) (o := 0) (fun _ => rfl) hj (by omega)
 rwa [Nat.add_zero] at this
theorem WI.lva (h : WI m1 m u N nt fv loc va vo A O tag) {j : Nat} (hj : j < nt) : load1 m ⟨u.TB, j * 2 + 1, none⟩ = some (va j) := by
 rw [(h.st.get 1 rfl).2.2.load1]
 exact vt (e := 2) (f := xZ loc va) (o := 1) (fun _ => rfl) hj (by omega)
theorem WI.lvo (h : WI m1 m u N nt fv loc va vo A O tag) {j : Nat} (hj : j < nt) : load1 m ⟨u.OB, j, none⟩ = some (vo j) := by
 rw [(h.st.get 2 rfl).2.2.load1]
 have := vt (e := 1) (f := dq vo) (o := 0) (fun _ => rfl) hj (by omega)
 rwa [Nat.add_zero, Nat.mul_one] at this
theorem DB (n : Nat) {PB A5 A6 A7 c1 : Nat} {ed ec md : Value} {es : List (Int × Int)} {ms : List Int} {TH CE VA : Nat → Nat} (hb1 : m1.base ≤ m1.n) (hLF : LF m1 PB A5 A6 A7 c1 ed ec md es ms TH CE VA) (hok : ∀ (i : Nat) e, es[i]? = some e → kV e = false) (hPB : u.PB = PB)
  {i j : Nat} (hi : i < es.length) (hml : ms.length = es.length) (hj : TH i = j) (hjn : j < nt) (h : WI m1 m u N nt fv loc va vo A O tag) (hA : (A j).length ≤ 1000) (hO : (O j).length ≤ 1000) (hloc : loc j ≤ 1000) {t : Tm} (t1 : Tm.get 1 t = .pointer (some ⟨c1, 0, none⟩)) (t5 : Tm.get 5 t = .pointer (some ⟨u.q5, 0, none⟩)) (t9 : Tm.get 9 t = .pointer (some ⟨u.P9, 0, none⟩))
  (t10 : Tm.get 10 t = iv i) (t11 : Tm.get 11 t = .pointer (some ⟨u.TB, j * 2, none⟩)) {L : Nat} (hL : tag L = 0) (hLm : L < m.n) (hLT : L ≠ u.TB) (hLO : L ≠ u.OB) (P : Option E → M → Prop)
  (hP : ∀ m2 va' vo' tag' r, WI m1 m2 u N nt fv (if qy es i then loc else upN loc j (loc j + 1)) va' vo' (upN A j (A j ++ [r])) (if qy es i then O else upN O j (O j ++ [VA i])) tag' → m.n ≤ m2.n → m2.obj L = m.obj L → tag' L = 0 →
   r.era = (if qy es i then ((3, 0, (CE i : Int), mAt ms i, some (1, VA i)) : AB) else ((2, (loc j : Int), (CE i : Int), mAt ms i, none) : AB)) → P none m2) :
  Rnd P (QR (ex Try.prog (n + 2)) (wR none) (zu 1 (wR none) zf) (wR (some E.ret)) t m) := by
 obtain ⟨e, he⟩ : ∃ e, es[i]? = some e := ⟨_, qaa hi⟩
 obtain ⟨md', hmd'⟩ : ∃ e, ms[i]? = some e := ⟨_, qaa (by omega)⟩
 have hmi : mAt ms i = md' := Jb hmd'
 have hfe : qy es i = wZ e.1 := by unfold qy; rw [kE he]
 have hbk := ku (hok i e he)
 have hS := h.st.sees
 have lf := hLF.sees hS
 have lq := h.lq
 rw [hPB] at lq
 obtain ⟨v3, m3, g1, g2, rfl⟩ := yF n PB ed es e i he hbk.1 hbk.2 m hS.base lf.p0 lf.hed
 have h3 := h.step g2
 have lf3 := lf.sees (hS.self.ext g2)
 have lq3 := h3.lq
 rw [hPB] at lq3
 have ⟨u1, u2⟩ := Rd.at1 (g := fun (x : Int) => iv x) lf3.hmd hmd'
 have u2' := u2 m3 (hS.self.ext g2).self
 have x6 := zX (e := 1) (c := 3) A6 es.length i hi
 have x7 := zX (e := 1) (c := 3) A7 es.length i hi
 have x5 := zX (e := 1) (c := 3) A5 es.length i hi
 rw [Nat.mul_one] at x5 x6 x7
 have y6 := lf3.a6 i hi
 have y7 := lf3.a7 i hi
 obtain ⟨V, hV⟩ := qay (VA i)
 obtain ⟨C, hC⟩ := qay (CE i)
 have hVs : V < 1000000 := by rw [hV]; exact lf.small i
 have cvv := vQ V hVs
 rw [← hV] at y7 hP
 rw [← hC] at y6 hP
 simp [t5, t10, lq, g1, zO]
 cases hf : wZ e.1 with
 | true =>
  rw [hfe, hf, hmi] at hP
  obtain ⟨M1, hM1⟩ := qay (Dx.newRow m3 [iv 1, .int .u64 V, iv 0, iv 0])
  have n1 : M1.n = m3.n + 1 := by rw [hM1, qn]
  obtain ⟨M2, hM2⟩ := qay (Dx.newRow M1 [iv 3, iv 0, iv C, iv 0, .slice none 0 0, .slice (some ⟨m3.n, 0, some 9⟩) 1 1, .slice none 0 0, iv md', iv 0, iv 0, iv 0])
  have E1 : Ext m3 M1 := by rw [hM1]; exact Ext.row _ _
  have E2 : Ext M1 M2 := by rw [hM2]; exact Ext.row _ _
  have hA1 : Arr M2 m3.n (zi 1 V) := by
   have : Arr M1 m3.n (zi 1 V) := by rw [hM1]; exact Arr.row m3 _
   exact this.ext E2 (by omega)
  obtain ⟨v', m4, m5, p1, p2, tag', p3, p4, p5⟩ := h3.actAny hb1 hjn ⟨3, 0, C, md', some (m3.n, 1, V)⟩ (E1.trans E2) (fun B op v hB => by cases hB; exact ⟨qad _, by have := E2.n; omega, hA1⟩) (X := M1.n) (sp := some 23) (by rw [hM2]; exact (Arr.row M1 _).loads (by simp)) hA
  have lva := h3.lva hjn
  simp [t1, t5, t10, t11, lva, lq3, lf3.p6, lf3.p7, x6, x7, y6, y7, lf3.c1m, u1, u2', cvv, ← hM1, n1]
  rw [n1] at p1
  simp [← hM2, p1, p2]
  refine wW (hP _ _ _ tag' _ p3 (by have := g2.n; have := E1.n; have := E2.n; omega) ?_ (p5 L (by have := g2.n; omega) hL).1 rfl)
  rw [(p5 L (by have := g2.n; omega) hL).2 hLT, g2.obj L hLm]
 | false =>
  rw [hfe, hf, hmi] at hP
  have ll := h3.lloc hjn
  obtain ⟨K, hK⟩ := qay (loc j)
  rw [← hK] at ll hP
  obtain ⟨M2, hM2⟩ := qay (Dx.newRow m3 [iv 2, iv K, iv C, iv 0, .slice none 0 0, .slice none 0 0, .slice none 0 0, iv md', iv 0, iv 0, iv 0])
  have E2 : Ext m3 M2 := by rw [hM2]; exact Ext.row _ _
  obtain ⟨v', m4, m5, p1, p2, tag', p3, p4, p5⟩ := h3.actAny hb1 hjn ⟨2, K, C, md', none⟩ E2 (fun B op v hB => by cases hB) (X := m3.n) (sp := some 23) (by rw [hM2]; exact (Arr.row m3 _).loads (by simp)) hA
  have lva := h3.lva hjn
  simp [t1, t5, t9, t10, t11, lva, ll, lq3, lf3.p6, lf3.p7, x6, x7, y6, y7, lf3.c1m, u1, u2', ← hM2, p1, p2]
  have ll5 := p3.lloc hjn
  rw [fq, ← hK] at ll5
  obtain ⟨M3, hM3⟩ := qay (behind (behind M2 m4) m5)
  rw [← hM3] at p3 p4 p5 ⊢
  have ll4 := p3.lloc hjn
  rw [← hK] at ll4
  have wK := qS (i := K) (by omega)
  obtain ⟨K', hK'⟩ := qay (K + 1)
  rw [← hK'] at wK hP
  obtain ⟨M4, q1, q2, q3, q4⟩ := p3.local hjn K'
  simp [t11, ll5, wK, q1]
  have lf4 := hLF.sees q2.st.sees
  have lq4 := q2.lq
  rw [hPB] at lq4
  have l9 := q2.lt9
  have lo := q2.lvo hjn
  have z5 := lf4.a5 i hi
  have z7 := lf4.a7 i hi
  rw [hj] at z5
  rw [← hV] at z7
  have xo := zX (e := 1) (c := 3) u.OB nt j hjn
  rw [Nat.mul_one] at xo
  obtain ⟨M5, hM5⟩ := qay (Dx.newRow M4 [.int .u64 V])
  have E5 : Ext M4 M5 := by rw [hM5]; exact Ext.row _ _
  obtain ⟨v2, m6, m7, r1, r2, r3, tag2, r4, r5, r6⟩ := q2.out hb1 hjn V E5 (X := M4.n) (sp := some 3) (by rw [hM5]; exact (Arr.row M4 _).loads (by simp)) hO
  have t9t : tag' u.P9 = 0 := q2.t0 (u.P9, [fv, .slice (some ⟨u.OB, 0, some 3⟩) nt nt]) (by unfold WB.σ; simp)
  have t5t : tag' u.q5 = 0 := q2.t0 (u.q5, [.pointer (some ⟨u.PB, 0, none⟩)]) (by unfold WB.σ; simp)
  have hmt : ∀ B, blk (vo j) = some B → ¬ u.P9 = B ∧ ¬ u.q5 = B ∧ ¬ PB = B ∧ ¬ A5 = B := fun B hB => by
   have t := (q2.go j hjn).2 B hB
   have lw := (grown_low (q2.go j hjn).1 B hB).1
   have := hLF.lP; have := hLF.l5
   exact ⟨by rintro rfl; omega, by rintro rfl; omega, by rintro rfl; omega, by rintro rfl; omega⟩
  have fin : Rnd P (wR none t (behind (behind M5 m6) m7)) → True := fun _ => trivial
  have done : P none (behind (behind M5 m6) m7) := by
   have hLm3 : L < M3.n := by have := g2.n; have := E2.n; omega
   refine hP _ _ _ tag2 _ r4 (by have := g2.n; have := E2.n; have := E5.n; omega) ?_ (r6 L (by omega) ((p5 L (by have := g2.n; omega) hL).1)).1 rfl
   rw [(r6 L (by omega) ((p5 L (by have := g2.n; omega) hL).1)).2 hLO, q4 L hLT, (p5 L (by have := g2.n; omega) hL).2 hLT, g2.obj L hLm]
  rcases r2 with r2 | ⟨B, hB, r2⟩
  ·simp [t1, t5, t9, t10, t11, l9, lq4, lf4.p5, lf4.p7, x5, x7, z5, z7, xo, lo, cvv, ← hM5, r1, r2, r3]
   exact wW done
  ·obtain ⟨d1, d2, d3, d4⟩ := hmt B hB
   simp [t1, t5, t9, t10, t11, l9, lq4, lf4.p5, lf4.p7, x5, x7, z5, z7, xo, lo, cvv, ← hM5, r1, r2, r3, d1, d2, d3, d4]
   exact wW done
end
end Go.Sx
namespace Go.Sx
open Go.Dx Go.Proofs
set_option maxRecDepth 10000
section
variable {m m' : M} {N : Nat} {g rf co : Value} {B10 : Nat} {τ : List (Nat × List Value)} {rows : List EvR}
theorem Fu (G : GS m m m' 0 0 ((B10, qc N g rf co) :: τ) g 5 qp rows) (hl : rows.length ≤ 1000000) (e : EvR) :
  ∃ v' m2 m3, qZ (Dx.newRow m' [iv e.th, iv e.kind, iv e.loc, .int .u64 e.val, iv e.mode]) 5 40 g (.slice (some ⟨m'.n, 0, some 11⟩) 1 1) = some (v', m2) ∧ qO 1 (.pointer (some ⟨B10, 1, none⟩)) v' m2 = some (undef, m3) ∧ GS m m m3 0 0 ((B10, qc N v' rf co) :: τ) v' 5 qp (rows ++ [e]) := by
 obtain ⟨v', m2, f1, G2, n2, o2, b2⟩ := G.app (by omega) wM kS (x := e) (M1 := Dx.newRow m' (qp e)) (Ext.row _ _) (X := m'.n) (sp := some 11) ((Arr.row m' (qp e)).loads (o := 0) (n := 5) (by simp [qp])) (bytes := 40) (by unfold most; omega) (by omega)
 have hv' := (G2.gr.rd wM).okV
 obtain ⟨m3, g1, G3, n3, o3⟩ := G2.store 0 (b := B10) (o := 1) (l := qc N g rf co) (v := v') rfl (by simp [qc]) hv'
 exact ⟨v', m2, m3, f1, g1, G3⟩
theorem JX (G : GS m m m' 0 0 ((B10, qc N g rf co) :: τ) g 5 qp rows) (hl : rows.length ≤ 1000000) (e : EvR) :
  ∃ v' m2 m3, qZ (qh (Dx.newRow m' [iv e.th, iv e.kind, iv e.loc, .int .u64 e.val, iv e.mode])) 5 40 g (.slice (some ⟨m'.n, 0, some 11⟩) 1 1) = some (v', m2) ∧ qO 1 (.pointer (some ⟨B10, 1, none⟩)) v' (qh (behind (Dx.newRow m' [iv e.th, iv e.kind, iv e.loc, .int .u64 e.val, iv e.mode]) m2)) = some (undef, m3) ∧
   GS m m (behind (behind (Dx.newRow m' [iv e.th, iv e.kind, iv e.loc, .int .u64 e.val, iv e.mode]) m2) m3) 0 0 ((B10, qc N v' rf co) :: τ) v' 5 qp (rows ++ [e]) := by
 obtain ⟨v', m2, f1, f2, G2, n2, o2, b2⟩ := G.appAny (by omega) wM kS (x := e) (M1 := Dx.newRow m' (qp e)) (Ext.row _ _) (X := m'.n) (sp := some 11) ((Arr.row m' (qp e)).loads (o := 0) (n := 5) (by simp [qp])) (bytes := 40) (by unfold most; omega) (by omega)
 have hv' := (G2.gr.rd wM).okV
 obtain ⟨m3, g1, g2, G3, n3, o3⟩ := G2.storeAny 0 (b := B10) (o := 1) (l := qc N g rf co) (v := v') rfl (by simp [qc]) hv'
 exact ⟨v', m2, m3, f1, g1, G3⟩
end
def aEv (j : Nat) (O : List Nat) (s : Nat × List EvR) (a : AB) : Nat × List EvR :=
 if a.1 = 7 then (s.1, s.2 ++ [⟨j, 3, -1, 0, a.2.2.2.1⟩])
 else if a.1 = 3 then (s.1, s.2 ++ [⟨j, 2, a.2.2.1, match a.2.2.2.2 with | some p => p.2 | none => 0, a.2.2.2.1⟩])
 else if a.1 = 2 then (s.1 + 1, s.2 ++ [⟨j, 1, a.2.2.1, O.getD s.1 0, a.2.2.2.1⟩])
 else s
def WZ (j : Nat) (O : List Nat) (l : List AB) (ev : List EvR) : Nat × List EvR := l.foldl (aEv j O) (0, ev)
def vL (A : Nat → List AB) (O : Nat → List Nat) (N nt : Nat) : List EvR := (List.range nt).foldl (fun ev j => (WZ j (O j) (A j) ev).2) ((List.range N).map ev0)
theorem BE (j : Nat) (O : List Nat) (s : Nat × List EvR) (a : AB) : (aEv j O s a).2.length ≤ s.2.length + 1 ∧ (aEv j O s a).1 ≤ s.1 + 1 := by
 unfold aEv
 split
 ·simp
 ·split
  ·simp
  ·split <;> simp
theorem bF (j : Nat) (O : List Nat) : ∀ (l : List AB) (s : Nat × List EvR), (l.foldl (aEv j O) s).2.length ≤ s.2.length + l.length ∧ (l.foldl (aEv j O) s).1 ≤ s.1 + l.length
 | [], s => by simp
 | a :: l, s => by
  rw [List.foldl_cons]
  have h1 := BE j O s a
  have h2 := bF j O l (aEv j O s a)
  simp only [List.length_cons]
  omega
theorem Zf (A : Nat → List AB) (O : Nat → List Nat) (N : Nat) (K : Nat) : ∀ nt, (∀ j, j < nt → (A j).length ≤ K) → (vL A O N nt).length ≤ N + nt * K
 | 0, _ => by simp [vL]
 | nt + 1, h => by
  have ih := Zf A O N K nt fun j hj => h j (by omega)
  unfold vL at ih ⊢
  rw [qL]
  have h2 := (bF nt (O nt) (A nt) (0, (List.range nt).foldl (fun ev j => (WZ j (O j) (A j) ev).2) ((List.range N).map ev0))).1
  have h3 := h nt (by omega)
  unfold WZ at *
  rw [Nat.succ_mul]
  simp only at h2
  omega
section
variable {m m' : M} {N nt : Nat} {tsl osl fsl : Value} {loc : Nat → Nat} {va vo : Nat → Value} {A : Nat → List AR} {O : Nat → List Nat}
structure PO (m : M) (nt : Nat) (tsl osl fsl : Value) (loc : Nat → Nat) (va vo : Nat → Value) (A : Nat → List AR) (O : Nat → List Nat) : Prop where
 ts : Rd m tsl 2 (fun p : Int × Value => [iv p.1, p.2]) ((List.range nt).map fun (j : Nat) => (((loc j : Nat) : Int), (va j : Value)))
 os : Rd m osl 1 (fun v : Value => [v]) ((List.range nt).map vo)
 fs : okC fsl = true
 ac : ∀ j, j < nt → Rd m (va j) 11 zj (A j)
 ou : ∀ j, j < nt → Rd m (vo j) 1 kA (O j)
 nd : ∀ j, j < nt → ∀ r, r ∈ A j → (∀ X op v, r.e = some (X, op, v) → X < m.n ∧ Arr m X (zi op v)) ∧ (r.op = 3 → ∃ X op v, r.e = some (X, op, v))
 ld : ∀ j, j < nt → ∀ k r, (A j)[k]? = some r → r.op = 2 → (((A j).take k).map AR.era |>.foldl (aEv j (O j)) (0, [])).1 < (O j).length
 al : ∀ j, j < nt → (A j).length ≤ 1000
 nl : nt ≤ 100
structure FlT (t : Tm) (B4 B5 B8 B10 : Nat) (pick co : Nat) : Prop where
 t2 : Tm.get 2 t = iv pick
 t3 : Tm.get 3 t = iv co
 t4 : Tm.get 4 t = .pointer (some ⟨B4, 0, none⟩)
 t5 : Tm.get 5 t = .pointer (some ⟨B5, 0, none⟩)
 t8 : Tm.get 8 t = .pointer (some ⟨B8, 0, none⟩)
 t10 : Tm.get 10 t = .pointer (some ⟨B10, 0, none⟩)
def flτ (B4 B5 B8 N : Nat) (tsl osl fsl : Value) (xs : List (Nat × List Value)) : List (Nat × List Value) := (B8, wD) :: (B5, [fsl, osl]) :: (B4, [iv N, tsl]) :: xs
theorem flA (n : Nat) (hN : N ≤ 256) {B4 B5 B8 B10 pick co : Nat} {t : Tm} (hG : GS m m m' 0 0 ((B10, qc N qt qt qt) :: flτ B4 B5 B8 N tsl osl fsl []) qt 5 qp ([] : List EvR)) (hT : FlT t B4 B5 B8 B10 pick co) (t11 : Tm.get 11 t = iv 0) {kn : K} {ke : Nat → K} {kr : K} {Q : Option Out → Prop}
  (H : ∀ t' m2 g, GS m m m2 0 0 ((B10, qc N g qt qt) :: flτ B4 B5 B8 N tsl osl fsl []) g 5 qp ((List.range N).map ev0) → FlT t' B4 B5 B8 B10 pick co → Q (ke 0 t' m2)) : Q (YE (ex Try.prog n) kn ke kr t m') := by
 refine qu (c := YE) rfl Q (fun i t m' => ∃ g, GS m m m' 0 0 ((B10, qc N g qt qt) :: flτ B4 B5 B8 N tsl osl fsl []) g 5 qp ((List.range i).map ev0) ∧ FlT t B4 B5 B8 B10 pick co ∧ Tm.get 11 t = iv i) N (by omega)
  ⟨qt, by simpa using hG, hT, by simpa using t11⟩ (fun i t m' k hi hI hk => ?_)
 obtain ⟨g, G, T, h11⟩ := hI
 have q2 := T.t2
 have q3 := T.t3
 have q4 := T.t4
 have q5 := T.t5
 have q8 := T.t8
 have q10 := T.t10
 have l4 : load1 m' ⟨B4, 0, none⟩ = some (iv N) := (G.st.get 3 rfl).2.2.load1 0 none
 by_cases hil : i < N
 ·have hd := dlt hil
  have w1 := qS (i := i) (by omega)
  have l10 : load1 m' ⟨B10, 1, none⟩ = some g := (G.st.get 0 rfl).2.2.load1 1 none
  obtain ⟨v', m2, m3, f1, g1, G3⟩ := Fu G (by simp; omega) (ev0 i)
  have f1' : qZ (Dx.newRow m' [iv (-1), iv 2, iv i, .int .u64 0, iv 1]) 5 40 g (.slice (some ⟨m'.n, 0, some 11⟩) 1 1) = some (v', m2) := f1
  simp [q4, h11, l4, hd, q10, l10, f1', g1, w1]
  refine hk hil _ _ ⟨v', ?_, ⟨by simp [q2], by simp [q3], by simp [q4], by simp [q5], by simp [q8], by simp [q10]⟩, by simp⟩
  rw [List.range_succ, List.map_append]; exact G3
 obtain rfl : i = N := by omega
 simp [q4, h11, l4]
 exact H _ _ g G ⟨by simp [q2], by simp [q3], by simp [q4], by simp [q5], by simp [q8], by simp [q10]⟩
end
end Go.Sx
namespace Go.Sx
open Go.Dx Go.Proofs
set_option maxRecDepth 10000
theorem BF (j : Nat) (O : List Nat) (l : List AB) (k : Nat) (a : AB) (h : l[k]? = some a) (s : Nat × List EvR) : (l.take (k + 1)).foldl (aEv j O) s = aEv j O ((l.take k).foldl (aEv j O) s) a := by
 rw [take_at h, List.foldl_append]; rfl
theorem Ka (j : Nat) (O : List Nat) : ∀ (l : List AB) (n : Nat) (ev ev' : List EvR), (l.foldl (aEv j O) (n, ev)).1 = (l.foldl (aEv j O) (n, ev')).1
 | [], _, _, _ => rfl
 | a :: l, n, ev, ev' => by
  rw [List.foldl_cons, List.foldl_cons]
  have : ∀ ev : List EvR, aEv j O (n, ev) a = ((aEv j O (n, []) a).1, (aEv j O (n, ev) a).2) := fun ev => by
   unfold aEv
   split
   ·rfl
   ·split
    ·rfl
    ·split <;> rfl
  rw [this ev, this ev']
  exact Ka j O l _ _ _
def zAct : List Value := [.int .i64 0, .int .i64 0, .int .i64 0, .int .i64 0, .slice none 0 0, .slice none 0 0, .slice none 0 0, .int .i64 0, .int .i64 0, .int .i64 0, .int .i64 0]
section
variable {m m' : M} {N nt : Nat} {tsl osl fsl : Value} {loc : Nat → Nat} {va vo : Nat → Value} {A : Nat → List AR} {O : Nat → List Nat}
set_option maxHeartbeats 1000000 in
theorem flB1 (n : Nat) (hm : m.base ≤ m.n) (hp : PO m nt tsl osl fsl loc va vo A O) {j : Nat} (hj : j < nt) {B4 B5 B8 B10 pick co : Nat} {t : Tm} {g0 : Value} {ev : List EvR} (hel : ev.length ≤ 900000) (hG : GS m m m' 0 0 ((B10, qc N g0 qt qt) :: flτ B4 B5 B8 N tsl osl fsl []) g0 5 qp ev) (hT : FlT t B4 B5 B8 B10 pick co) (t12 : Tm.get 12 t = iv j) (t13 : Tm.get 13 t = iv 0) (t14 : Tm.get 14 t = iv 0) {kn : K} {ke : Nat → K} {kr : K} {Q : Option Out → Prop}
  (H : ∀ t' m2 g, GS m m m2 0 0 ((B10, qc N g qt qt) :: flτ B4 B5 B8 N tsl osl fsl []) g 5 qp (WZ j (O j) ((A j).map AR.era) ev).2 → FlT t' B4 B5 B8 B10 pick co → Tm.get 12 t' = iv j → Q (ke 4 t' m2)) : Q (ZA (ex Try.prog n) kn ke kr t m') := by
 have hal := hp.al j hj
 have hnl := hp.nl
 refine qu (c := ZA) rfl Q (fun k t m' => ∃ g s, s = ((A j).map AR.era |>.take k).foldl (aEv j (O j)) (0, ev) ∧ GS m m m' 0 0 ((B10, qc N g qt qt) :: flτ B4 B5 B8 N tsl osl fsl []) g 5 qp s.2 ∧ FlT t B4 B5 B8 B10 pick co ∧ Tm.get 12 t = iv j ∧ Tm.get 13 t = iv s.1 ∧ Tm.get 14 t = iv k) (A j).length (by omega)
  ⟨g0, (0, ev), by simp, hG, hT, t12, by simpa using t13, by simpa using t14⟩ (fun k t m' kk hi hI hk => ?_)
 obtain ⟨g, s, hs, G, T, h12, h13, h14⟩ := hI
 have q2 := T.t2
 have q3 := T.t3
 have q4 := T.t4
 have q5 := T.t5
 have q8 := T.t8
 have q10 := T.t10
 have hS := G.st.sees
 have l4 : load1 m' ⟨B4, 1, none⟩ = some tsl := (G.st.get 3 rfl).2.2.load1 1 none
 have hjt : ((List.range nt).map fun (j : Nat) => (((loc j : Nat) : Int), (va j : Value)))[j]? = some (((loc j : Nat) : Int), va j) := by simp [hj]
 have ⟨a1, a2, a3⟩ := (hp.ts.sees hS).at hjt
 have a31 : load1 m' ⟨(adr 2 tsl j).block, (adr 2 tsl j).off + 1, none⟩ = some (va j) := by rw [a3 m' 1 none hS.self (by simp)]; rfl
 have hacl := (hp.ac j hj).len
 by_cases hil : k < (A j).length
 ·have hd := dlt hil
  have w1 := qS (i := k) (by omega)
  obtain ⟨r, hr⟩ : ∃ r, (A j)[k]? = some r := ⟨_, qaa hil⟩
  have hera : ((A j).map AR.era)[k]? = some r.era := by rw [qaq, hr]; rfl
  have hnx := BF j (O j) _ k _ hera (0, ev)
  rw [← hs] at hnx
  have hsl := bF j (O j) ((A j).map AR.era |>.take k) (0, ev)
  rw [← hs] at hsl
  have htl : (((A j).map AR.era).take k).length ≤ 1000 := by simp; omega
  simp only at hsl
  have ⟨b1, b2, b3⟩ := ((hp.ac j hj).sees hS).at hr
  have b2' : loads m' (adr 11 (va j) k) 11 = some (zj r) := b2 m' hS.self
  obtain ⟨m1, s1, s2, s3, s4, s5⟩ := wJ (m := m') hS.base (zs := zAct) (l := zj r) (v := .agg ⟨zj r⟩) (n := 11) rfl rfl rfl (fO r)
  have s1' : qO 11 (.pointer (some ⟨m'.n, 0, none⟩)) (.agg ⟨zj r⟩) (Dx.newRow m' [.int .i64 0, .int .i64 0, .int .i64 0, .int .i64 0, .slice none 0 0, .slice none 0 0, .slice none 0 0, .int .i64 0, .int .i64 0, .int .i64 0, .int .i64 0]) = some (undef, m1) := s1
  have G1 := G.step s4
  have hS1 := G1.st.sees
  have c0 : load1 m1 ⟨m'.n, 0, none⟩ = some (iv r.op) := by rw [s2]; rfl
  have c2 : load1 m1 ⟨m'.n, 2, none⟩ = some (iv r.base) := by rw [s2]; rfl
  have c5 : load1 m1 ⟨m'.n, 5, none⟩ = some (eV r.e) := by rw [s2]; rfl
  have c7 : load1 m1 ⟨m'.n, 7, none⟩ = some (iv r.mode) := by rw [s2]; rfl
  have c10 : load1 m1 ⟨B10, 1, none⟩ = some g := (G1.st.get 0 rfl).2.2.load1 1 none
  obtain ⟨hn1, hn3⟩ := hp.nd j hj r (qab hr)
  have next : ∀ (t' : Tm) (m2 : M) (g' : Value) (s' : Nat × List EvR), s' = aEv j (O j) s r.era → GS m m m2 0 0 ((B10, qc N g' qt qt) :: flτ B4 B5 B8 N tsl osl fsl []) g' 5 qp s'.2 → FlT t' B4 B5 B8 B10 pick co → Tm.get 12 t' = iv j → Tm.get 13 t' = iv s'.1 → Tm.get 14 t' = iv (k + 1 : Nat) → Q (kk t' m2) := fun t' m2 g' s' e1 e2 e3 e4 e5 e6 => hk hil _ _ ⟨g', s', by rw [e1, hnx], e2, e3, e4, e5, e6⟩
  by_cases o7 : r.op = 7
  ·obtain ⟨v', m2, m3, f1, g1, G3⟩ := Fu G1 (by omega) ⟨j, 3, -1, 0, r.mode⟩
   have f1' : qZ (Dx.newRow m1 [iv j, iv 3, iv (-1), .int .u64 0, iv r.mode]) 5 40 g (.slice (some ⟨m1.n, 0, some 11⟩) 1 1) = some (v', m2) := f1
   simp [q4, q10, h12, h14, l4, a1, a31, hacl, hd, b1, ql, b2', s1', c0, o7, c10, c7, f1', g1, w1]
   refine next _ _ v' (s.1, s.2 ++ [⟨j, 3, -1, 0, r.mode⟩]) ?_ G3 ⟨by simp [q2], by simp [q3], by simp [q4], by simp [q5], by simp [q8], by simp [q10]⟩ (by simp [h12]) (by simp [h13]) (by simp)
   simp [aEv, AR.era, o7]
  ·by_cases o3 : r.op = 3
   ·obtain ⟨X, op', v, hX⟩ := hn3 o3
    obtain ⟨x1, x2⟩ := hn1 X op' v hX
    have hXb : eV r.e = .slice (some ⟨X, 0, some 9⟩) 1 1 := by rw [hX]; rfl
    have hix : kN 4 (.slice (some ⟨X, 0, some 9⟩) 1 1) (.int .i64 0) = some (.pointer (some ⟨X, 0, none⟩)) := rfl
    have hXl : load1 m1 ⟨X, 1, none⟩ = some (.int .u64 v) := by rw [qv hS1 x1, x2.load1]; rfl
    obtain ⟨v', m2, m3, f1, g1, G3⟩ := JX G1 (by omega) ⟨j, 2, r.base, v, r.mode⟩
    simp only at f1 g1 G3
    simp [q4, q10, h12, h14, l4, a1, a31, hacl, hd, b1, ql, b2', s1', c0, o3, c10, c2, c5, c7, hXb, hix, hXl, f1, g1, w1, meets, FP.meet, FP.clear]
    refine next _ _ v' (s.1, s.2 ++ [⟨j, 2, r.base, v, r.mode⟩]) ?_ G3 ⟨by simp [q2], by simp [q3], by simp [q4], by simp [q5], by simp [q8], by simp [q10]⟩ (by simp [h12]) (by simp [h13]) (by simp)
    simp [aEv, AR.era, o3, hX]
   ·by_cases o2 : r.op = 2
    ·have hnlt := hp.ld j hj k r hr o2
     have hfst : (((A j).take k).map AR.era |>.foldl (aEv j (O j)) (0, [])).1 = s.1 := by
      rw [hs, List.map_take]
      exact Ka _ _ _ _ _ _
     rw [hfst] at hnlt
     obtain ⟨ov, hov⟩ : ∃ ov, (O j)[s.1]? = some ov := ⟨_, qaa hnlt⟩
     have l5 : load1 m1 ⟨B5, 1, none⟩ = some osl := (G1.st.get 2 rfl).2.2.load1 1 none
     have hjo : ((List.range nt).map vo)[j]? = some (vo j) := by simp [hj]
     have ⟨d1, d2⟩ := Rd.at1 (g := fun (x : Value) => x) (hp.os.sees hS1) hjo
     have ⟨e1, e2⟩ := Rd.at1 (g := fun (x : Nat) => Value.int .u64 (x : Int)) ((hp.ou j hj).sees hS1) hov
     obtain ⟨v', m2, m3, f1, g1, G3⟩ := JX G1 (by omega) ⟨j, 1, r.base, ov, r.mode⟩
     simp only at f1 g1 G3
     have w2 := qS (i := s.1) (by omega)
     simp [q4, q5, q10, h12, h13, h14, l4, a1, a31, hacl, hd, b1, ql, b2', s1', c0, o2, c10, c2, c7, l5, d1, d2, hS1.self, e1, e2, f1, g1, w1, w2, meets, FP.meet, FP.clear]
     refine next _ _ v' (s.1 + 1, s.2 ++ [⟨j, 1, r.base, ov, r.mode⟩]) ?_ G3 ⟨by simp [q2], by simp [q3], by simp [q4], by simp [q5], by simp [q8], by simp [q10]⟩ (by simp [h12]) (by simp) (by simp)
     simp [aEv, AR.era, o2, hov]
    ·have e7 : (r.op = 7) = False := eq_false o7
     have e3 : (r.op = 3) = False := eq_false o3
     have e2 : (r.op = 2) = False := eq_false o2
     simp [q4, q10, h12, h14, l4, a1, a31, hacl, hd, b1, ql, b2', s1', c0, e7, e3, e2, w1]
     refine next _ _ g s ?_ G1 ⟨by simp [q2], by simp [q3], by simp [q4], by simp [q5], by simp [q8], by simp [q10]⟩ (by simp [h12]) (by simp [h13]) (by simp)
     simp [aEv, AR.era, o7, o3, o2]
 obtain rfl : k = (A j).length := by omega
 have hlt : (((A j).length : Int) < (A j).length) = False := eq_false (by omega)
 simp [q4, h12, h14, l4, a1, a31, hacl, hlt]
 refine H _ _ g ?_ ⟨by simp [q2], by simp [q3], by simp [q4], by simp [q5], by simp [q8], by simp [q10]⟩ (by simp [h12])
 rw [List.take_of_length_le (by simp)] at hs
 unfold WZ
 rw [← hs]; exact G
theorem flB (n : Nat) (hm : m.base ≤ m.n) (hp : PO m nt tsl osl fsl loc va vo A O) (hN : N ≤ 256) {B4 B5 B8 B10 pick co : Nat} {t : Tm} {g0 : Value} (hG : GS m m m' 0 0 ((B10, qc N g0 qt qt) :: flτ B4 B5 B8 N tsl osl fsl []) g0 5 qp ((List.range N).map ev0)) (hT : FlT t B4 B5 B8 B10 pick co) (t12 : Tm.get 12 t = iv 0) {kn : K} {ke : Nat → K} {kr : K} {Q : Option Out → Prop}
  (H : ∀ t' m2 g, GS m m m2 0 0 ((B10, qc N g qt qt) :: flτ B4 B5 B8 N tsl osl fsl []) g 5 qp (vL (fun j => (A j).map AR.era) O N nt) → FlT t' B4 B5 B8 B10 pick co → Q (ke 2 t' m2)) : Q (ZB (ex Try.prog n) kn ke kr t m') := by
 have hnl := hp.nl
 have htl := hp.ts.len
 simp only [List.length_map, List.length_range] at htl
 refine qu (c := ZB) rfl Q (fun j t m' => ∃ g, GS m m m' 0 0 ((B10, qc N g qt qt) :: flτ B4 B5 B8 N tsl osl fsl []) g 5 qp (vL (fun j => (A j).map AR.era) O N j) ∧ FlT t B4 B5 B8 B10 pick co ∧ Tm.get 12 t = iv j) nt (by omega)
  ⟨g0, by simpa [vL] using hG, hT, by simpa using t12⟩ (fun j t m' k hi hI hk => ?_)
 obtain ⟨g, G, T, h12⟩ := hI
 have q2 := T.t2
 have q3 := T.t3
 have q4 := T.t4
 have q5 := T.t5
 have q8 := T.t8
 have q10 := T.t10
 have l4 : load1 m' ⟨B4, 1, none⟩ = some tsl := (G.st.get 3 rfl).2.2.load1 1 none
 by_cases hil : j < nt
 ·have hd := dlt hil
  have w1 := qS (i := j) (by omega)
  simp [q4, h12, l4, htl, hd]
  have hb := Zf (fun j => (A j).map AR.era) O N 1000 j (fun i hi => by simpa using hp.al i (by omega))
  refine flB1 (pick := pick) (co := co) n hm hp hil (by omega) G ?_ ?_ ?_ ?_ fun t' m2 g' G' T' h12' => ?_
  ·exact ⟨by simp [q2], by simp [q3], by simp [q4], by simp [q5], by simp [q8], by simp [q10]⟩
  ·simp [h12]
  ·simp
  ·simp
  simp [h12', w1]
  refine hk hil _ _ ⟨g', ?_, ⟨by simp [T'.t2], by simp [T'.t3], by simp [T'.t4], by simp [T'.t5], by simp [T'.t8], by simp [T'.t10]⟩, by simp⟩
  unfold vL
  rw [qL]; exact G'
 obtain rfl : j = nt := by omega
 have hlt : ((j : Int) < j) = False := eq_false (by omega)
 simp [q4, h12, l4, htl, hlt]
 exact H _ _ g G ⟨by simp [q2], by simp [q3], by simp [q4], by simp [q5], by simp [q8], by simp [q10]⟩
end
end Go.Sx
namespace Go.Sx
open Go.Dx Go.Proofs
set_option maxRecDepth 10000
theorem dU {a b : Nat} (hb : 0 < b) (ha : a < 9223372036854775808) : zx .quo (.int .i64 a) (.int .i64 b) = some (.int .i64 ((a / b : Nat) : Int)) := by
 rw [zc]
 show jS (Op.intDiv .quo .i64 (a : Int) (b : Int)) = _
 unfold Op.intDiv
 rw [if_neg (by omega)]
 have e : (a : Int).tdiv (b : Int) = ((a / b : Nat) : Int) := by rw [Int.ofNat_tdiv]
 have h2 : a / b ≤ a := Nat.div_le_self a b
 show some (Value.int _ (IntKind.i64.wrap ((a : Int).tdiv b))) = _
 rw [e]
 obtain ⟨q, hq⟩ := qay (a / b)
 rw [← hq] at h2 ⊢
 rw [wrap64 _ (by omega) (by omega)]
theorem Dk {m m' : M} {N : Nat} {g rf co : Value} {B10 : Nat} {τ : List (Nat × List Value)} {rows : List (Nat × Nat)} (G : GS m m m' 0 0 ((B10, qc N g rf co) :: τ) rf 2 qq rows) (hl : rows.length ≤ 1000000) (e : Nat × Nat) :
  ∃ v' m2 m3, qZ (qh (Dx.newRow m' [iv e.1, iv e.2])) 2 16 rf (.slice (some ⟨m'.n, 0, some 5⟩) 1 1) = some (v', m2) ∧ qO 1 (.pointer (some ⟨B10, 2, none⟩)) v' (qh (behind (Dx.newRow m' [iv e.1, iv e.2]) m2)) = some (undef, m3) ∧
   GS m m (behind (behind (Dx.newRow m' [iv e.1, iv e.2]) m2) m3) 0 0 ((B10, qc N g v' co) :: τ) v' 2 qq (rows ++ [e]) := by
 obtain ⟨v', m2, f1, f2, G2, n2, o2, b2⟩ := G.appAny (by omega) wy xU (x := e) (M1 := Dx.newRow m' (qq e)) (Ext.row _ _) (X := m'.n) (sp := some 5) ((Arr.row m' (qq e)).loads (o := 0) (n := 2) (by simp [qq])) (bytes := 16) (by unfold most; omega) (by omega)
 have hv' := (G2.gr.rd wy).okV
 obtain ⟨m3, g1, g2, G3, n3, o3⟩ := G2.storeAny 0 (b := B10) (o := 2) (l := qc N g rf co) (v := v') rfl (by simp [qc]) hv'
 exact ⟨v', m2, m3, f1, g1, G3⟩
def jo (EV : List EvR) (e : EvR) (a : Nat) : Bool := match EV[a]? with
 | some x => decide (x.kind = 2 ∧ x.loc = e.loc ∧ x.val = e.val)
 | none => false
theorem zz (p : Nat → Bool) (n : Nat) : (List.range (n + 1)).filter p = (List.range n).filter p ++ (if p n then [n] else []) := by
 rw [List.range_succ, List.filter_append]
 congr 1
 by_cases h : p n <;> simp [h]
section
variable {m m' : M} {N nt : Nat} {tsl osl fsl g : Value} {EV : List EvR} {RF : List (Nat × Nat)}
set_option maxHeartbeats 1000000 in
theorem flC (n : Nat) (hm : m.base ≤ m.n) (hl : EV.length ≤ 256) {B4 B5 B8 B10 pick co : Nat} {xs : List (Nat × List Value)} (hxs : ∀ m', St m m' xs → Rd m' g 5 qp EV) (hcand : ∀ b e, EV[b]? = some e → e.kind = 1 → ∃ w, (List.range EV.length).filter (jo EV e) = [w] ∧ RF[nR EV b]? = some (w, b)) (hrl : RF.length = nR EV EV.length) (hpick : pick < 1000000)
  {t : Tm} (hG : GS m m m' 0 0 ((B10, qc N g qt qt) :: flτ B4 B5 B8 N tsl osl fsl xs) qt 2 qq ([] : List (Nat × Nat))) (hT : FlT t B4 B5 B8 B10 pick co) (t16 : Tm.get 16 t = iv 0) {kn : K} {ke : Nat → K} {kr : K} {Q : Option Out → Prop}
  (H : ∀ t' m2 rf, GS m m m2 0 0 ((B10, qc N g rf qt) :: flτ B4 B5 B8 N tsl osl fsl xs) rf 2 qq RF → FlT t' B4 B5 B8 B10 pick co → Q (ke 7 t' m2)) : Q (ZC (ex Try.prog n) kn ke kr t m') := by
 refine qu (c := ZC) rfl Q (fun b t m' => ∃ rf, GS m m m' 0 0 ((B10, qc N g rf qt) :: flτ B4 B5 B8 N tsl osl fsl xs) rf 2 qq (RF.take (nR EV b)) ∧ FlT t B4 B5 B8 B10 pick co ∧ Tm.get 16 t = iv b) EV.length (by omega)
  ⟨qt, by simpa [nR] using hG, hT, by simpa using t16⟩ (fun b t m' k hi hI hk => ?_)
 obtain ⟨rf, G, T, h16⟩ := hI
 have q2 := T.t2
 have q3 := T.t3
 have q4 := T.t4
 have q5 := T.t5
 have q8 := T.t8
 have q10 := T.t10
 have evd : ∀ {m2 : M} {r : Value} {rows : List (Nat × Nat)}, GS m m m2 0 0 ((B10, qc N g r qt) :: flτ B4 B5 B8 N tsl osl fsl xs) r 2 qq rows → Rd m2 g 5 qp EV := fun {m2 r rows} G => hxs m2 (G.st.sub (fun p hp => by simp [flτ, hp]) (by
  have := G.st.nd
  unfold flτ at this
  simp only [List.map_cons, List.nodup_cons] at this
  exact this.2.2.2.2))
 have hg := evd G
 have hel := hg.len
 have hS := G.st.sees
 have l1 : load1 m' ⟨B10, 1, none⟩ = some g := (G.st.get 0 rfl).2.2.load1 1 none
 have hnr := Ga EV b
 by_cases hil : b < EV.length
 ·have hd := dlt hil
  have w1 := qS (i := b) (by omega)
  obtain ⟨e, he⟩ : ∃ e, EV[b]? = some e := ⟨_, qaa hil⟩
  have ⟨a1, a2, a3⟩ := hg.at he
  have a31 : load1 m' ⟨(adr 5 g b).block, (adr 5 g b).off + 1, none⟩ = some (iv e.kind) := by rw [a3 m' 1 none hS.self (by simp [qp])]; rfl
  have hns := bh he
  by_cases hk1 : e.kind = 1
  ·rw [if_pos hk1] at hns
   obtain ⟨w, hw, hrfb⟩ := hcand b e he hk1
   simp [q10, l1, hel, h16, hd, a1, a31, hk1]
   refine qu (c := YD) rfl Q (fun a t m2 => ∃ v, Ext m' m2 ∧ Grown m' m2 v 1 wa ((List.range a).filter (jo EV e)) ∧ FlT t B4 B5 B8 B10 pick co ∧ Tm.get 16 t = iv b ∧ Tm.get 17 t = v ∧ Tm.get 18 t = iv a) EV.length (by omega)
    ⟨qt, Ext.refl _, by simpa using Grown.nil, ⟨by simp [q2], by simp [q3], by simp [q4], by simp [q5], by simp [q8], by simp [q10]⟩, by simp [h16], by simp, by simp⟩ (fun a t m2 k2 hi2 hI2 hk2 => ?_)
   obtain ⟨v, hE, hG2, T, h16, h17, h18⟩ := hI2
   have q2 := T.t2
   have q3 := T.t3
   have q4 := T.t4
   have q5 := T.t5
   have q8 := T.t8
   have q10 := T.t10
   have Gm := G.step hE
   have hg2 := evd Gm
   have hS2 := Gm.st.sees
   have l2 : load1 m2 ⟨B10, 1, none⟩ = some g := (Gm.st.get 0 rfl).2.2.load1 1 none
   have hvl := hG2.lens
   by_cases hil2 : a < EV.length
   ·have hd2 := dlt hil2
    have w2 := qS (i := a) (by omega)
    obtain ⟨x, hx⟩ : ∃ x, EV[a]? = some x := ⟨_, qaa hil2⟩
    have ⟨b1, b2, b3⟩ := hg2.at hx
    have ⟨c1, c2, c3⟩ := hg2.at he
    have b31 : load1 m2 ⟨(adr 5 g a).block, (adr 5 g a).off + 1, none⟩ = some (iv x.kind) := by rw [b3 m2 1 none hS2.self (by simp [qp])]; rfl
    have b32 : load1 m2 ⟨(adr 5 g a).block, (adr 5 g a).off + 2, none⟩ = some (iv x.loc) := by rw [b3 m2 2 none hS2.self (by simp [qp])]; rfl
    have b33 : load1 m2 ⟨(adr 5 g a).block, (adr 5 g a).off + 3, none⟩ = some (.int .u64 x.val) := by rw [b3 m2 3 none hS2.self (by simp [qp])]; rfl
    have c32 : load1 m2 ⟨(adr 5 g b).block, (adr 5 g b).off + 2, none⟩ = some (iv e.loc) := by rw [c3 m2 2 none hS2.self (by simp [qp])]; rfl
    have c33 : load1 m2 ⟨(adr 5 g b).block, (adr 5 g b).off + 3, none⟩ = some (.int .u64 e.val) := by rw [c3 m2 3 none hS2.self (by simp [qp])]; rfl
    have hft := zz (jo EV e) a
    have hce : jo EV e a = decide (x.kind = 2 ∧ x.loc = e.loc ∧ x.val = e.val) := by unfold jo; rw [hx]
    have no : jo EV e a = false → ∀ t', FlT t' B4 B5 B8 B10 pick co → Tm.get 16 t' = iv b → Tm.get 17 t' = v → Tm.get 18 t' = iv (a + 1 : Nat) → Q (k2 t' m2) := fun hf t' r1 r2 r3 r4 => hk2 hil2 _ _ ⟨v, hE, by rw [hft, hf]; simpa using hG2, r1, r2, r3, r4⟩
    by_cases p1 : x.kind = 2
    ·have e1 : (x.kind = 2) = True := eq_true p1
     by_cases p2 : x.loc = e.loc
     ·have e2 : (x.loc = e.loc) = True := eq_true p2
      by_cases p3 : x.val = e.val
      ·have e3 : ((x.val : Int) = e.val) = True := eq_true (by omega)
       have hbd : ((List.range a).filter (jo EV e)).length ≤ 1000 := qam (List.length_filter_le _ _) (by simp; omega)
       obtain ⟨v', m3, f1, f2, f3, f4⟩ := QO hG2 hE hS.base hbd a
       simp [q10, l2, hel, h16, h17, h18, hd2, b1, b31, e1, b32, c1, c32, e2, b33, c33, e3, f1, w2, meets, FP.meet, FP.clear]
       refine hk2 hil2 _ _ ⟨v', f2, ?_, ⟨by simp [q2], by simp [q3], by simp [q4], by simp [q5], by simp [q8], by simp [q10]⟩, by simp [h16], by simp, by simp⟩
       rw [hft, hce]
       simpa [p1, p2, p3] using f3
      ·have e3 : ((x.val : Int) = e.val) = False := eq_false (by omega)
       simp [q10, l2, hel, h16, h17, h18, hd2, b1, b31, e1, b32, c1, c32, e2, b33, c33, e3, w2, meets, FP.meet, FP.clear]
       exact no (by rw [hce]; simp [p3]) _ ⟨by simp [q2], by simp [q3], by simp [q4], by simp [q5], by simp [q8], by simp [q10]⟩ (by simp [h16]) (by simp [h17]) (by simp)
     ·have e2 : (x.loc = e.loc) = False := eq_false p2
      simp [q10, l2, hel, h16, h17, h18, hd2, b1, b31, e1, b32, c1, c32, e2, w2, meets, FP.meet, FP.clear]
      exact no (by rw [hce]; simp [p2]) _ ⟨by simp [q2], by simp [q3], by simp [q4], by simp [q5], by simp [q8], by simp [q10]⟩ (by simp [h16]) (by simp [h17]) (by simp)
    ·have e1 : (x.kind = 2) = False := eq_false p1
     simp [q10, l2, hel, h16, h17, h18, hd2, b1, b31, e1, w2, meets, FP.meet, FP.clear]
     exact no (by rw [hce]; simp [p1]) _ ⟨by simp [q2], by simp [q3], by simp [q4], by simp [q5], by simp [q8], by simp [q10]⟩ (by simp [h16]) (by simp [h17]) (by simp)
   obtain rfl : a = EV.length := by omega
   rw [hw] at hG2
   have hvl := hG2.lens
   have hvl' : zZ v = some (iv 1) := hvl
   have hlt : ((EV.length : Int) < EV.length) = False := eq_false (by omega)
   have l3 : load1 m2 ⟨B10, 2, none⟩ = some rf := (Gm.st.get 0 rfl).2.2.load1 2 none
   have hrem : zx .rem (.int .i64 (pick : Int)) (.int .i64 1) = some (.int .i64 0) := by
    have := jX (a := pick) (b := 1) (by omega)
    rw [Nat.mod_one] at this
    exact this
   have hquo : zx .quo (.int .i64 (pick : Int)) (.int .i64 1) = some (.int .i64 (pick : Int)) := by
    have := dU (a := pick) (b := 1) (by omega) (by omega)
    rw [Nat.div_one] at this
    exact this
   have ⟨d1, d2⟩ := Rd.at1 (g := fun (x : Nat) => iv x) (hG2.rd xN) (show [w][0]? = some w from rfl)
   have d1' : kN 1 v (.int .i64 0) = some (.pointer (some (adr 1 v 0))) := d1
   obtain ⟨v', m3, m4, f1, g1, G4⟩ := Dk Gm (by simp; omega) (w, b)
   simp only at f1 g1 G4
   simp [q2, q10, l2, hel, h16, h17, h18, hlt, hvl', l3, hrem, hquo, d1', d2, hS2.self, f1, g1, w1, meets, FP.meet, FP.clear]
   refine hk hil _ _ ⟨v', ?_, ⟨by simp, by simp [q3], by simp [q4], by simp [q5], by simp [q8], by simp [q10]⟩, by simp⟩
   rw [hns, take_at hrfb]
   exact G4
  ·rw [if_neg hk1, Nat.add_zero] at hns
   have e1 : (e.kind = 1) = False := eq_false hk1
   simp [q10, l1, hel, h16, hd, a1, a31, e1, w1]
   refine hk hil _ _ ⟨rf, by rw [hns]; exact G, ⟨by simp [q2], by simp [q3], by simp [q4], by simp [q5], by simp [q8], by simp [q10]⟩, by simp⟩
 obtain rfl : b = EV.length := by omega
 have hlt : ((EV.length : Int) < EV.length) = False := eq_false (by omega)
 simp [q10, l1, hel, h16, hlt]
 rw [List.take_of_length_le (by omega)] at G
 exact H _ _ rf G ⟨by simp [q2], by simp [q3], by simp [q4], by simp [q5], by simp [q8], by simp [q10]⟩
end
end Go.Sx
namespace Go.Sx
open Go.Dx Go.Proofs
set_option maxRecDepth 10000
theorem BG {M1 : M} {X Y n : Nat} {L : List Value} {w : Value} (hL : loads M1 ⟨X, 0, some 3⟩ n = some L) (hw : loads M1 ⟨Y, 0, some 3⟩ 1 = some [w]) (hn : n ≤ 1000) :
  qZ M1 1 8 (.slice (some ⟨X, 0, some 3⟩) n n) (.slice (some ⟨Y, 0, some 3⟩) 1 1) = some (.slice (some ⟨M1.n, 0, some (code 1 false)⟩) (n + 1) (n + 1), Dx.newRow M1 (L ++ [w])) := by
 show (ob (loads M1 ⟨Y, 0, some 3⟩ (1 * 1)) fun new => QN M1 1 8 n n 1 (some ⟨X, 0, some 3⟩) new) = _
 rw [Nat.mul_one, hw, qI]
 unfold QN
 have h1 : Nat.ble (n + 1) n = false := by
  cases q : Nat.ble (n + 1) n with
  | false => rfl
  | true =>
   have := qaj q
   omega
 rw [h1, cond_false, qai (show (n + 1) * 8 ≤ most by unfold most; omega), qai (show n + 1 ≤ 4611686018427387904 by omega)]
 show (ob (loads M1 ⟨X, 0, some 3⟩ (n * 1)) fun old => de M1 1 (n + 1) (some ⟨X, 0, some 3⟩) (old ++ [w])) = _
 rw [Nat.mul_one, hL, qI]
 rfl
def LitG (mb m : M) (v : Value) (L : List Nat) : Prop :=
 (∃ x, L = [x] ∧ v = .slice (some ⟨mb.n, 0, some 3⟩) 1 1 ∧ mb.n < m.n ∧ Arr m mb.n [iv x]) ∨ (Grown mb m v 1 wa L ∧ L ≠ [])
section
variable {mb m m' : M} {v : Value} {L : List Nat}
theorem LitG.step (h : LitG mb m v L) (e : Ext m m') : LitG mb m' v L := by
 rcases h with ⟨x, h1, h2, h3, h4⟩ | ⟨h1, h2⟩
 ·exact .inl ⟨x, h1, h2, qaf h3 e.n, h4.congr (e.obj _ h3)⟩
 ·exact .inr ⟨h1.ext e, h2⟩
theorem LitG.blk (h : LitG mb m v L) : ∃ B cd, mb.n ≤ B ∧ B < m.n ∧ v = .slice (some ⟨B, 0, some cd⟩) L.length L.length ∧ Arr m B (L.flatMap wa) := by
 rcases h with ⟨x, h1, h2, h3, h4⟩ | ⟨h1, h2⟩
 ·subst h1; exact ⟨mb.n, 3, qad _, h3, h2, h4⟩
 ·rcases h1 with ⟨h, _⟩ | ⟨B, a, b, _, c, d⟩
  ·exact absurd h h2
  ·exact ⟨B, _, a, b, c, d⟩
theorem LitG.rd (h : LitG mb m v L) : Rd m v 1 wa L := by
 obtain ⟨B, cd, h1, h2, h3, h4⟩ := h.blk
 rw [h3]
 exact jd xN h4 h2
theorem LitG.app (h : LitG mb m v L) (hb : mb.base ≤ mb.n) (hE : Ext mb m) (hl : L.length ≤ 900) (a : Nat) :
  ∃ v' m3, qZ (Dx.newRow m [iv a]) 1 8 v (.slice (some ⟨m.n, 0, some 3⟩) 1 1) = some (v', m3) ∧ Ext mb m3 ∧ LitG mb m3 v' (L ++ [a]) ∧ m.n ≤ m3.n := by
 rcases h with ⟨x, h1, h2, h3, h4⟩ | ⟨h1, h2⟩
 ·subst h1 h2
  have E1 := Ext.row m [iv a]
  have l1 : loads (Dx.newRow m [iv a]) ⟨mb.n, 0, some 3⟩ 1 = some [iv x] := by
   have := (h4.congr (E1.obj _ h3)).loads (o := 0) (n := 1) (s := some 3) (by simp)
   simpa using this
  have l2 : loads (Dx.newRow m [iv a]) ⟨m.n, 0, some 3⟩ 1 = some [iv a] := by
   have := (Arr.row m [iv a]).loads (o := 0) (n := 1) (s := some 3) (by simp)
   simpa using this
  have E2 := Ext.row (Dx.newRow m [iv a]) ([iv x] ++ [iv a])
  refine ⟨_, _, BG l1 l2 (by omega), hE.trans (E1.trans E2), .inr ⟨.inr ⟨(Dx.newRow m [iv a]).n, ?_, ?_, by simp, rfl, Arr.row _ _⟩, by simp⟩, ?_⟩
  ·rw [qn]; have := hE.n; omega
  ·rw [qn (Dx.newRow m [iv a])]; omega
  ·rw [qn, qn]; omega
 ·obtain ⟨v', m3, f1, f2, f3, f4, _⟩ := QO h1 hE hb (by omega) a
  exact ⟨v', m3, f1, f2, .inr ⟨f3, by simp⟩, f4⟩
end
def fl (EV : List EvR) (x a : Nat) : Bool := match EV[a]? with
 | some e => decide (e.kind = 2 ∧ e.loc = (x : Int))
 | none => false
def wl (EV : List EvR) (N x i : Nat) : List Nat := x :: ((List.range i).filter fun k => fl EV x (N + k)).map (N + ·)
theorem Dz (EV : List EvR) (N x i : Nat) : wl EV N x (i + 1) = wl EV N x i ++ (if fl EV x (N + i) then [N + i] else []) := by
 unfold wl
 rw [zz]
 by_cases h : fl EV x (N + i) <;> simp [h]
theorem wl_len (EV : List EvR) (N x i : Nat) : (wl EV N x i).length ≤ i + 1 := by
 unfold wl
 have := List.length_filter_le (fun k => fl EV x (N + k)) (List.range i)
 simp at this ⊢
 exact this
def swp (l : List Nat) : List Nat := [l.getD 0 0, l.getD 2 0, l.getD 1 0]
def coS (EV : List EvR) (N : Nat) (s : List (List Nat) × Nat) (x : Nat) : List (List Nat) × Nat :=
 if (wl EV N x (EV.length - N)).length = 3 then (s.1 ++ [if s.2 % 2 = 1 then swp (wl EV N x (EV.length - N)) else wl EV N x (EV.length - N)], s.2 / 2) else (s.1 ++ [wl EV N x (EV.length - N)], s.2)
def coF (EV : List EvR) (N k co : Nat) : List (List Nat) × Nat := (List.range k).foldl (coS EV N) ([], co)
theorem xE (EV : List EvR) (N co : Nat) : ∀ k, (coF EV N k co).1.length = k ∧ (coF EV N k co).2 ≤ co
 | 0 => by simp [coF]
 | k + 1 => by
  have ih := xE EV N co k
  unfold coF at ih ⊢
  rw [qL]
  obtain ⟨s, hs⟩ := qay ((List.range k).foldl (coS EV N) ([], co))
  rw [← hs] at ih ⊢
  unfold coS
  have := Nat.div_le_self s.2 2
  split
  ·simp; omega
  ·simp; omega
abbrev PCx := Nat × Nat × List Nat
def pcV (p : PCx) : Value := .slice (some ⟨p.1, 0, some p.2.1⟩) p.2.2.length p.2.2.length
def pcR (p : PCx) : List Value := [pcV p]
theorem Wz (p : PCx) : (pcR p).length = 1 := rfl
def pcB (p : PCx) : Nat × List Value := (p.1, p.2.2.flatMap wa)
section
variable {m mb m' : M} {N B10 : Nat} {τ : List (Nat × List Value)} {tsl osl fsl g rf gc : Value} {EV : List EvR} {rows : List PCx}
theorem po_app (G : GS m m mb 0 0 ((B10, qc N g rf gc) :: τ) gc 1 pcR rows) (hE : Ext mb m') {p : PCx} (h1 : mb.n ≤ p.1) (h2 : p.1 < m'.n) (h3 : Arr m' p.1 (p.2.2.flatMap wa)) (hl : rows.length ≤ 900) :
  ∃ v' m2 m3, qZ (Dx.newRow m' [pcV p]) 1 24 gc (.slice (some ⟨m'.n, 0, some 3⟩) 1 1) = some (v', m2) ∧ qO 1 (.pointer (some ⟨B10, 3, none⟩)) v' m2 = some (undef, m3) ∧ GS m m m3 0 0 ((B10, qc N g rf v') :: (τ ++ [pcB p])) v' 1 pcR (rows ++ [p]) := by
 have G2 := G.addBlk hE h1 h2 h3
 obtain ⟨v', m2, f1, G3, n3, o3, b3⟩ := G2.app (by omega) Wz (fun p v hv => by simp [pcR] at hv; rw [hv]; rfl) (x := p) (M1 := Dx.newRow m' [pcV p]) (Ext.row _ _) (X := m'.n) (sp := some 3) ((Arr.row m' [pcV p]).loads (o := 0) (n := 1) (by simp)) (bytes := 24) (by unfold most; omega) (by omega)
 have hg' := (G3.gr.rd Wz).okV
 obtain ⟨m4, s1, G4, n4, o4⟩ := G3.store 0 (b := B10) (l := qc N g rf gc) rfl (o := 3) (v := v') (by simp [qc]) hg'
 exact ⟨v', m2, m4, f1, s1, G4⟩
end
end Go.Sx
namespace Go.Sx
open Go.Dx Go.Proofs
set_option maxRecDepth 10000
section
variable {m m' : M} {N : Nat} {tsl osl fsl g rf : Value} {EV : List EvR}
set_option maxHeartbeats 1000000 in
theorem flD (n : Nat) (hm : m.base ≤ m.n) (hl : EV.length ≤ 256) (hN : N ≤ EV.length) {B4 B5 B8 B10 pick co : Nat} {xs : List (Nat × List Value)} (hxs : ∀ m', St m m' xs → Rd m' g 5 qp EV) (hco : co < 1000000)
  {t : Tm} (hG : GS m m m' 0 0 ((B10, qc N g rf qt) :: flτ B4 B5 B8 N tsl osl fsl xs) qt 1 pcR ([] : List PCx)) (hT : FlT t B4 B5 B8 B10 pick co) (t19 : Tm.get 19 t = iv 0) {kn : K} {ke : Nat → K} {kr : K} {Q : Option Out → Prop}
  (H : ∀ t' m2 gc rows, rows.map (·.2.2) = (coF EV N N co).1 → GS m m m2 0 0 ((B10, qc N g rf gc) :: (flτ B4 B5 B8 N tsl osl fsl xs ++ rows.map pcB)) gc 1 pcR rows → FlT t' B4 B5 B8 B10 pick (coF EV N N co).2 → Q (ke 11 t' m2)) : Q (ZD (ex Try.prog n) kn ke kr t m') := by
 refine qu (c := ZD) rfl Q (fun x t m' => ∃ gc rows, rows.map (·.2.2) = (coF EV N x co).1 ∧ GS m m m' 0 0 ((B10, qc N g rf gc) :: (flτ B4 B5 B8 N tsl osl fsl xs ++ rows.map pcB)) gc 1 pcR rows ∧ FlT t B4 B5 B8 B10 pick (coF EV N x co).2 ∧ Tm.get 19 t = iv x) N (by omega)
  ⟨qt, [], by simp [coF], by simpa using hG, by simpa [coF] using hT, by simpa using t19⟩ (fun x t m' k hi hI hk => ?_)
 obtain ⟨gc, rows, hrows, G, T, h19⟩ := hI
 obtain ⟨c, hc⟩ := qay ((coF EV N x co).2)
 have hcl := xE EV N co x
 rw [← hc] at T hcl
 have q2 := T.t2
 have q3 := T.t3
 have q4 := T.t4
 have q5 := T.t5
 have q8 := T.t8
 have q10 := T.t10
 have hS := G.st.sees
 have l4 : load1 m' ⟨B4, 0, none⟩ = some (iv N) := (G.st.get 3 rfl).2.2.load1 0 none
 have hrl : rows.length = x := by have := congrArg List.length hrows; simpa [hcl.1] using this
 by_cases hil : x < N
 ·have hd := dlt hil
  have w1 := qS (i := x) (by omega)
  have E1 := Ext.row m' [iv x]
  have l41 : load1 (Dx.newRow m' [iv x]) ⟨B4, 0, none⟩ = some (iv N) := ((G.step E1).st.get 3 rfl).2.2.load1 0 none
  simp [q4, h19, l4, hd, l41]
  refine qu (c := YF) rfl Q (fun i t m2 => ∃ v, Ext m' m2 ∧ LitG m' m2 v (wl EV N x i) ∧ FlT t B4 B5 B8 B10 pick c ∧ Tm.get 19 t = iv x ∧ Tm.get 20 t = v ∧ Tm.get 21 t = iv (N + i : Nat)) (EV.length - N) (by omega)
   ⟨_, E1, .inl ⟨x, by simp [wl], rfl, by rw [qn]; omega, Arr.row m' [iv x]⟩, ⟨by simp [q2], by simp [q3], by simp [q4], by simp [q5], by simp [q8], by simp [q10]⟩, by simp [h19], by simp, by simp⟩ (fun i t m2 k2 hi2 hI2 hk2 => ?_)
  obtain ⟨v, hE, hL, T, h19, h20, h21⟩ := hI2
  obtain ⟨a, ha⟩ := qay (N + i)
  rw [← ha] at h21
  have q2 := T.t2
  have q3 := T.t3
  have q4 := T.t4
  have q5 := T.t5
  have q8 := T.t8
  have q10 := T.t10
  have Gm := G.step hE
  have hg2 : Rd m2 g 5 qp EV := hxs m2 (Gm.st.sub (fun p hp => by simp [flτ, hp]) (by
   have := Gm.st.nd
   unfold flτ at this
   simp only [List.cons_append, List.map_cons, List.map_append, List.nodup_cons, List.nodup_append] at this
   exact this.2.2.2.2.1))
  have hel := hg2.len
  have hS2 := Gm.st.sees
  have l1 : load1 m2 ⟨B10, 1, none⟩ = some g := (Gm.st.get 0 rfl).2.2.load1 1 none
  have hvl := hL.rd.len
  by_cases hil2 : a < EV.length
  ·have hd2 := dlt hil2
   have w2 := qS (i := a) (by omega)
   have w3 : a + 1 = N + (i + 1) := by omega
   obtain ⟨e, he⟩ : ∃ e, EV[a]? = some e := ⟨_, qaa hil2⟩
   have ⟨b1, b2, b3⟩ := hg2.at he
   have b31 : load1 m2 ⟨(adr 5 g a).block, (adr 5 g a).off + 1, none⟩ = some (iv e.kind) := by rw [b3 m2 1 none hS2.self (by simp [qp])]; rfl
   have b32 : load1 m2 ⟨(adr 5 g a).block, (adr 5 g a).off + 2, none⟩ = some (iv e.loc) := by rw [b3 m2 2 none hS2.self (by simp [qp])]; rfl
   have hnx := Dz EV N x i
   have his : fl EV x (N + i) = decide (e.kind = 2 ∧ e.loc = (x : Int)) := by unfold fl; rw [← ha, he]
   have hwl := wl_len EV N x i
   have no : fl EV x (N + i) = false → ∀ t', FlT t' B4 B5 B8 B10 pick c → Tm.get 19 t' = iv x → Tm.get 20 t' = v → Tm.get 21 t' = iv (a + 1 : Nat) → Q (k2 t' m2) := fun hf t' r1 r2 r3 r4 => hk2 (by omega) _ _ ⟨v, hE, by rw [hnx, hf]; simpa using hL, r1, r2, r3, by rw [r4, w3]⟩
   by_cases p1 : e.kind = 2
   ·have e1 : (e.kind = 2) = True := eq_true p1
    by_cases p2 : e.loc = (x : Int)
    ·have e2 : (e.loc = (x : Int)) = True := eq_true p2
     obtain ⟨v', m3, f1, f2, f3, f4⟩ := hL.app hS.base hE (by omega) a
     simp [q10, l1, hel, h19, h20, h21, hd2, b1, b31, e1, b32, e2, f1, w2]
     refine hk2 (by omega) _ _ ⟨v', f2, ?_, ⟨by simp [q2], by simp [q3], by simp [q4], by simp [q5], by simp [q8], by simp [q10]⟩, by simp [h19], by simp, by simp; omega⟩
     rw [hnx, his, ← ha]
     simpa [p1, p2] using f3
    ·have e2 : (e.loc = (x : Int)) = False := eq_false p2
     simp [q10, l1, hel, h19, h20, h21, hd2, b1, b31, e1, b32, e2, w2]
     exact no (by rw [his]; simp [p2]) _ ⟨by simp [q2], by simp [q3], by simp [q4], by simp [q5], by simp [q8], by simp [q10]⟩ (by simp [h19]) (by simp [h20]) (by simp)
   ·have e1 : (e.kind = 2) = False := eq_false p1
    simp [q10, l1, hel, h19, h20, h21, hd2, b1, b31, e1, w2]
    exact no (by rw [his]; simp [p1]) _ ⟨by simp [q2], by simp [q3], by simp [q4], by simp [q5], by simp [q8], by simp [q10]⟩ (by simp [h19]) (by simp [h20]) (by simp)
  have hai : i = EV.length - N := by omega
  have hae : a = EV.length := by omega
  subst hae
  have hlt : ((EV.length : Int) < EV.length) = False := eq_false (by omega)
  obtain ⟨W, hW⟩ := qay (wl EV N x (EV.length - N))
  rw [hai, ← hW] at hL
  rw [hai, ← hW] at hvl
  have hWl : W.length ≤ 900 := by rw [hW]; have := wl_len EV N x (EV.length - N); omega
  have hstep : coF EV N (x + 1) co = if W.length = 3 then ((coF EV N x co).1 ++ [if c % 2 = 1 then swp W else W], c / 2) else ((coF EV N x co).1 ++ [W], c) := by
   unfold coF
   rw [qL]
   unfold coS
   rw [← hW, hc]; rfl
  have fin : ∀ (t' : Tm) (m3 : M) (p : PCx) (c' : Nat), coF EV N (x + 1) co = ((coF EV N x co).1 ++ [p.2.2], c') → Ext m' m3 → m'.n ≤ p.1 → p.1 < m3.n → Arr m3 p.1 (p.2.2.flatMap wa) → FlT t' B4 B5 B8 B10 pick c' → Tm.get 19 t' = iv x → Tm.get 20 t' = pcV p →
    Q (vi Jg (ex Try.prog n) (VK (vi Jh) (ex Try.prog n) k ke kr) t' m3) := fun t' m3 p c' h1 h2 h3 h4 h5 T h19 h20 => by
   obtain ⟨v', m4, m5, f1, s1, G5⟩ := po_app G h2 h3 h4 h5 (by omega)
   have q10 := T.t10
   have l3 : load1 m3 ⟨B10, 3, none⟩ = some gc := ((G.step h2).st.get 0 rfl).2.2.load1 3 none
   have hbs : kQ 1 1 (rep 1 [.slice none 0 0]) [(0, 1, pcV p)] m3 = some (.slice (some ⟨m3.n, 0, some 3⟩) 1 1, Dx.newRow m3 [pcV p]) := rfl
   simp [q10, h19, h20, l3, hbs, f1, s1, w1]
   refine hk hil _ _ ⟨v', rows ++ [p], ?_, ?_, ⟨by simp [T.t2], by simp [T.t3, h1], by simp [T.t4], by simp [T.t5], by simp [T.t8], by simp [q10]⟩, by simp⟩
   ·rw [List.map_append, hrows, h1]; rfl
   ·have e : flτ B4 B5 B8 N tsl osl fsl xs ++ (rows ++ [p]).map pcB = flτ B4 B5 B8 N tsl osl fsl xs ++ rows.map pcB ++ [pcB p] := by
     rw [List.map_append, List.append_assoc]; rfl
    rw [e]; exact G5
  obtain ⟨B, cd, hB1, hB2, hB3, hB4⟩ := hL.blk
  by_cases h3 : W.length = 3
  ·rw [if_pos h3] at hstep
   have hvl3 : zZ v = some (iv 3) := by rw [hvl, h3]; rfl
   have hrem := jX (a := c) (b := 2) (by omega)
   have hrem' : zx .rem (.int .i64 (c : Int)) (.int .i64 2) = some (.int .i64 ((c % 2 : Nat) : Int)) := hrem
   have hquo := dU (a := c) (b := 2) (by omega) (by omega)
   have hquo' : zx .quo (.int .i64 (c : Int)) (.int .i64 2) = some (.int .i64 ((c / 2 : Nat) : Int)) := hquo
   obtain ⟨c2, hc2⟩ := qay (c / 2)
   rw [← hc2] at hquo' hstep
   rcases (by omega : c % 2 = 1 ∨ c % 2 = 0) with hp | hp
   ·rw [hp] at hrem'
    have hrem1 : zx .rem (.int .i64 (c : Int)) (.int .i64 2) = some (.int .i64 1) := hrem'
    rw [if_pos hp] at hstep
    obtain ⟨w1', hw1⟩ : ∃ w, W[1]? = some w := ⟨_, qaa (by omega)⟩
    obtain ⟨w2', hw2⟩ : ∃ w, W[2]? = some w := ⟨_, qaa (by omega)⟩
    have ⟨d1, d2⟩ := Rd.at1 (g := fun (x : Nat) => iv x) hL.rd hw1
    have ⟨f1, f2⟩ := Rd.at1 (g := fun (x : Nat) => iv x) hL.rd hw2
    have d1' : kN 1 v (.int .i64 1) = some (.pointer (some (adr 1 v 1))) := d1
    have f1' : kN 1 v (.int .i64 2) = some (.pointer (some (adr 1 v 2))) := f1
    have hsw : swp W = [x, w2', w1'] := by
     have h0 : W.getD 0 0 = x := by rw [hW]; rfl
     unfold swp
     rw [h0, List.getD_eq_getElem?_getD, List.getD_eq_getElem?_getD, hw1, hw2]; rfl
    rw [hsw] at hstep
    simp [q3, q4, q10, l1, hel, h19, h20, h21, hlt, hvl3, hrem1, hquo', d1', d2, f1', f2, hS2.self, -gx]
    refine fin _ _ (m2.n, 3, [x, w2', w1']) c2 hstep (hE.trans (Ext.row m2 _)) hE.n (by rw [qn]; exact Nat.lt_succ_self _) (Arr.row m2 _) ?_ ?_ ?_
    ·exact ⟨by simp [q2], by simp, by simp [q4], by simp [q5], by simp [q8], by simp [q10]⟩
    ·simp [h19]
    ·simp [pcV]
   ·rw [hp] at hrem'
    have hrem1 : zx .rem (.int .i64 (c : Int)) (.int .i64 2) = some (.int .i64 0) := hrem'
    rw [if_neg (by omega)] at hstep
    simp [q3, q4, q10, l1, hel, h19, h20, h21, hlt, hvl3, hrem1, hquo', -gx]
    refine fin _ _ (B, cd, W) c2 hstep hE hB1 hB2 hB4 ?_ ?_ ?_
    ·exact ⟨by simp [q2], by simp, by simp [q4], by simp [q5], by simp [q8], by simp [q10]⟩
    ·simp [h19]
    ·simp [pcV, h20, hB3]
  ·rw [if_neg h3] at hstep
   have h3' : ((W.length : Int) = 3) = False := eq_false (by omega)
   simp [q3, q4, q10, l1, hel, h19, h20, h21, hlt, hvl, h3', -gx]
   refine fin _ _ (B, cd, W) c hstep hE hB1 hB2 hB4 ?_ ?_ ?_
   ·exact ⟨by simp [q2], by simp [q3], by simp [q4], by simp [q5], by simp [q8], by simp [q10]⟩
   ·simp [h19]
   ·simp [pcV, h20, hB3]
 obtain rfl : x = N := by omega
 have hlt : ((x : Int) < x) = False := eq_false (by omega)
 simp [q4, h19, l4, hlt]
 exact H _ _ gc rows hrows G ⟨by simp [q2], by simp [q3, hc], by simp [q4], by simp [q5], by simp [q8], by simp [q10]⟩
end
end Go.Sx
namespace Go.Sx
open Go.Dx Go.Proofs
set_option maxRecDepth 10000
section
variable {m : M} {N nt : Nat} {tsl osl fsl : Value} {loc : Nat → Nat} {va vo : Nat → Value} {A : Nat → List AR} {O : Nat → List Nat} {EV : List EvR} {RF : List (Nat × Nat)}
def FilQ (N : Nat) (EV : List EvR) (RF : List (Nat × Nat)) (pick co : Nat) (v : Value) (m' : M) : Prop :=
 ∃ ev rf cov sv, v = .tuple #[.agg ⟨qc N ev rf cov⟩, .bool (decide (pick = 0 ∧ (coF EV N N co).2 = 0))] ∧ GrV m' N EV RF (coF EV N N co).1 ev rf cov sv
set_option maxHeartbeats 1000000 in
theorem FA (nf : Nat) (hm : m.base ≤ m.n) (hp : PO m nt tsl osl fsl loc va vo A O) (hEV : vL (fun j => (A j).map AR.era) O N nt = EV) (hl : EV.length ≤ 256) (hN : N ≤ EV.length) (hcand : ∀ b e, EV[b]? = some e → e.kind = 1 → ∃ w, (List.range EV.length).filter (jo EV e) = [w] ∧ RF[nR EV b]? = some (w, b)) (hrl : RF.length = nR EV EV.length)
  (pick co : Nat) (hpick : pick < 1000000) (hco : co < 1000000) :
  Dx.Call (ex Try.prog (nf + 1)) 34 [.agg ⟨[iv N, tsl]⟩, .agg ⟨[fsl, osl]⟩, iv pick, iv co] m (FilQ N EV RF pick co) := by
 refine qE da4_ok (by simp) ?_
 have st3 := (((St.nil hm (Ext.refl m)).row [iv N, tsl]).row [fsl, osl]).row wD
 simp only [qn] at st3
 obtain ⟨m3, hm3⟩ := qay (Dx.newRow (Dx.newRow (Dx.newRow m [iv N, tsl]) [fsl, osl]) wD)
 rw [← hm3] at st3
 have hm3' : Dx.newRow (Dx.newRow (Dx.newRow m [iv N, tsl]) [fsl, osl]) [.int .i64 0, .slice none 0 0, .slice none 0 0, .slice none 0 0, .slice none 0 0, .slice none 0 0, .slice none 0 0, .slice none 0 0] = m3 := by rw [hm3]; rfl
 have l0 : load1 m3 ⟨m.n, 0, none⟩ = some (iv N) := (st3.get 2 rfl).2.2.load1 0 none
 obtain ⟨m4, s1, s2, s3, s4⟩ := (st3.row wD).fill 0 rfl (n := 8) (l' := qc N qt qt qt) rfl rfl (by simp [qc, okC])
 have s1' : qO 8 (.pointer (some ⟨m3.n, 0, none⟩)) (.agg ⟨[.int .i64 (N : Int), .slice none 0 0, .slice none 0 0, .slice none 0 0, .slice none 0 0, .slice none 0 0, .slice none 0 0, .slice none 0 0]⟩) (Dx.newRow m3 [.int .i64 0, .slice none 0 0, .slice none 0 0, .slice none 0 0, .slice none 0 0, .slice none 0 0, .slice none 0 0, .slice none 0 0]) = some (undef, m4) := s1
 have st4 : St m m4 ((m3.n, qc N qt qt qt) :: flτ m.n (m.n + 1) (m.n + 1 + 1) N tsl osl fsl []) := s2
 simp [hm3', l0, s1']
 refine flA (pick := pick) (co := co) nf (by omega) (GS.ofSt st4 5 qp) ?_ ?_ fun t1 m5 g0 G5 T5 => ?_
 ·exact ⟨by simp, by simp, by simp, by simp, by simp, by simp⟩
 ·simp
 simp
 refine flB (pick := pick) (co := co) nf hm hp (by omega) G5 ?_ ?_ fun t2 m6 g G6 T6 => ?_
 ·exact ⟨by simp [T5.t2], by simp [T5.t3], by simp [T5.t4], by simp [T5.t5], by simp [T5.t8], by simp [T5.t10]⟩
 ·simp
 rw [hEV] at G6
 obtain ⟨xs, G7, hxs, _⟩ := G6.doneLast 2 qq wM
 simp
 refine flC (pick := pick) (co := co) (xs := xs) nf hm hl hxs hcand hrl hpick G7 ?_ ?_ fun t3 m8 rf G8 T8 => ?_
 ·exact ⟨by simp [T6.t2], by simp [T6.t3], by simp [T6.t4], by simp [T6.t5], by simp [T6.t8], by simp [T6.t10]⟩
 ·simp
 obtain ⟨xr, G9, hxr, _⟩ := G8.doneLast 1 pcR wy
 simp
 have ndx : ∀ {m'}, St m m' (xs ++ xr) → St m m' xs ∧ St m m' xr := fun h => by
  have := h.nd
  rw [List.map_append, List.nodup_append] at this
  exact ⟨h.sub (fun p hp => List.mem_append_left _ hp) this.1, h.sub (fun p hp => List.mem_append_right _ hp) this.2.1⟩
 have G9' : GS m m m8 0 0 ((m3.n, qc N g rf qt) :: flτ m.n (m.n + 1) (m.n + 1 + 1) N tsl osl fsl (xs ++ xr)) qt 1 pcR ([] : List PCx) := by
  have e : ((m3.n, qc N g rf qt) :: flτ m.n (m.n + 1) (m.n + 1 + 1) N tsl osl fsl xs) ++ xr = (m3.n, qc N g rf qt) :: flτ m.n (m.n + 1) (m.n + 1 + 1) N tsl osl fsl (xs ++ xr) := rfl
  rw [← e]; exact G9
 refine flD (pick := pick) (co := co) (xs := xs ++ xr) nf hm hl hN (fun m' h => hxs m' (ndx h).1) hco G9' ?_ ?_ fun t4 mE gco rows hrows GE T9 => ?_
 ·exact ⟨by simp [T8.t2], by simp [T8.t3], by simp [T8.t4], by simp [T8.t5], by simp [T8.t8], by simp [T8.t10]⟩
 ·simp
 obtain ⟨cE, hcE⟩ := qay ((coF EV N N co).2)
 rw [← hcE] at T9
 have xall : ∀ {m'}, St m m' ((m3.n, qc N g rf gco) :: (flτ m.n (m.n + 1) (m.n + 1 + 1) N tsl osl fsl (xs ++ xr) ++ rows.map pcB)) → St m m' (xs ++ xr) := fun h => h.sub (fun p hp => by simp [flτ] at hp ⊢; rcases hp with hp | hp <;> simp [hp]) (by
  have := h.nd
  unfold flτ at this
  simp only [List.cons_append, List.map_cons, List.map_append, List.nodup_cons, List.nodup_append] at this
  rw [List.map_append, List.nodup_append]
  exact this.2.2.2.2.1)
 have h10 : loads mE ⟨m3.n, 0, none⟩ 8 = some (qc N g rf gco) := (GE.st.get 0 rfl).2.2.loads (n := 8) (by simp [qc])
 have hgE := (hxs mE (ndx (xall GE.st)).1)
 have hrE := (hxr mE (ndx (xall GE.st)).2)
 have hcE' := GE.gr.rd Wz
 have hok := xg (N := N) hgE.okV hrE.okV hcE'.okV
 have hne : (m.n + 1 + 1) ≠ m3.n := by
  have := (st3.get 0 rfl).2.1
  omega
 obtain ⟨mF, v1, v2, v3, v4⟩ := GE.st.fill 1 (b := m.n + 1 + 1) (l := wD) rfl (n := 8) (l' := qc N g rf gco) rfl rfl hok
 have z2 := T9.t2
 have z3 := T9.t3
 have z8 := T9.t8
 have z10 := T9.t10
 have keepX : ∀ {σ : List (Nat × List Value)}, St m mE σ → (∀ p ∈ σ, p.1 ≠ m.n + 1 + 1) → St m mF σ := fun h hn => h.keepC v2.ext (by omega) fun p hp => v4 p.1 (hn p hp)
 have nd := GE.st.nd
 unfold flτ at nd
 simp only [List.cons_append, List.map_cons, List.map_append, List.nodup_cons, List.nodup_append, qax, List.mem_cons, not_or] at nd
 have hxne : ∀ p ∈ xs ++ xr, p.1 ≠ m.n + 1 + 1 := fun p hp e => by
  have h1 := nd.2.1.2.2.1
  have : p.1 ∈ (xs ++ xr).map (·.1) := List.mem_map_of_mem (f := (·.1)) hp
  rw [List.map_append, qax] at this
  rw [e] at this
  exact this.elim h1.1 h1.2
 have hrne : ∀ p ∈ rows, (pcB p).1 ≠ m.n + 1 + 1 := fun p hp e => by
  have h1 := nd.2.1.2.2.2
  apply h1
  rw [← e]
  exact List.mem_map_of_mem (f := (·.1)) (List.mem_map_of_mem (f := pcB) hp)
 have stxF := keepX (xall GE.st) hxne
 have hgF := hxs mF (ndx stxF).1
 have hrF := hxr mF (ndx stxF).2
 have hB8 : m.n + 1 + 1 < mE.n := (GE.st.get 1 rfl).2.1
 have hcF : Rd mF gco 1 pcR rows := hcE'.congr (by omega) fun X hX => v4 X (fun e => by
  have := (GE.sep X hX).2.2 (m.n + 1 + 1, wD) (by simp [flτ])
  simp only at this
  omega)
 have hlr : rows.length = (coF EV N N co).1.length := by have := congrArg List.length hrows; simpa using this
 have hlN := (xE EV N co N).1
 have hsp : Sp 1 gco := by
  rcases GE.gr with ⟨_, h⟩ | ⟨B, _, _, _, h, _⟩
  ·exact .inl h
  ·exact .inr ⟨B, 0, _, _, false, h, qad _⟩
 have hl8 : loads mF ⟨m.n + 1 + 1, 0, none⟩ 8 = some (qc N g rf gco) := (v2.get 1 rfl).2.2.loads (n := 8) (by simp [qc])
 have hfin : ∀ b : Bool, b = decide (pick = 0 ∧ cE = 0) → FilQ N EV RF pick co (.tuple #[.agg ⟨qc N g rf gco⟩, .bool b]) mF := fun b hb => by
  refine ⟨g, rf, gco, fun j => ((rows[j]?).map pcV).getD qt, by rw [hb, hcE], hsp, fun c l hc => ?_, hgF, hrF, ?_⟩
  ·have hc' : (rows.map (·.2.2))[c]? = some l := by rw [hrows]; exact hc
   rw [qaq] at hc'
   cases hp : rows[c]? with
   | none => rw [hp] at hc'; cases hc'
   | some p =>
    rw [hp] at hc'; cases hc'
    have hpm := qab hp
    obtain ⟨b1, b2, b3⟩ := GE.st.arr (pcB p) (qal _ (List.mem_append_right _ (List.mem_map_of_mem hpm)))
    show Rd mF (pcV p) 1 wa p.2.2
    exact jd (f := wa) xN (b3.congr (v4 _ (hrne p hpm))) (by show (pcB p).1 < _; omega)
  ·have e : rows.map pcV = (List.range N).map fun j => ((rows[j]?).map pcV).getD qt := by
    refine List.ext_getElem? fun j => ?_
    by_cases hj : j < rows.length
    ·rw [qaq, qaq, List.getElem?_range (by omega), qaa hj, Option.map_some, Option.map_some, qaa hj]
     rfl
    ·rw [qav (by simp; omega), qav (by simp; omega)]
   rw [← e]
   exact Rd.mapV hcF
 by_cases hp0 : pick = 0
 ·subst hp0
  have z2' : Tm.get 2 t4 = iv 0 := z2
  by_cases hc0 : cE = 0
  ·have z3' : Tm.get 3 t4 = iv 0 := by rw [z3, hc0]; rfl
   simp [z2', z3', z8, z10, h10, ql, v1]
   refine jU (l := [.agg ⟨qc N g rf gco⟩, .bool true]) ?_ v2.ext (hfin true (by simp [hc0]))
   simp [vG, jT, z8, hl8]
  ·have e0 : ((cE : Int) = 0) = False := eq_false (by omega)
   have e0' : (cE = 0) = False := eq_false hc0
   simp [z2', z3, z8, z10, h10, ql, v1, e0, e0']
   refine jU (l := [.agg ⟨qc N g rf gco⟩, .bool false]) ?_ v2.ext (hfin false (by simp [hc0]))
   simp [vG, jT, z8, hl8]
 ·have e0 : ((pick : Int) = 0) = False := eq_false (by omega)
  have e0' : (pick = 0) = False := eq_false hp0
  simp [z2, z8, z10, h10, ql, v1, e0, e0']
  refine jU (l := [.agg ⟨qc N g rf gco⟩, .bool false]) ?_ v2.ext (hfin false (by simp [hp0]))
  simp [vG, jT, z8, hl8]
end
end Go.Sx
namespace Go.Dx
theorem Wf {c : C} : ∀ {n o : Nat} {l : List Value}, ldn c o n = some l ↔ l.length = n ∧ ∀ i, i < n → A.get none (o + i) c = l[i]?
 | 0, o, l => by
  rw [fo]
  constructor
  ·intro h; cases h; exact ⟨rfl, fun i hi => absurd hi (Nat.not_lt_zero _)⟩
  ·rintro ⟨h, _⟩; rw [List.length_eq_zero_iff.1 h]
 | n + 1, o, l => by
  rw [jx]
  constructor
  ·intro h
   cases hv : A.get none o c with
   | none => rw [hv] at h; cases h
   | some v =>
    cases hr : ldn c (o + 1) n with
    | none => rw [hv, hr] at h; cases h
    | some r =>
     rw [hv, hr] at h
     have e : v :: r = l := by injection h
     obtain ⟨h1, h2⟩ := Wf.1 hr
     subst e
     refine ⟨by simp [h1], fun i hi => ?_⟩
     cases i with
     | zero => simpa using hv
     | succ i => rw [show o + (i + 1) = o + 1 + i by omega, h2 i (by omega)]; simp
  ·rintro ⟨h1, h2⟩
   cases l with
   | nil => simp at h1
   | cons v r =>
    have h0 := h2 0 (by omega)
    simp at h0 h1
    rw [h0, (Wf (n := n) (o := o + 1) (l := r)).2 ⟨h1, fun i hi => by
     have := h2 (i + 1) (by omega)
     rw [show o + 1 + i = o + (i + 1) by omega, this]; simp⟩]
    rfl
theorem Qj {m : M} {B o n : Nat} {s : Option Nat} {l : List Value} (hn : 0 < n) : loads m ⟨B, o, s⟩ n = some l ↔ l.length = n ∧ ∀ i, i < n → ∀ s, load1 m ⟨B, o + i, s⟩ = l[i]? := by
 have e1 : loads m ⟨B, o, s⟩ n = ob (cellsOf m B) fun c => ldn c o n := rfl
 have e2 : ∀ i s, load1 m ⟨B, o + i, s⟩ = ob (cellsOf m B) fun c => A.get none (o + i) c := fun _ _ => rfl
 simp only [e1, e2]
 cases hc : cellsOf m B with
 | none =>
  constructor
  ·intro h; cases h
  ·rintro ⟨h1, h2⟩
   have := h2 0 hn none
   have e : ∃ v, l[0]? = some v := ⟨_, qaa (by omega)⟩
   obtain ⟨v, hv⟩ := e
   rw [hv] at this
   cases this
 | some c =>
  show ldn c o n = some l ↔ _
  rw [Wf]
  exact ⟨fun ⟨h1, h2⟩ => ⟨h1, fun i hi s => h2 i hi⟩, fun ⟨h1, h2⟩ => ⟨h1, fun i hi => h2 i hi none⟩⟩
theorem XE : ∀ {vs : List Value} {c : C} {o : Nat}, (∀ i, i < vs.length → ∃ u, A.get none (o + i) c = some u) → (∀ v ∈ vs, okC v = true) → ∃ c', stn c o vs = some c' ∧ ∀ j, A.get none j c' = if o ≤ j ∧ j < o + vs.length then vs[j - o]? else A.get none j c
 | [], c, o, _, _ => ⟨c, rfl, fun j => by rw [if_neg (by simp)]⟩
 | v :: vs, c, o, h, hv => by
  obtain ⟨u, hu⟩ := h 0 (by simp)
  obtain ⟨c', e, h'⟩ := XE (vs := vs) (c := A.set none (some v) o c) (o := o + 1) (fun i hi => by
   obtain ⟨w, hw⟩ := h (i + 1) (by simpa using hi)
   refine ⟨w, ?_⟩
   rw [A.get_set_ne _ _ (by omega), show o + 1 + i = o + (i + 1) by omega]; exact hw) (fun u hu => hv u (qal _ hu))
  refine ⟨c', ?_, fun j => ?_⟩
  ·show ob (A.get none o c) _ = _
   rw [show o = o + 0 from rfl, hu]
   show (bif okC v then _ else none) = _
   rw [hv v (qas ..)]
   exact e
  ·rw [h' j]
   by_cases hj : j = o
   ·subst hj
    rw [if_neg (by omega), if_pos (by simp), A.get_set_same]; simp
   ·by_cases hk : o + 1 ≤ j ∧ j < o + 1 + vs.length
    ·rw [if_pos hk, if_pos (by simp; omega), show j - o = (j - (o + 1)) + 1 by omega]; simp
    ·rw [if_neg hk, if_neg (by simp; omega), A.get_set_ne _ _ hj]
theorem VO {m : M} {B o n : Nat} {s : Option Nat} {l l' : List Value} {w : Value} (hw : kJ w = some l') (hn : 0 < n) (hl : loads m ⟨B, o, s⟩ n = some l) (hl' : l'.length = n) (hv : ∀ v ∈ l', okC v = true) :
  ∃ m', qO n (.pointer (some ⟨B, o, s⟩)) w m = some (undef, m') ∧ m'.n = m.n ∧ m'.base = m.base ∧ (m.base ≤ B → m'.log = m.log) ∧ (∀ X, X ≠ B → m'.obj X = m.obj X) ∧
   ∀ j u, load1 m' ⟨B, j, u⟩ = if o ≤ j ∧ j < o + n then l'[j - o]? else load1 m ⟨B, j, u⟩ := by
 obtain ⟨h1, h2⟩ := (Qj hn).1 hl
 unfold loads cellsOf at hl
 cases hc : m.obj B with
 | none => rw [hc] at hl; cases hl
 | some O =>
  cases O with
  | map es => rw [hc] at hl; cases hl
  | loop st t nt ps a b pend => rw [hc] at hl; cases hl
  | cells c =>
   have ld : ∀ j u, load1 m ⟨B, j, u⟩ = A.get none j c := fun j u => by unfold load1 cellsOf; rw [hc]; rfl
   obtain ⟨c', e, h'⟩ := XE (vs := l') (c := c) (o := o) (fun i hi => by
    have := h2 i (by omega) none
    rw [ld] at this
    exact ⟨_, this.trans (qaa (by omega))⟩) hv
   refine ⟨m.put B (.cells c'), ?_, M.n_put _ _ _, M.base_put _ _ _, fun hb => ?_, fun X hX => by rw [M.obj_put, if_neg hX], fun j u => ?_⟩
   ·show (ob (kJ w) fun l => bif Nat.beq l.length n then ob (wk m ⟨B, o, s⟩ l) _ else none) = _
    rw [hw]
    show (bif Nat.beq l'.length n then ob (wk m ⟨B, o, s⟩ l') _ else none) = _
    rw [hl', Nat.beq_refl]
    cases l' with
    | nil => simp at hl'; omega
    | cons v vs =>
     show ob (ob (vC (m.obj B)) fun c => ob (stn c o (v :: vs)) fun c' => some (m.put B (.cells c'))) _ = _
     rw [hc]
     show ob (ob (stn c o (v :: vs)) fun c' => some (m.put B (.cells c'))) _ = _
     rw [e]; rfl
   ·cases m with | mk a b bs wl =>
    show note bs B wl = wl
    have h' : Nat.ble bs B = true := qai hb
    unfold note
    rw [h']; rfl
   ·have : load1 (m.put B (.cells c')) ⟨B, j, u⟩ = A.get none j c' := by unfold load1 cellsOf; rw [M.obj_put, if_pos rfl]; rfl
    rw [this, h', hl', ld]
def Alj (v w : Value) : Prop := w = v ∨ ∃ k a b, v = .int k a ∧ w = .int k b
structure SpJ (S : Nat → Prop) (m m' : M) : Prop where
 n : m.n ≤ m'.n
 base : m'.base = m.base
 log : m'.log = m.log
 same : ∀ X, X < m.n → ¬ S X → m'.obj X = m.obj X
 alt : ∀ X, X < m.n → ∀ o s v, load1 m ⟨X, o, s⟩ = some v → ∃ w, load1 m' ⟨X, o, s⟩ = some w ∧ Alj v w
section
variable {S : Nat → Prop} {m m' : M}
theorem SpJ.refl (S : Nat → Prop) (m : M) : SpJ S m m := ⟨qad _, rfl, rfl, fun _ _ _ => rfl, fun X _ o s v h => ⟨v, h, .inl rfl⟩⟩
theorem SpJ.more {m2 : M} (h : SpJ S m m') (hn : m'.n ≤ m2.n) (hb : m2.base = m'.base) (hl : m2.log = m'.log) (ho : ∀ X, X < m.n → m2.obj X = m'.obj X) : SpJ S m m2 :=
 ⟨qam h.n hn, hb.trans h.base, hl.trans h.log, fun X hX hS => (ho X hX).trans (h.same X hX hS), fun X hX o s v hv => by
  obtain ⟨w, h1, h2⟩ := h.alt X hX o s v hv
  exact ⟨w, by rw [← h1]; unfold load1 cellsOf; rw [ho X hX], h2⟩⟩
theorem SpJ.sl (h : SpJ S m m') {X o : Nat} {s : Option Nat} {a : Option Addr} {b c : Nat} (hX : X < m.n) (hv : load1 m ⟨X, o, s⟩ = some (.slice a b c)) : load1 m' ⟨X, o, s⟩ = some (.slice a b c) := by
 obtain ⟨w, h1, h2⟩ := h.alt X hX o s _ hv
 rcases h2 with rfl | ⟨_, _, _, e, _⟩
 ·exact h1
 ·cases e
theorem SpJ.int (h : SpJ S m m') {X o : Nat} {s : Option Nat} {k : IntKind} {a : Int} (hX : X < m.n) (hv : load1 m ⟨X, o, s⟩ = some (.int k a)) : ∃ b, load1 m' ⟨X, o, s⟩ = some (.int k b) := by
 obtain ⟨w, h1, h2⟩ := h.alt X hX o s _ hv
 rcases h2 with rfl | ⟨_, _, b, e, rfl⟩
 ·exact ⟨a, h1⟩
 ·cases e; exact ⟨b, h1⟩
theorem SpJ.put (h : SpJ S m m') {X o : Nat} {s : Option Nat} {k : IntKind} {a b : Int} (hX : X < m.n) (hS : S X) (hb : m.base ≤ X) (hv : load1 m ⟨X, o, s⟩ = some (.int k a)) :
  ∃ m2, qO 1 (.pointer (some ⟨X, o, s⟩)) (.int k b) m' = some (undef, m2) ∧ SpJ S m m2 := by
 obtain ⟨b', hv'⟩ := h.int hX hv
 have hl : loads m' ⟨X, o, s⟩ 1 = some [.int k b'] := (Qj (by omega)).2 ⟨rfl, fun i hi s' => by
  obtain rfl : i = 0 := by omega
  exact hv'⟩
 obtain ⟨m2, s1, s2, s3, s4, s5, s6⟩ := VO (w := .int k b) (l' := [.int k b]) rfl (by omega) hl rfl (by simp [okC])
 refine ⟨m2, s1, by rw [s2]; exact h.n, s3.trans h.base, (s4 (by rw [h.base]; exact hb)).trans h.log, fun Y hY hSY => (s5 Y fun e => hSY (e ▸ hS)).trans (h.same Y hY hSY), fun Y hY j u v hv2 => ?_⟩
 by_cases hYX : Y = X
 ·subst hYX
  rw [s6]
  by_cases hj : o ≤ j ∧ j < o + 1
  ·rw [if_pos hj]
   obtain rfl : j = o := by omega
   have e : load1 m ⟨Y, j, u⟩ = load1 m ⟨Y, j, s⟩ := rfl
   rw [e, hv] at hv2
   cases hv2
   exact ⟨.int k b, by simp, .inr ⟨k, a, b, rfl, rfl⟩⟩
  ·rw [if_neg hj]; exact h.alt Y hY j u v hv2
 ·obtain ⟨w, q1, q2⟩ := h.alt Y hY j u v hv2
  exact ⟨w, by rw [← q1]; unfold load1 cellsOf; rw [s5 Y hYX], q2⟩
theorem Rd.cell {α : Type} {v : Value} {e : Nat} {f : α → List Value} {es : List α} (h : Rd m v e f es) {i : Nat} {r : α} (hr : es[i]? = some r) {j : Nat} {w : Value} (hw : (f r)[j]? = some w) (s : Option Nat) : load1 m ⟨(adr e v i).block, (adr e v i).off + j, s⟩ = some w :=
 jy (h.row i r hr).2.2 hw
end
end Go.Dx
namespace Go.Sx
open Go.Dx Go.Proofs
structure TS where
 loc : Nat
 acts : List AB
 outs : List Nat
abbrev fenA (f : Int) : AB := (7, 0, 0, f, none)
abbrev stA (c : Nat) (m : Int) (v : Nat) : AB := (3, 0, c, m, some (1, v))
abbrev ldA (d c : Nat) (m : Int) : AB := (2, d, c, m, none)
def evF (f : Int) : List AB := if f = 0 then [] else [fenA f]
def zo (es : List (Int × Int)) (ms : List Int) (CE VA : Nat → Nat) (i : Nat) (s : TS) : TS :=
 if qy es i then ⟨s.loc, s.acts ++ evF (fc es i) ++ [stA (CE i) (mAt ms i) (VA i)], s.outs⟩ else ⟨s.loc + 1, s.acts ++ evF (fc es i) ++ [ldA s.loc (CE i) (mAt ms i)], s.outs ++ [VA i]⟩
def wG (es : List (Int × Int)) (ms : List Int) (TH CE VA : Nat → Nat) (S : Nat → TS) (i : Nat) : Nat → TS := upN S (TH i) (zo es ms CE VA i (S (TH i)))
def WJ (m1 m : M) (u : WB) (N nt : Nat) (fv : Value) (S : Nat → TS) (L : Nat) : Prop := ∃ loc va vo A O tag, WI m1 m u N nt fv loc va vo A O tag ∧ tag L = 0 ∧ ∀ j, j < nt → loc j = (S j).loc ∧ (A j).map AR.era = (S j).acts ∧ O j = (S j).outs
theorem WJ.step {m1 m m' : M} {u : WB} {N nt : Nat} {fv : Value} {S : Nat → TS} {L : Nat} (h : WJ m1 m u N nt fv S L) (e : Ext m m') : WJ m1 m' u N nt fv S L := let ⟨a, b, c, d, f, g, h1, h2, h3⟩ := h; ⟨a, b, c, d, f, g, h1.step e, h2, h3⟩
theorem WJ.putL {m1 m : M} {u : WB} {N nt : Nat} {fv : Value} {S : Nat → TS} {L : Nat} (h : WJ m1 m u N nt fv S L) (hL : ∀ b ∈ [u.W, u.TB, u.OB, u.P9, u.P8, u.q5], b ≠ L) (h0 : m1.n ≤ L) (o : zw) : WJ m1 (m.put L o) u N nt fv S L :=
 let ⟨a, b, c, d, f, g, h1, h2, h3⟩ := h; ⟨a, b, c, d, f, g, h1.putL (fun p hp => hL p.1 (by unfold WB.σ at hp; simp at hp ⊢; rcases hp with rfl | rfl | rfl | rfl | rfl | rfl <;> simp)) h0 h2 o, h2, h3⟩
theorem Bq (n : Nat) {m1 m : M} {u : WB} {N nt : Nat} {fv : Value} {S : Nat → TS} {L : Nat} {PB A5 A6 A7 c1 : Nat} {ed ec md : Value} {es : List (Int × Int)} {ms : List Int} {TH CE VA : Nat → Nat} (hl : es.length ≤ 16) (hb1 : m1.base ≤ m1.n) (hLF : LF m1 PB A5 A6 A7 c1 ed ec md es ms TH CE VA) (hok : ∀ (i : Nat) e, es[i]? = some e → kV e = false) (hPB : u.PB = PB)
  {i : Nat} (hi : i < es.length) (hml : ms.length = es.length) (hjn : TH i < nt) (h : WJ m1 m u N nt fv S L) (hbd : ∀ j, (S j).loc ≤ 900 ∧ (S j).acts.length ≤ 900 ∧ (S j).outs.length ≤ 900) {T : Tm} (t1 : Tm.get 1 T = .pointer (some ⟨c1, 0, none⟩)) (t5 : Tm.get 5 T = .pointer (some ⟨u.q5, 0, none⟩)) (t8 : Tm.get 8 T = .pointer (some ⟨u.P8, 0, none⟩)) (t9 : Tm.get 9 T = .pointer (some ⟨u.P9, 0, none⟩))
  (hLm : L < m.n) (hLb : ∀ b ∈ [u.W, u.TB, u.OB, u.P9, u.P8, u.q5], b ≠ L) :
  Rnd (fun e m2 => e = none ∧ m2.obj L = m.obj L ∧ m.n ≤ m2.n ∧ WJ m1 m2 u N nt fv (wG es ms TH CE VA S i) L) (WN (ex Try.prog (n + 2)) (wR none) zf (wR (some E.ret)) (Tm.set 10 (iv i) (Tm.set 47 (iv i) T)) m) := by
 suffices H : ∀ P : Option E → M → Prop, (∀ m2, m2.obj L = m.obj L → m.n ≤ m2.n → WJ m1 m2 u N nt fv (wG es ms TH CE VA S i) L → P none m2) → Rnd P (WN (ex Try.prog (n + 2)) (wR none) zf (wR (some E.ret)) (Tm.set 10 (iv i) (Tm.set 47 (iv i) T)) m) from H _ fun m2 a b c => ⟨rfl, a, b, c⟩
 intro P hP
 obtain ⟨loc, va, vo, A, O, tag, h, hL, hSj⟩ := h
 obtain ⟨j, hj⟩ : ∃ j, TH i = j := ⟨_, rfl⟩
 rw [hj] at hjn
 obtain ⟨s1, s2, s3⟩ := hSj j hjn
 obtain ⟨b1, b2, b3⟩ := hbd j
 have hAl : (A j).length ≤ 900 := by have := congrArg List.length s2; rw [List.length_map] at this; omega
 have hOl : (O j).length ≤ 900 := by rw [s3]; omega
 have hS := h.st.sees
 have lf := hLF.sees hS
 have lq := h.lq
 rw [hPB] at lq
 have l8 := h.lt8
 have x5 := zX (e := 1) (c := 3) A5 es.length i hi
 rw [Nat.mul_one] at x5
 have z5 := lf.a5 i hi
 rw [hj] at z5
 have xT := zX (e := 2) (c := 5) u.TB nt j hjn
 obtain ⟨v2, m2, g1, g2, rfl⟩ := KQ n PB ed es i hi (by omega) m hS.base lf.lP lf.p0 lf.hed
 obtain ⟨f, hf⟩ := qay (fc es i)
 have hf' : (eAt es (ahN es.length i)).2 = f := by rw [hf]; rfl
 rw [hf'] at g1
 have h2 := h.step g2
 have hLT : L ≠ u.TB := fun e => hLb u.TB (by simp) e.symm
 have hLO : L ≠ u.OB := fun e => hLb u.OB (by simp) e.symm
 unfold WN
 simp [t5, t8, lq, l8, lf.p5, x5, z5, xT, g1, -fV]
 have fin : ∀ (m3 : M) (A3 : Nat → List AR) va3 tag3 t, WI m1 m3 u N nt fv loc va3 vo A3 O tag3 → m.n ≤ m3.n → m3.obj L = m.obj L → tag3 L = 0 → (A3 j).map AR.era = (A j).map AR.era ++ evF f → (∀ k, k ≠ j → A3 k = A k) → (A3 j).length ≤ 1000 →
   Tm.get 1 t = .pointer (some ⟨c1, 0, none⟩) → Tm.get 5 t = .pointer (some ⟨u.q5, 0, none⟩) → Tm.get 9 t = .pointer (some ⟨u.P9, 0, none⟩) → Tm.get 10 t = iv i → Tm.get 11 t = .pointer (some ⟨u.TB, j * 2, none⟩) →
   Rnd P (QR (ex Try.prog (n + 2)) (wR none) (zu 1 (wR none) zf) (wR (some E.ret)) t m3) := by
  intro m3 A3 va3 tag3 t w n3 o3 g3 e3 k3 l3 q1 q5 q9 q10 q11
  refine DB n hb1 hLF hok hPB hi hml hj hjn w l3 (by omega) (by omega) q1 q5 q9 q10 q11 g3 (by omega) hLT hLO P fun m4 va4 vo4 tag4 r w4 n4 o4 g4 er => hP m4 (o4.trans o3) (by omega) ⟨_, _, _, _, _, _, w4, g4, fun k hk => ?_⟩
  by_cases e : k = j
  ·subst e
   have hw : wG es ms TH CE VA S i k = zo es ms CE VA i (S k) := by unfold wG; rw [hj, qK]
   rw [hw, qK, List.map_append, e3, s2]
   unfold zo
   rw [← hf]
   cases hfr : qy es i with
   | true =>
    rw [hfr] at er
    simp only [if_true] at er ⊢
    exact ⟨s1, by simp [er], s3⟩
   | false =>
    rw [hfr] at er
    simp only [Bool.false_eq_true, if_false] at er ⊢
    rw [qK, qK]
    exact ⟨by rw [s1], by simp [er, s1], by rw [s3]⟩
  ·have hw : wG es ms TH CE VA S i k = S k := by unfold wG; rw [hj, wz _ _ e]
   obtain ⟨k1, k2, k3'⟩ := hSj k hk
   rw [hw, wz _ _ e, k3 k e]
   refine ⟨?_, k2, ?_⟩
   ·split
    ·exact k1
    ·rw [wz _ _ e]; exact k1
   ·split
    ·exact k3'
    ·rw [wz _ _ e]; exact k3'
 by_cases hz : f = 0
 ·simp [hz, -fV]
  refine fin m2 A va tag _ h2 g2.n (g2.obj L hLm) hL (by rw [hz]; simp [evF]) (fun _ _ => rfl) (by omega) ?_ ?_ ?_ ?_ ?_
  ·simp [t1]
  ·simp [t5]
  ·simp [t9]
  ·simp
  ·simp
 ·have lva := h2.lva hjn
  obtain ⟨M3, hM3⟩ := qay (Dx.newRow m2 [iv 7, iv 0, iv 0, iv 0, .slice none 0 0, .slice none 0 0, .slice none 0 0, iv f, iv 0, iv 0, iv 0])
  have E3 : Ext m2 M3 := by rw [hM3]; exact Ext.row _ _
  obtain ⟨v', m4, m5, p1, p2, tag', p3, p4, p5⟩ := h2.act hb1 hjn ⟨7, 0, 0, f, none⟩ E3 (fun B op v hB => by cases hB) (X := m2.n) (sp := some 23) (by rw [hM3]; exact (Arr.row m2 _).loads (by simp)) (by omega)
  simp [hz, lva, ← hM3, p1, p2, -fV]
  have hL2 : L < m2.n := by have := g2.n; omega
  refine fin m5 _ _ tag' _ p3 (by have := g2.n; have := E3.n; omega) (by rw [(p5 L hL2 hL).2 hLT, g2.obj L hLm]) (p5 L hL2 hL).1 (by rw [qK]; simp [evF, hz, AR.era]) (fun k hk => by rw [wz _ _ hk]) (by rw [qK]; simp; omega) ?_ ?_ ?_ ?_ ?_
  ·simp [t1]
  ·simp [t5]
  ·simp [t9]
  ·simp
  ·simp
end Go.Sx
namespace Go.Dx
@[simp] theorem DJ (o : Int) (a : Option Addr) (x y : Nat) : ko [.int .i64 0, .int .i64 0, .int .i64 0, .int .i64 0, .slice none 0 0, .slice none 0 0, .slice none 0 0, .int .i64 0, .int .i64 0, .int .i64 0, .int .i64 0] [(0, 1, .int .i64 o), (5, 1, .slice a x y)] =
  some (.agg ⟨[.int .i64 o, .int .i64 0, .int .i64 0, .int .i64 0, .slice none 0 0, .slice a x y, .slice none 0 0, .int .i64 0, .int .i64 0, .int .i64 0, .int .i64 0]⟩) := _root_.id rfl
end Go.Dx
namespace Go.Sx
open Go.Dx Go.Proofs
def WK (m1 m : M) (u : WB) (N nt : Nat) (fv : Value) (S : Nat → TS) : Prop := ∃ loc va vo A O tag, WI m1 m u N nt fv loc va vo A O tag ∧ ∀ j, j < nt → loc j = (S j).loc ∧ (A j).map AR.era = (S j).acts ∧ O j = (S j).outs
theorem WJ.toK {m1 m : M} {u : WB} {N nt : Nat} {fv : Value} {S : Nat → TS} {L : Nat} (h : WJ m1 m u N nt fv S L) : WK m1 m u N nt fv S := let ⟨a, b, c, d, f, g, h1, _, h3⟩ := h; ⟨a, b, c, d, f, g, h1, h3⟩
theorem WK.congr {m1 m : M} {u : WB} {N nt : Nat} {fv : Value} {S S' : Nat → TS} (h : WK m1 m u N nt fv S) (e : ∀ j, j < nt → S' j = S j) : WK m1 m u N nt fv S' := let ⟨a, b, c, d, f, g, h1, h3⟩ := h; ⟨a, b, c, d, f, g, h1, fun j hj => by rw [e j hj]; exact h3 j hj⟩
abbrev prA (k : Nat) : AB := (8, 0, 0, 0, some (2, k))
def xW (q : Nat) : List AB := (List.range q).map prA
theorem gO (q : Nat) : xW (q + 1) = xW q ++ [prA q] := by unfold xW; rw [List.range_succ, List.map_append]; rfl
theorem yI (q : Nat) : (xW q).length = q := by unfold xW; simp
def TS.pr (s : TS) (q : Nat) : TS := ⟨s.loc, s.acts ++ xW q, s.outs⟩
def TS.fin (s : TS) : TS := s.pr s.loc
theorem Bp (n : Nat) {m1 : M} {u : WB} {N nt : Nat} {fv : Value} (hb1 : m1.base ≤ m1.n) {S : Nat → TS} (hbd : ∀ j, (S j).loc ≤ 400 ∧ (S j).acts.length ≤ 400) {p : Nat} (hp : p < nt) (Q : Option Out → Prop) (kn0 kn kr : K) (ke : Nat → K) (t : Tm) (m : M)
  (h14 : Tm.get 14 t = .pointer (some ⟨u.TB, p * 2, none⟩)) (h187 : Tm.get 187 t = iv (S p).loc) (h188 : Tm.get 188 t = iv 0) (h : WK m1 m u N nt fv S) (I : Tm → Prop) (hI : I t) (hIk : ∀ t i v, I t → i ∉ [2, 3, 5, 8, 9, 176, 177] → I (Tm.set i v t))
  (hq : ∀ t m, I t → WK m1 m u N nt fv (upN S p (S p).fin) → Q (kn t m)) : Q (Zs (ex Try.prog n) kn0 (zu 4 kn ke) kr t m) := by
 obtain ⟨q0, hq0⟩ := qay ((S p).loc)
 have hq400 : q0 ≤ 400 := by rw [hq0]; exact (hbd p).1
 rw [← hq0] at h187
 refine qu (c := Zs) rfl Q (fun i t m' => Tm.get 14 t = .pointer (some ⟨u.TB, p * 2, none⟩) ∧ Tm.get 187 t = iv q0 ∧ Tm.get 188 t = iv i ∧ I t ∧ WK m1 m' u N nt fv (upN S p ((S p).pr i))) q0 (by omega)
  ⟨h14, h187, h188, hI, h.congr fun j hj => ?_⟩ (fun i t m' k hi hJ hk => ?_)
 ·by_cases e : j = p
  ·subst e; rw [qK]; simp [TS.pr, xW]
  ·rw [wz _ _ e]
 obtain ⟨h14, h187, h188, hI, hW⟩ := hJ
 by_cases hil : i < q0
 ·obtain ⟨loc, va, vo, A, O, tag, w, hS⟩ := hW
  obtain ⟨s1, s2, s3⟩ := hS p hp
  rw [qK] at s1 s2 s3
  have hAl : (A p).length ≤ 1000 := by
   have := congrArg List.length s2
   rw [List.length_map] at this
   simp only [TS.pr, qak, yI] at this
   have := (hbd p).2
   omega
  have hd := dlt hil
  have w1 := qS (i := i) (by omega)
  have cvv := vQ i (by omega)
  have lva := w.lva hp
  obtain ⟨M1, hM1⟩ := qay (Dx.newRow m' [iv 2, .int .u64 i, iv 0, iv 0])
  have n1 : M1.n = m'.n + 1 := by rw [hM1, qn]
  obtain ⟨M2, hM2⟩ := qay (Dx.newRow M1 [iv 8, iv 0, iv 0, iv 0, .slice none 0 0, .slice (some ⟨m'.n, 0, some 9⟩) 1 1, .slice none 0 0, iv 0, iv 0, iv 0, iv 0])
  have E1 : Ext m' M1 := by rw [hM1]; exact Ext.row _ _
  have E2 : Ext M1 M2 := by rw [hM2]; exact Ext.row _ _
  have hA1 : Arr M2 m'.n (zi 2 i) := by
   have : Arr M1 m'.n (zi 2 i) := by rw [hM1]; exact Arr.row m' _
   exact this.ext E2 (by omega)
  obtain ⟨v', m4, m5, p1, p2, tag', p3, p4, p5⟩ := w.act hb1 hp ⟨8, 0, 0, 0, some (m'.n, 2, i)⟩ (E1.trans E2) (fun B op v hB => by cases hB; exact ⟨qad _, by have := E2.n; omega, hA1⟩) (X := M1.n) (sp := some 23) (by rw [hM2]; exact (Arr.row M1 _).loads (by simp)) hAl
  rw [n1] at p1
  simp [h14, h187, h188, hd, lva, cvv, ← hM1, n1, ← hM2, p1, p2, w1]
  refine hk hil _ _ ⟨by simp [h14], by simp [h187], by simp, ?_, _, _, _, _, _, tag', p3, fun j hj => ?_⟩
  ·repeat' (first | exact hI | refine hIk _ _ _ ?_ (by simp))
  ·by_cases e : j = p
   ·subst e
    rw [qK, qK]
    refine ⟨s1, ?_, s3⟩
    rw [List.map_append, s2]
    simp [TS.pr, gO, AR.era]
   ·have := hS j hj
    rw [wz _ _ e] at this ⊢
    rw [wz _ _ e]
    exact this
 ·obtain rfl : i = q0 := by omega
  have hd : ((i : Int) < (i : Int)) = False := eq_false (by omega)
  simp [h187, h188, hd]
  refine hq _ _ ?_ ?_
  ·repeat' (first | exact hI | refine hIk _ _ _ ?_ (by simp))
  ·rw [hq0] at hW; exact hW
theorem VR (n : Nat) {m1 : M} {u : WB} {N nt : Nat} {fv : Value} (hnt : nt ≤ 16) (hb1 : m1.base ≤ m1.n) {S : Nat → TS} (hbd : ∀ j, (S j).loc ≤ 100 ∧ (S j).acts.length ≤ 100) (Q : Option Out → Prop) (kn0 kn kr : K) (ke : Nat → K) (t : Tm) (m : M) {P2 P3 : Nat}
  (t2 : Tm.get 2 t = .pointer (some ⟨P2, 0, none⟩)) (t3 : Tm.get 3 t = .pointer (some ⟨P3, 0, none⟩)) (t5 : Tm.get 5 t = .pointer (some ⟨u.q5, 0, none⟩)) (t8 : Tm.get 8 t = .pointer (some ⟨u.P8, 0, none⟩)) (t9 : Tm.get 9 t = .pointer (some ⟨u.P9, 0, none⟩))
  (h176 : Tm.get 176 t = iv nt) (h177 : Tm.get 177 t = iv 0) (h : WK m1 m u N nt fv S)
  (hq : ∀ t m, Tm.get 2 t = .pointer (some ⟨P2, 0, none⟩) → Tm.get 3 t = .pointer (some ⟨P3, 0, none⟩) → Tm.get 5 t = .pointer (some ⟨u.q5, 0, none⟩) → Tm.get 9 t = .pointer (some ⟨u.P9, 0, none⟩) → Tm.get 8 t = .pointer (some ⟨u.P8, 0, none⟩) → WK m1 m u N nt fv (fun j => (S j).fin) → Q (kn t m)) : Q (Zt (ex Try.prog n) kn0 (zu 2 kn ke) kr t m) := by
 refine qu (c := Zt) rfl Q (fun i t m' => (Tm.get 2 t = .pointer (some ⟨P2, 0, none⟩) ∧ Tm.get 3 t = .pointer (some ⟨P3, 0, none⟩) ∧ Tm.get 5 t = .pointer (some ⟨u.q5, 0, none⟩) ∧ Tm.get 8 t = .pointer (some ⟨u.P8, 0, none⟩) ∧ Tm.get 9 t = .pointer (some ⟨u.P9, 0, none⟩) ∧ Tm.get 176 t = iv nt) ∧ Tm.get 177 t = iv i ∧
   WK m1 m' u N nt fv (fun j => if j < i then (S j).fin else S j)) nt (by omega)
  ⟨⟨t2, t3, t5, t8, t9, h176⟩, h177, h.congr fun j hj => by simp⟩ (fun i t m' k hi hJ hk => ?_)
 obtain ⟨⟨t2, t3, t5, t8, t9, h176⟩, h177, hW⟩ := hJ
 by_cases hil : i < nt
 ·have hd := dlt hil
  have w1 := qS (i := i) (by omega)
  have xT := zX (e := 2) (c := 5) u.TB nt i hil
  have ⟨l8, ll⟩ : load1 m' ⟨u.P8, 1, none⟩ = some (.slice (some ⟨u.TB, 0, some 5⟩) nt nt) ∧ load1 m' ⟨u.TB, i * 2, none⟩ = some (iv (S i).loc) := by
   obtain ⟨loc, va, vo, A, O, tag, w, hS⟩ := hW
   have := (hS i hil).1
   simp only [Nat.lt_irrefl, if_false] at this
   exact ⟨w.lt8, by rw [w.lloc hil, this]⟩
  simp [t8, h176, h177, hd, l8, ll, xT]
  refine Bp n hb1 (S := fun j => if j < i then (S j).fin else S j) (fun j => ?_) hil Q _ _ _ _ _ _ ?_ ?_ ?_ hW
   (fun t => (Tm.get 2 t = .pointer (some ⟨P2, 0, none⟩) ∧ Tm.get 3 t = .pointer (some ⟨P3, 0, none⟩) ∧ Tm.get 5 t = .pointer (some ⟨u.q5, 0, none⟩) ∧ Tm.get 8 t = .pointer (some ⟨u.P8, 0, none⟩) ∧ Tm.get 9 t = .pointer (some ⟨u.P9, 0, none⟩) ∧ Tm.get 176 t = iv nt) ∧ Tm.get 177 t = iv i)
   ?_ (fun t i v h hm => ?_) (fun t m hI hW' => ?_)
  ·have := hbd j
   split
   ·simp only [TS.fin, TS.pr, qak, yI]; omega
   ·omega
  ·simp
  ·simp
  ·simp
  ·exact ⟨⟨by simp [t2], by simp [t3], by simp [t5], by simp [t8], by simp [t9], by simp [h176]⟩, by simp [h177]⟩
  ·simp only [List.mem_cons, List.not_mem_nil, or_false, not_or] at hm
   obtain ⟨a1, a2, a3, a4, a5, a6, a7⟩ := hm
   simp only [vS]
   rw [if_neg (Ne.symm a1), if_neg (Ne.symm a2), if_neg (Ne.symm a3), if_neg (Ne.symm a4), if_neg (Ne.symm a5), if_neg (Ne.symm a6), if_neg (Ne.symm a7)]
   exact h
  ·obtain ⟨⟨t2, t3, t5, t8, t9, h176⟩, h177⟩ := hI
   simp [h177, w1]
   refine hk hil _ _ ⟨⟨by simp [t2], by simp [t3], by simp [t5], by simp [t8], by simp [t9], by simp [h176]⟩, by simp, hW'.congr fun j hj => ?_⟩
   by_cases e : j = i
   ·subst e; rw [qK]; simp
   ·rw [wz _ _ e]
    by_cases h' : j < i
    ·rw [if_pos (by omega), if_pos h']
    ·rw [if_neg (by omega), if_neg h']
 ·obtain rfl : i = nt := by omega
  have hd : ((i : Int) < (i : Int)) = False := eq_false (by omega)
  simp [h176, h177, hd]
  exact hq _ _ (by simp [t2]) (by simp [t3]) (by simp [t5]) (by simp [t9]) (by simp [t8]) (hW.congr fun j hj => by rw [if_pos hj])
end Go.Sx
namespace Go.Sx
open Go.Dx Go.Proofs
theorem Bo (n : Nat) {m1 m5 : M} {u : WB} {N nt : Nat} (hN : N ≤ 16) (hb1 : m1.base ≤ m1.n) {A8 : Nat} (h8m : A8 < m1.n) {WR : Nat → Nat} (hsm : ∀ x, WR x < 1000000) (h8 : ∀ x, x < N → load1 m1 ⟨A8, x, none⟩ = some (iv (WR x))) {loc : Nat → Nat} {va vo : Nat → Value} (h : St m1 m5 (u.σ N nt (.slice none 0 0) loc va vo)) (Q : Option Out → Prop) (kn0 kn kr : K) (ke : Nat → K) (t : Tm) {P2 P3 : Nat}
  (t2 : Tm.get 2 t = .pointer (some ⟨P2, 0, none⟩)) (t3 : Tm.get 3 t = .pointer (some ⟨P3, 0, none⟩)) (t8 : Tm.get 8 t = .pointer (some ⟨u.P8, 0, none⟩)) (t9 : Tm.get 9 t = .pointer (some ⟨u.P9, 0, none⟩)) (h210 : Tm.get 210 t = .slice (some ⟨A8, 0, some 3⟩) N N) (h211 : Tm.get 211 t = iv N) (h212 : Tm.get 212 t = iv 0)
  (hq : ∀ t m fv, Tm.get 2 t = .pointer (some ⟨P2, 0, none⟩) → Tm.get 3 t = .pointer (some ⟨P3, 0, none⟩) → Tm.get 8 t = .pointer (some ⟨u.P8, 0, none⟩) → Tm.get 9 t = .pointer (some ⟨u.P9, 0, none⟩) → St m1 m (u.σ N nt fv loc va vo) → Grown m1 m fv 1 kA ((List.range N).map WR) → (∀ B, blk fv = some B → m5.n ≤ B) → m5.n ≤ m.n → (∀ B, B < m5.n → B ≠ u.P9 → m.obj B = m5.obj B) → Q (kn t m)) :
  Q (Zu (ex Try.prog n) kn0 (zu 6 kn ke) kr t m5) := by
 refine qu (c := Zu) rfl Q (fun i t m' => (Tm.get 2 t = .pointer (some ⟨P2, 0, none⟩) ∧ Tm.get 3 t = .pointer (some ⟨P3, 0, none⟩) ∧ Tm.get 8 t = .pointer (some ⟨u.P8, 0, none⟩) ∧ Tm.get 9 t = .pointer (some ⟨u.P9, 0, none⟩) ∧ Tm.get 210 t = .slice (some ⟨A8, 0, some 3⟩) N N ∧ Tm.get 211 t = iv N) ∧ Tm.get 212 t = iv i ∧
   ∃ fv, St m1 m' (u.σ N nt fv loc va vo) ∧ Grown m1 m' fv 1 kA ((List.range i).map WR) ∧ (∀ B, blk fv = some B → m5.n ≤ B) ∧ m5.n ≤ m'.n ∧ ∀ B, B < m5.n → B ≠ u.P9 → m'.obj B = m5.obj B) N (by omega)
  ⟨⟨t2, t3, t8, t9, h210, h211⟩, h212, _, h, by simpa using Grown.nil, fun B hB => by (cases hB), qad _, fun _ _ _ => rfl⟩ (fun i t m' k hi hJ hk => ?_)
 obtain ⟨⟨t2, t3, t8, t9, h210, h211⟩, h212, fv, st, hG, hfv, hn5, ho⟩ := hJ
 by_cases hil : i < N
 ·have hd := dlt hil
  have w1 := qS (i := i) (by omega)
  have x8 := zX (e := 1) (c := 3) A8 N i hil
  rw [Nat.mul_one] at x8
  have l8 : load1 m' ⟨A8, i, none⟩ = some (iv (WR i)) := (qv st.sees h8m).trans (h8 i hil)
  obtain ⟨w, hw⟩ := qay (WR i)
  have cvv := vQ w (by rw [hw]; exact hsm i)
  rw [← hw] at l8
  have lf : load1 m' ⟨u.P9, 0, none⟩ = some fv := by rw [(st.get 3 rfl).2.2.load1]; rfl
  obtain ⟨M1, hM1⟩ := qay (Dx.newRow m' [.int .u64 w])
  have E1 : Ext m' M1 := by rw [hM1]; exact Ext.row _ _
  have hlen : ((List.range i).map WR).length = i := by simp
  obtain ⟨v', m2, p1, p2, p3, p4, p5, p6⟩ := (hG.ext E1).append (st.ext.trans E1) hb1 (by omega) xO Qt (x := w) (X := m'.n) (sp := some 3) (by rw [hM1]; exact (Arr.row m' _).loads (by simp)) (bytes := 8) (by rw [hlen]; unfold most; omega) (by rw [hlen]; omega)
  have hE1n := E1.n
  have st2 : St m1 m2 (u.σ N nt fv loc va vo) := (st.step E1).keepOn p2 p4 fun p hp => p5 p.1 (by have := (st.arr p hp).2.1; omega) fun hc => by
   have := hfv _ hc
   have hp' : p.1 ∈ (u.σ N nt (.slice none 0 0) loc va vo).map (·.1) := by
    have e : (u.σ N nt (.slice none 0 0) loc va vo).map (·.1) = (u.σ N nt fv loc va vo).map (·.1) := rfl
    rw [e]; exact List.mem_map.2 ⟨_, hp, rfl⟩
   obtain ⟨q, hq, e⟩ := List.mem_map.1 hp'
   have := (h.arr q hq).2.1
   omega
  obtain ⟨m3, s1, s2, s3, s4⟩ := st2.store 3 rfl (o := 0) (v := v') (by simp) p3.okC
  have h9m : u.P9 < m5.n := (h.get 3 rfl).2.1
  simp [t2, t3, t8, t9, h210, h211, h212, hd, x8, l8, lf, cvv, ← hM1, p1, s1, w1]
  refine hk hil _ _ ⟨⟨by simp [t2], by simp [t3], by simp [t8], by simp [t9], by simp [h210], by simp [h211]⟩, by simp, v', s2, ?_, fun B hB => by have := p6 B hB; omega, by omega, fun B hB hne => ?_⟩
  ·have e : (List.range (i + 1)).map WR = (List.range i).map WR ++ [w] := by rw [List.range_succ, List.map_append, hw]; rfl
   rw [e]
   exact p3.keep (by omega) fun B hB hb => s4 B (by have := p6 B hb; omega)
  ·rw [s4 B hne, p5 B (by omega) (fun hc => by have := hfv B hc; omega), E1.obj B (by omega)]
   exact ho B hB hne
 ·obtain rfl : i = N := by omega
  have hd : ((i : Int) < (i : Int)) = False := eq_false (by omega)
  simp [h211, h212, hd]
  exact hq _ _ fv (by simp [t2]) (by simp [t3]) (by simp [t8]) (by simp [t9]) st hG hfv hn5 ho
end Go.Sx
