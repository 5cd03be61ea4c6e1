/- Contracts. -/
import Derived.Test.YtblkdbffpjlkaaaGreatGe
import Derived.Test.YtblkdbffpjlkaaaGreatGb1
import Derived.Test.YtblkdbffpjlkaaaGreatGc
import Derived.Test.YtblkdbffpjlkaaaGreatGg
set_option linter.unusedVariables false
set_option linter.unusedSimpArgs false
set_option linter.defProp false
/- The reference's answer whether a program is whole: its small functions. -/
namespace Go.Sx
open Go.Dx Go.Proofs
set_option maxRecDepth 10000
theorem May_c (n : Nat) (op mode : Int) (m : M) : CallV (ex Tryz.prog (n + 1)) 55 [iv op, iv mode] m (.bool (mayB op mode)) := by
  refine call_ret de0_ok (by simp) ?_
  have E := Ext.refl m
  by_cases h2 : op = 2
  · subst h2
    by_cases q1 : mode = 1
    · subst q1; simp; exact ret_1 E (by simp [mayB])
    by_cases q2 : mode = 2
    · subst q2; simp; exact ret_1 E (by simp [mayB])
    simp [q1, q2]; exact ret_1 E (by simp [mayB, q1, q2])
  by_cases h3 : op = 3
  · subst h3
    by_cases q1 : mode = 1
    · subst q1; simp; exact ret_1 E (by simp [mayB])
    by_cases q2 : mode = 3
    · subst q2; simp; exact ret_1 E (by simp [mayB])
    simp [q1, q2]; exact ret_1 E (by simp [mayB, q1, q2])
  by_cases h4 : op = 4
  · subst h4
    by_cases q1 : 1 ≤ mode
    · have q1' : (1 ≤ mode) = True := eq_true q1
      simp [q1']; exact ret_1 E (by simp [mayB, q1'])
    · have q1' : (1 ≤ mode) = False := eq_false q1
      simp [q1']; exact ret_1 E (by simp [mayB, q1'])
  by_cases h5 : op = 5
  · subst h5
    by_cases q1 : 1 ≤ mode
    · have q1' : (1 ≤ mode) = True := eq_true q1
      simp [q1']; exact ret_1 E (by simp [mayB, q1'])
    · have q1' : (1 ≤ mode) = False := eq_false q1
      simp [q1']; exact ret_1 E (by simp [mayB, q1'])
  by_cases h6 : op = 6
  · subst h6
    by_cases q1 : 1 ≤ mode
    · have q1' : (1 ≤ mode) = True := eq_true q1
      simp [q1']; exact ret_1 E (by simp [mayB, q1'])
    · have q1' : (1 ≤ mode) = False := eq_false q1
      simp [q1']; exact ret_1 E (by simp [mayB, q1'])
  by_cases h7 : op = 7
  · subst h7
    by_cases q1 : 2 ≤ mode
    · have q1' : (2 ≤ mode) = True := eq_true q1
      simp [q1']; exact ret_1 E (by simp [mayB, q1'])
    · have q1' : (2 ≤ mode) = False := eq_false q1
      simp [q1']; exact ret_1 E (by simp [mayB, q1'])
  simp [h2, h3, h4, h5, h6, h7]; exact ret_1 E (by simp [mayB, h2, h3, h4, h5, h6, h7])
theorem sets_c (n : Nat) (op : Int) (m : M) : CallV (ex Tryz.prog (n + 1)) 56 [iv op] m (.bool (pD op)) := by
  refine call_ret de1_ok (by simp) ?_
  have E := Ext.refl m
  by_cases h1 : op = 1
  · subst h1; simp; exact ret_1 E (by simp [pD])
  by_cases h2 : op = 2
  · subst h2; simp; exact ret_1 E (by simp [pD])
  by_cases h3 : op = 4
  · subst h3; simp; exact ret_1 E (by simp [pD])
  by_cases h4 : op = 5
  · subst h4; simp; exact ret_1 E (by simp [pD])
  have d1 : decide (op = 1) = false := decide_eq_false h1
  have d2 : decide (op = 2) = false := decide_eq_false h2
  have d3 : decide (op = 4) = false := decide_eq_false h3
  have d4 : decide (op = 5) = false := decide_eq_false h4
  simp [d1, d2, d3, d4]
  exact ret_1 E (by simp [pD, h1, h2, h3, h4])
theorem placed_c (n : Nat) (op : Int) (m : M) : CallV (ex Tryz.prog (n + 1)) 57 [iv op] m (.bool (pP op)) := by
  refine call_ret de2_ok (by simp) ?_
  have E := Ext.refl m
  by_cases h1 : op = 2
  · subst h1; simp; exact ret_1 E (by simp [pP])
  by_cases h2 : op = 3
  · subst h2; simp; exact ret_1 E (by simp [pP])
  by_cases h3 : op = 4
  · subst h3; simp; exact ret_1 E (by simp [pP])
  by_cases h4 : op = 5
  · subst h4; simp; exact ret_1 E (by simp [pP])
  have d1 : decide (op = 2) = false := decide_eq_false h1
  have d2 : decide (op = 3) = false := decide_eq_false h2
  have d3 : decide (op = 4) = false := decide_eq_false h3
  have d4 : decide (op = 5) = false := decide_eq_false h4
  simp [d1, d2, d3, d4]
  exact ret_1 E (by simp [pP, h1, h2, h3, h4])
/-- is it a power of two, at most 1024? -/
def powB (n : Int) : Bool := decide (0 < n ∧ n ≤ 1024) && decide (n.toNat &&& (n.toNat - 1) = 0)
theorem pow_all : ∀ n : Nat, n < 1025 → (0 < n ∧ n &&& (n - 1) = 0 ↔ ∃ i, i < 11 ∧ n = 2 ^ i) := by decide +kernel
theorem powB_iff (n : Int) : powB n = true ↔ ∃ i : Nat, i < 11 ∧ n = ((2 ^ i : Nat) : Int) := by
  unfold powB
  simp only [Bool.and_eq_true, decide_eq_true_eq]
  constructor
  · rintro ⟨⟨h1, h2⟩, h3⟩
    obtain ⟨i, hi, he⟩ := (pow_all n.toNat (by omega)).1 ⟨by omega, h3⟩
    exact ⟨i, hi, by omega⟩
  · rintro ⟨i, hi, he⟩
    have hp : 2 ^ i ≤ 2 ^ 10 := Nat.pow_le_pow_right (by omega) (by omega)
    have hp0 : 0 < 2 ^ i := Nat.pow_pos (by omega)
    have hn : n.toNat = 2 ^ i := by omega
    have := (pow_all n.toNat (by omega)).2 ⟨i, hi, hn⟩
    exact ⟨⟨by omega, by omega⟩, this.2⟩
theorem Power_c (N : Nat) (n : Int) (m : M) : CallV (ex Tryz.prog (N + 1)) 58 [iv n] m (.bool (powB n)) := by
  refine call_ret de3_ok (by simp) ?_
  simp
  refine loop_run (c := ce3_9) rfl (Ret m _) (fun i t m3 => m3 = m ∧ Tm.get 0 t = iv n ∧ Tm.get 3 t = iv ((2 ^ i : Nat) : Int) ∧ ∀ j, j < i → n ≠ ((2 ^ j : Nat) : Int)) 11 (by omega)
    ⟨rfl, by simp, by simp, fun j hj => by omega⟩ (fun i t m3 kk hi hI hk => ?_)
  obtain ⟨rfl, t0, t3, hne⟩ := hI
  obtain ⟨p, hp⟩ : ∃ p : Nat, p = 2 ^ i := ⟨_, rfl⟩
  rw [← hp] at t3
  have hpl : p ≤ 2 ^ 11 := by rw [hp]; exact Nat.pow_le_pow_right (by omega) hi
  by_cases hil : i < 11
  · have hpl : p ≤ 2 ^ 10 := by rw [hp]; exact Nat.pow_le_pow_right (by omega) (by omega)
    have e1 : ((p : Int) ≤ 1024) = True := eq_true (by omega)
    have e1' : (p ≤ 1024) = True := eq_true (by omega)
    by_cases hq : (p : Int) = n
    · have dq : decide ((p : Int) = n) = true := decide_eq_true hq
      have hB : powB n = true := (powB_iff n).2 ⟨i, hil, by rw [← hq, hp]⟩
      rw [hB]
      simp [t0, t3, e1, e1', dq]
      exact ret_1 (Ext.refl _) (by simp)
    · have dq : decide ((p : Int) = n) = false := decide_eq_false hq
      obtain ⟨q, hqq⟩ : ∃ q : Nat, q = 2 ^ (i + 1) := ⟨_, rfl⟩
      have w : wrapF .i64 ((p : Int) * 2) = (q : Int) := by rw [wrapF_eq, wrap64 _ (by omega) (by omega), hqq, Nat.pow_succ, ← hp]; omega
      simp [t0, t3, e1, e1', dq, w]
      refine hk hil _ _ ⟨rfl, by simp [t0], by rw [← hqq]; simp; exact w, fun j hj => ?_⟩
      rcases Nat.lt_or_ge j i with h | h
      · exact hne j h
      · obtain rfl : j = i := by omega
        rw [← hp]; exact fun h => hq h.symm
  · obtain rfl : i = 11 := by omega
    have hB : powB n = false := by
      cases hc : powB n with
      | false => rfl
      | true => obtain ⟨j, hj, he⟩ := (powB_iff n).1 hc; exact absurd he (hne j hj)
    have hp' : p = 2048 := by rw [hp]
    subst hp'
    rw [hB]
    simp [t0, t3]
    exact ret_1 (Ext.refl _) (by simp)
end Go.Sx
namespace Go.Sx
open Go.Dx Go.Proofs
set_option maxRecDepth 10000
abbrev rwS (A3 A4 A5 : Nat) (a : Ac) (cells : Int) (tv : Value) (k : Nat) (av : Value) : List (Nat × List Value) := [(A5, [iv k, av]), (A4, [iv cells, tv]), (A3, acRow a)]
structure WR (t : Tm) (A3 A4 A5 : Nat) : Prop where
  t3 : Tm.get 3 t = .pointer (some ⟨A3, 0, none⟩)
  t4 : Tm.get 4 t = .pointer (some ⟨A4, 0, none⟩)
  t5 : Tm.get 5 t = .pointer (some ⟨A5, 0, none⟩)
def eB (e : Bool) (k : Nat) (es : List Nd) : Bool := if e then exprB k es else decide (es.length = 0)
section
variable {m0 m : M} {A3 A4 A5 : Nat} {a : Ac} {cells : Int} {tv av : Value} {k na : Nat} {t : Tm}
/-- the local that is set -/
theorem rb1 (hst : St m0 m (rwS A3 A4 A5 a cells tv k av)) (hT : WR t A3 A4 A5) {N : Nat} {kn kr : K} {ke : Nat → K} {Q : Option Out → Prop}
    (H1 : dstB (pD a.op) k a.dst = false → ∀ t' m', Tm.get 6 t' = .bool false → Ext m m' → Q (kr t' m'))
    (H2 : dstB (pD a.op) k a.dst = true → ∀ t' m', WR t' A3 A4 A5 → Ext m m' → Q (kn t' m')) : Q (cc3_6 (ex Tryz.prog (N + 2)) kn ke kr t m) := by
  have la : ∀ o s, load1 m ⟨A3, o, s⟩ = (acRow a)[o]? := fun o s => (hst.get 2 rfl).2.2.load1 o s
  have lt : ∀ o s, load1 m ⟨A5, o, s⟩ = [iv k, av][o]? := fun o s => (hst.get 0 rfl).2.2.load1 o s
  obtain ⟨t3, t4, t5⟩ := hT
  obtain ⟨v1, m1, c1, c2, rfl⟩ := sets_c (N + 1) a.op m
  have st1 := hst.step c2
  have la1 : ∀ o s, load1 m1 ⟨A3, o, s⟩ = (acRow a)[o]? := fun o s => (st1.get 2 rfl).2.2.load1 o s
  have lt1 : ∀ o s, load1 m1 ⟨A5, o, s⟩ = [iv k, av][o]? := fun o s => (st1.get 0 rfl).2.2.load1 o s
  obtain ⟨v2, m2, d1, d2, rfl⟩ := sets_c (N + 1) a.op m1
  have st2 := st1.step d2
  have la2 : ∀ o s, load1 m2 ⟨A3, o, s⟩ = (acRow a)[o]? := fun o s => (st2.get 2 rfl).2.2.load1 o s
  simp only [acRow] at la la1 la2
  cases hd : pD a.op with
  | true =>
    rw [hd] at c1 d1 H1 H2
    by_cases h1 : a.dst < 0
    · have e1 : (a.dst < 0) = True := eq_true h1
      have hb : dstB true k a.dst = false := decide_eq_false (by omega)
      simp [la, la1, lt1, t3, t4, t5, c1, e1]
      exact H1 hb _ _ (by simp) c2
    have e1 : (a.dst < 0) = False := eq_false h1
    by_cases h2 : (k : Int) ≤ a.dst
    · have e2 : ((k : Int) ≤ a.dst) = True := eq_true h2
      have hb : dstB true k a.dst = false := decide_eq_false (by omega)
      simp [la, la1, lt1, t3, t4, t5, c1, e1, e2]
      exact H1 hb _ _ (by simp) c2
    have e2 : ((k : Int) ≤ a.dst) = False := eq_false h2
    have hb : dstB true k a.dst = true := decide_eq_true (by omega)
    simp [la, la1, lt1, t3, t4, t5, c1, d1, e1, e2]
    exact H2 hb _ _ ⟨by simp [t3], by simp [t4], by simp [t5]⟩ (c2.trans d2)
  | false =>
    rw [hd] at c1 d1 H1 H2
    by_cases h1 : a.dst = 0
    · have e1 : decide (a.dst = 0) = true := decide_eq_true h1
      have hb : dstB false k a.dst = true := e1
      simp [la, la1, la2, lt1, t3, t4, t5, c1, d1, e1]
      exact H2 hb _ _ ⟨by simp [t3], by simp [t4], by simp [t5]⟩ (c2.trans d2)
    · have e1 : decide (a.dst = 0) = false := decide_eq_false h1
      have hb : dstB false k a.dst = false := e1
      simp [la, la1, la2, lt1, t3, t4, t5, c1, d1, e1]
      exact H1 hb _ _ (by simp) (c2.trans d2)
/-- the place, behind its size -/
theorem rb2 (hst : St m0 m (rwS A3 A4 A5 a cells tv k av)) (hT : WR t A3 A4 A5) (hk : k < 1000000) (ha : AcOK m a) (hc0 : 0 ≤ cells) (hc1 : cells ≤ 4096) {n7 : Int} (h7 : 1 ≤ n7 ∧ n7 ≤ 1024) (h70 : ¬ a.size = 0 → 0 < a.size) (t7 : Tm.get 7 t = iv n7) {N : Nat} {kn kr : K} {ke : Nat → K} {Q : Option Out → Prop}
    (H1 : (decide (0 ≤ a.base ∧ a.base ≤ cells - n7) && (if a.size = 0 then decide (a.ixs.length = 0) else exprB k a.ixs)) = false → ∀ t' m', Tm.get 6 t' = .bool false → Ext m m' → Q (kr t' m'))
    (H2 : (decide (0 ≤ a.base ∧ a.base ≤ cells - n7) && (if a.size = 0 then decide (a.ixs.length = 0) else exprB k a.ixs)) = true → ∀ t' m', WR t' A3 A4 A5 → Ext m m' → Q (kn t' m')) : Q (cc3_14 (ex Tryz.prog (N + 2)) kn ke kr t m) := by
  have la : ∀ o s, load1 m ⟨A3, o, s⟩ = (acRow a)[o]? := fun o s => (hst.get 2 rfl).2.2.load1 o s
  have lt : ∀ o s, load1 m ⟨A5, o, s⟩ = [iv k, av][o]? := fun o s => (hst.get 0 rfl).2.2.load1 o s
  have lp : ∀ o s, load1 m ⟨A4, o, s⟩ = [iv cells, tv][o]? := fun o s => (hst.get 1 rfl).2.2.load1 o s
  obtain ⟨t3, t4, t5⟩ := hT
  have hil : lenS a.ix = some (.int .i64 (a.ixs.length : Int)) := ha.ix.len
  obtain ⟨v1, m1, c1, c2, rfl⟩ := Expression_c k hk a.ixs a.ix ha.ixl (N + 1) m hst.sees.self.base ha.ix
  simp only [acRow] at la
  obtain ⟨q, hq⟩ : ∃ q, q = cells - n7 := ⟨_, rfl⟩
  have hw : IntKind.i64.wrap (cells - n7) = q := by rw [wrap64 _ (by omega) (by omega), hq]
  rw [← hq] at H1 H2
  by_cases h1 : a.base < 0
  · have e1 : (a.base < 0) = True := eq_true h1
    simp [la, lt, lp, t3, t4, t5, t7, e1]
    exact H1 (by rw [decide_eq_false (by omega)]; rfl) _ _ (by simp) (Ext.refl m)
  have e1 : (a.base < 0) = False := eq_false h1
  by_cases h2 : q < a.base
  · have e2 : (q < a.base) = True := eq_true h2
    simp [la, lt, lp, t3, t4, t5, t7, e1, hw, e2]
    exact H1 (by rw [decide_eq_false (by omega)]; rfl) _ _ (by simp) (Ext.refl m)
  have e2 : (q < a.base) = False := eq_false h2
  rw [decide_eq_true (show 0 ≤ a.base ∧ a.base ≤ q by omega), Bool.true_and] at H1 H2
  by_cases h3 : a.size = 0
  · have d3 : decide (a.size = 0) = true := decide_eq_true h3
    have e3 : (0 < a.size) = False := eq_false (by omega)
    rw [if_pos h3] at H1 H2
    obtain ⟨n, hn⟩ : ∃ n, n = a.ixs.length := ⟨_, rfl⟩
    rw [← hn] at hil H1 H2
    by_cases h4 : n = 0
    · have e4 : ((0 : Int) < (n : Int)) = False := eq_false (by omega)
      have e4' : (0 < n) = False := eq_false (by omega)
      simp [la, lt, lp, t3, t4, t5, t7, e1, hw, e2, d3, hil, e4, e4', e3]
      exact H2 (decide_eq_true h4) _ _ ⟨by simp [t3], by simp [t4], by simp [t5]⟩ (Ext.refl m)
    · have e4 : ((0 : Int) < (n : Int)) = True := eq_true (by omega)
      have e4' : (0 < n) = True := eq_true (by omega)
      simp [la, lt, lp, t3, t4, t5, t7, e1, hw, e2, d3, hil, e4, e4', e3]
      exact H1 (decide_eq_false h4) _ _ (by simp) (Ext.refl m)
  · have d3 : decide (a.size = 0) = false := decide_eq_false h3
    have e3 : (0 < a.size) = True := eq_true (h70 h3)
    rw [if_neg h3] at H1 H2
    cases hb : exprB k a.ixs with
    | true =>
      rw [hb] at c1 H1 H2
      simp [la, lt, lp, t3, t4, t5, t7, e1, hw, e2, d3, hil, e3, c1]
      exact H2 rfl _ _ ⟨by simp [t3], by simp [t4], by simp [t5]⟩ c2
    | false =>
      rw [hb] at c1 H1 H2
      simp [la, lt, lp, t3, t4, t5, t7, e1, hw, e2, d3, hil, e3, c1]
      exact H1 rfl _ _ (by simp) c2
/-- the place -/
theorem rb3 (hst : St m0 m (rwS A3 A4 A5 a cells tv k av)) (hT : WR t A3 A4 A5) (hk : k < 1000000) (ha : AcOK m a) (hc0 : 0 ≤ cells) (hc1 : cells ≤ 4096) {N : Nat} {kn kr : K} {ke : Nat → K} {Q : Option Out → Prop}
    (H1 : plB (pP a.op) cells k a = false → ∀ t' m', Tm.get 6 t' = .bool false → Ext m m' → Q (kr t' m'))
    (H2 : plB (pP a.op) cells k a = true → ∀ t' m', WR t' A3 A4 A5 → Ext m m' → Q (kn t' m')) : Q (cc3_21 (ex Tryz.prog (N + 2)) kn ke kr t m) := by
  have la : ∀ o s, load1 m ⟨A3, o, s⟩ = (acRow a)[o]? := fun o s => (hst.get 2 rfl).2.2.load1 o s
  obtain ⟨t3, t4, t5⟩ := hT
  obtain ⟨v1, m1, c1, c2, rfl⟩ := placed_c (N + 1) a.op m
  have st1 := hst.step c2
  have la1 : ∀ o s, load1 m1 ⟨A3, o, s⟩ = (acRow a)[o]? := fun o s => (st1.get 2 rfl).2.2.load1 o s
  have ha1 := ha.sees (hst.sees.self.ext c2)
  have hil : lenS a.ix = some (.int .i64 (a.ixs.length : Int)) := ha.ix.len
  simp only [acRow] at la la1
  cases hp : pP a.op with
  | false =>
    rw [hp] at c1 H1 H2
    have hb : plB false cells k a = decide (a.base = 0 ∧ a.size = 0 ∧ a.ixs.length = 0) := rfl
    rw [hb] at H1 H2
    obtain ⟨n, hn⟩ : ∃ n, n = a.ixs.length := ⟨_, rfl⟩
    rw [← hn] at hil H1 H2
    by_cases h1 : a.base = 0
    · have d1 : decide (a.base = 0) = true := decide_eq_true h1
      by_cases h2 : a.size = 0
      · have d2 : decide (a.size = 0) = true := decide_eq_true h2
        by_cases h4 : n = 0
        · have e4 : ((0 : Int) < (n : Int)) = False := eq_false (by omega)
          have e4' : (0 < n) = False := eq_false (by omega)
          simp [la, la1, t3, t4, t5, c1, d1, d2, hil, e4, e4']
          exact H2 (decide_eq_true ⟨h1, h2, h4⟩) _ _ ⟨by simp [t3], by simp [t4], by simp [t5]⟩ c2
        · have e4 : ((0 : Int) < (n : Int)) = True := eq_true (by omega)
          have e4' : (0 < n) = True := eq_true (by omega)
          simp [la, la1, t3, t4, t5, c1, d1, d2, hil, e4, e4']
          exact H1 (decide_eq_false fun h => h4 h.2.2) _ _ (by simp) c2
      · have d2 : decide (a.size = 0) = false := decide_eq_false h2
        simp [la, la1, t3, t4, t5, c1, d1, d2]
        exact H1 (decide_eq_false fun h => h2 h.2.1) _ _ (by simp) c2
    · have d1 : decide (a.base = 0) = false := decide_eq_false h1
      simp [la, la1, t3, t4, t5, c1, d1]
      exact H1 (decide_eq_false fun h => h1 h.1) _ _ (by simp) c2
  | true =>
    rw [hp] at c1 H1 H2
    have hb : plB true cells k a = (decide (0 ≤ a.size ∧ a.size ≤ 1024) && decide (a.size.toNat &&& (a.size.toNat - 1) = 0) && decide (0 ≤ a.base ∧ a.base ≤ cells - max 1 a.size) && (if a.size = 0 then decide (a.ixs.length = 0) else exprB k a.ixs)) := rfl
    by_cases h3 : a.size = 0
    · have d3 : decide (a.size = 0) = true := decide_eq_true h3
      have hb' : plB true cells k a = (decide (0 ≤ a.base ∧ a.base ≤ cells - 1) && (if a.size = 0 then decide (a.ixs.length = 0) else exprB k a.ixs)) := by
        rw [hb, decide_eq_true (show 0 ≤ a.size ∧ a.size ≤ 1024 by omega), show max 1 a.size = 1 by omega, show a.size.toNat = 0 by omega]; simp
      rw [hb'] at H1 H2
      simp [la, la1, t3, t4, t5, c1, d3, -cc3_14_ap]
      exact rb2 st1 ⟨by simp [t3], by simp [t4], by simp [t5]⟩ hk ha1 hc0 hc1 (n7 := 1) (by omega) (fun h => absurd h3 h) (by simp) (fun h t' m' x e => H1 h t' m' x (c2.trans e)) (fun h t' m' x e => H2 h t' m' x (c2.trans e))
    · have d3 : decide (a.size = 0) = false := decide_eq_false h3
      obtain ⟨v2, m2, d1, d2, rfl⟩ := Power_c (N + 1) a.size m1
      have st2 := st1.step d2
      have la2 : ∀ o s, load1 m2 ⟨A3, o, s⟩ = (acRow a)[o]? := fun o s => (st2.get 2 rfl).2.2.load1 o s
      have hpw : powB a.size = (decide (0 < a.size ∧ a.size ≤ 1024) && decide (a.size.toNat &&& (a.size.toNat - 1) = 0)) := rfl
      cases hw : powB a.size with
      | false =>
        have hb' : plB true cells k a = false := by
          rw [hb, show decide (0 ≤ a.size ∧ a.size ≤ 1024) = decide (0 < a.size ∧ a.size ≤ 1024) from decide_eq_decide.2 (by omega), ← hpw, hw]; rfl
        rw [hw] at d1
        simp [la, la1, t3, t4, t5, c1, d3, d1]
        exact H1 hb' _ _ (by simp) (c2.trans d2)
      | true =>
        have hs : 0 < a.size ∧ a.size ≤ 1024 := by
          have := hpw; rw [hw] at this
          have := this.symm
          simp only [Bool.and_eq_true, decide_eq_true_eq] at this
          exact this.1
        have hb' : plB true cells k a = (decide (0 ≤ a.base ∧ a.base ≤ cells - a.size) && (if a.size = 0 then decide (a.ixs.length = 0) else exprB k a.ixs)) := by
          rw [hb, show decide (0 ≤ a.size ∧ a.size ≤ 1024) = decide (0 < a.size ∧ a.size ≤ 1024) from decide_eq_decide.2 (by omega), ← hpw, hw, Bool.true_and, show max 1 a.size = a.size by omega]
        rw [hb'] at H1 H2
        rw [hw] at d1
        simp [la, la1, t3, t4, t5, c1, d3, d1, -cc3_14_ap]
        exact rb2 st2 ⟨by simp [t3], by simp [t4], by simp [t5]⟩ hk (ha1.sees (st1.sees.self.ext d2)) hc0 hc1 (n7 := a.size) (by omega) (fun _ => hs.1) (by simp) (fun h t' m' x e => H1 h t' m' x ((c2.trans d2).trans e)) (fun h t' m' x e => H2 h t' m' x ((c2.trans d2).trans e))
end
end Go.Sx
namespace Go.Sx
open Go.Dx Go.Proofs
set_option maxRecDepth 10000
section
variable {m0 m : M} {A3 A4 A5 : Nat} {a : Ac} {cells : Int} {tv av : Value} {k na : Nat} {t : Tm}
/-- does it have an expression? -/
theorem rb4 (hst : St m0 m (rwS A3 A4 A5 a cells tv k av)) (hT : WR t A3 A4 A5) (hop : 1 ≤ a.op ∧ a.op ≤ 10) {x : Ex} {kn kr : K} {ke : Nat → K} {Q : Option Out → Prop}
    (H : ∀ t', Tm.get 8 t' = .bool (pE a.op) → WR t' A3 A4 A5 → Q (cc3_34 x kn ke kr t' m)) : Q (cc3_35 x kn ke kr t m) := by
  have la : ∀ o s, load1 m ⟨A3, o, s⟩ = (acRow a)[o]? := fun o s => (hst.get 2 rfl).2.2.load1 o s
  obtain ⟨t3, t4, t5⟩ := hT
  simp only [acRow] at la
  by_cases h2 : a.op = 2
  · have d2 : decide (a.op = 2) = true := decide_eq_true h2
    have hp : pE a.op = false := by unfold pE; exact decide_eq_false (by omega)
    rw [hp] at H
    simp [la, t3, d2, -cc3_34_ap]
    exact H _ (by simp) ⟨by simp [t3], by simp [t4], by simp [t5]⟩
  have d2 : decide (a.op = 2) = false := decide_eq_false h2
  by_cases h7 : a.op = 7
  · have d7 : decide (a.op = 7) = true := decide_eq_true h7
    have hp : pE a.op = false := by unfold pE; exact decide_eq_false (by omega)
    rw [hp] at H
    simp [la, t3, d2, d7, -cc3_34_ap]
    exact H _ (by simp) ⟨by simp [t3], by simp [t4], by simp [t5]⟩
  have d7 : decide (a.op = 7) = false := decide_eq_false h7
  by_cases h9 : a.op = 9
  · have d9 : decide (a.op = 9) = true := decide_eq_true h9
    have hp : pE a.op = false := by unfold pE; exact decide_eq_false (by omega)
    rw [hp] at H
    simp [la, t3, d2, d7, d9, -cc3_34_ap]
    exact H _ (by simp) ⟨by simp [t3], by simp [t4], by simp [t5]⟩
  have d9 : decide (a.op = 9) = false := decide_eq_false h9
  have hp : pE a.op = true := by unfold pE; exact decide_eq_true (by omega)
  rw [hp] at H
  simp [la, t3, d2, d7, d9, -cc3_34_ap]
  exact H _ (by simp) ⟨by simp [t3], by simp [t4], by simp [t5]⟩
/-- its expression -/
theorem rb5 (hst : St m0 m (rwS A3 A4 A5 a cells tv k av)) (hT : WR t A3 A4 A5) (hk : k < 1000000) (ha : AcOK m a) {e : Bool} (t8 : Tm.get 8 t = .bool e) {N : Nat} {kn kr : K} {ke : Nat → K} {Q : Option Out → Prop}
    (H1 : eB e k a.es = false → ∀ t' m', Tm.get 6 t' = .bool false → Ext m m' → Q (kr t' m'))
    (H2 : eB e k a.es = true → ∀ t' m', WR t' A3 A4 A5 → Ext m m' → Q (kn t' m')) : Q (cc3_24 (ex Tryz.prog (N + 1)) kn ke kr t m) := by
  have la : ∀ o s, load1 m ⟨A3, o, s⟩ = (acRow a)[o]? := fun o s => (hst.get 2 rfl).2.2.load1 o s
  have lt : ∀ o s, load1 m ⟨A5, o, s⟩ = [iv k, av][o]? := fun o s => (hst.get 0 rfl).2.2.load1 o s
  obtain ⟨t3, t4, t5⟩ := hT
  have hel : lenS a.ev = some (.int .i64 (a.es.length : Int)) := ha.ev.len
  obtain ⟨v1, m1, c1, c2, rfl⟩ := Expression_c k hk a.es a.ev ha.evl N m hst.sees.self.base ha.ev
  simp only [acRow] at la
  cases e with
  | true =>
    have hb : eB true k a.es = exprB k a.es := rfl
    rw [hb] at H1 H2
    cases hx : exprB k a.es with
    | true =>
      rw [hx] at c1
      simp [la, lt, t3, t4, t5, t8, c1]
      exact H2 hx _ _ ⟨by simp [t3], by simp [t4], by simp [t5]⟩ c2
    | false =>
      rw [hx] at c1
      simp [la, lt, t3, t4, t5, t8, c1]
      exact H1 hx _ _ (by simp) c2
  | false =>
    have hb : eB false k a.es = decide (a.es.length = 0) := rfl
    rw [hb] at H1 H2
    obtain ⟨n, hn⟩ : ∃ n, n = a.es.length := ⟨_, rfl⟩
    rw [← hn] at hel H1 H2
    by_cases h4 : n = 0
    · have e4 : ((0 : Int) < (n : Int)) = False := eq_false (by omega)
      have e4' : (0 < n) = False := eq_false (by omega)
      simp [la, lt, t3, t4, t5, t8, hel, e4, e4']
      exact H2 (decide_eq_true h4) _ _ ⟨by simp [t3], by simp [t4], by simp [t5]⟩ (Ext.refl m)
    · have e4 : ((0 : Int) < (n : Int)) = True := eq_true (by omega)
      have e4' : (0 < n) = True := eq_true (by omega)
      simp [la, lt, t3, t4, t5, t8, hel, e4, e4']
      exact H1 (decide_eq_false h4) _ _ (by simp) (Ext.refl m)
/-- its second expression -/
theorem rb6 (hst : St m0 m (rwS A3 A4 A5 a cells tv k av)) (hT : WR t A3 A4 A5) (hk : k < 1000000) (ha : AcOK m a) {N : Nat} {kn kr : K} {ke : Nat → K} {Q : Option Out → Prop}
    (H1 : eB (pF a.op) k a.fs = false → ∀ t' m', Tm.get 6 t' = .bool false → Ext m m' → Q (kr t' m'))
    (H2 : eB (pF a.op) k a.fs = true → ∀ t' m', WR t' A3 A4 A5 → Ext m m' → Q (kn t' m')) : Q (cc3_27 (ex Tryz.prog (N + 1)) kn ke kr t m) := by
  have la : ∀ o s, load1 m ⟨A3, o, s⟩ = (acRow a)[o]? := fun o s => (hst.get 2 rfl).2.2.load1 o s
  have lt : ∀ o s, load1 m ⟨A5, o, s⟩ = [iv k, av][o]? := fun o s => (hst.get 0 rfl).2.2.load1 o s
  obtain ⟨t3, t4, t5⟩ := hT
  have hel : lenS a.fv = some (.int .i64 (a.fs.length : Int)) := ha.fv.len
  obtain ⟨v1, m1, c1, c2, rfl⟩ := Expression_c k hk a.fs a.fv ha.fvl N m hst.sees.self.base ha.fv
  have st1 := hst.step c2
  have la1 : ∀ o s, load1 m1 ⟨A3, o, s⟩ = (acRow a)[o]? := fun o s => (st1.get 2 rfl).2.2.load1 o s
  simp only [acRow] at la la1
  by_cases h6 : a.op = 6
  · have d6 : decide (a.op = 6) = true := decide_eq_true h6
    have hb : eB (pF a.op) k a.fs = exprB k a.fs := by unfold pF; rw [d6]; rfl
    rw [hb] at H1 H2
    cases hx : exprB k a.fs with
    | true =>
      rw [hx] at c1
      simp [la, la1, lt, t3, t4, t5, d6, c1]
      exact H2 hx _ _ ⟨by simp [t3], by simp [t4], by simp [t5]⟩ c2
    | false =>
      rw [hx] at c1
      simp [la, la1, lt, t3, t4, t5, d6, c1]
      exact H1 hx _ _ (by simp) c2
  · have d6 : decide (a.op = 6) = false := decide_eq_false h6
    have hb : eB (pF a.op) k a.fs = decide (a.fs.length = 0) := by unfold pF; rw [d6]; rfl
    rw [hb] at H1 H2
    obtain ⟨n, hn⟩ : ∃ n, n = a.fs.length := ⟨_, rfl⟩
    rw [← hn] at hel H1 H2
    by_cases h4 : n = 0
    · have e4 : ((0 : Int) < (n : Int)) = False := eq_false (by omega)
      have e4' : (0 < n) = False := eq_false (by omega)
      simp [la, lt, t3, t4, t5, d6, hel, e4, e4']
      exact H2 (decide_eq_true h4) _ _ ⟨by simp [t3], by simp [t4], by simp [t5]⟩ (Ext.refl m)
    · have e4 : ((0 : Int) < (n : Int)) = True := eq_true (by omega)
      have e4' : (0 < n) = True := eq_true (by omega)
      simp [la, lt, t3, t4, t5, d6, hel, e4, e4']
      exact H1 (decide_eq_false h4) _ _ (by simp) (Ext.refl m)
/-- where it leads -/
theorem rb7 (hst : St m0 m (rwS A3 A4 A5 a cells tv k av)) (hT : WR t A3 A4 A5) (hav : lenS av = some (.int .i64 (na : Int))) {x : Ex} {kn kr : K} {ke : Nat → K} {Q : Option Out → Prop}
    (H : ∀ t', Tm.get 6 t' = .bool (toB (pT a.op) na a.to) → Q (kr t' m)) : Q (cc3_32 x kn ke kr t m) := by
  have la : ∀ o s, load1 m ⟨A3, o, s⟩ = (acRow a)[o]? := fun o s => (hst.get 2 rfl).2.2.load1 o s
  have lt : ∀ o s, load1 m ⟨A5, o, s⟩ = [iv k, av][o]? := fun o s => (hst.get 0 rfl).2.2.load1 o s
  obtain ⟨t3, t4, t5⟩ := hT
  simp only [acRow] at la
  by_cases h9 : a.op = 9
  · have d9 : decide (a.op = 9) = true := decide_eq_true h9
    have hb : toB (pT a.op) na a.to = decide (0 ≤ a.to ∧ a.to ≤ na) := by unfold pT; rw [decide_eq_true (.inl h9)]; rfl
    rw [hb] at H
    by_cases h1 : 0 ≤ a.to
    · have e1 : ((0 : Int) ≤ a.to) = True := eq_true h1
      by_cases h2 : a.to ≤ na
      · have e2 : (a.to ≤ (na : Int)) = True := eq_true h2
        rw [decide_eq_true ⟨h1, h2⟩] at H
        simp [la, lt, t3, t4, t5, d9, e1, e2, hav]
        exact H _ (by simp)
      · have e2 : (a.to ≤ (na : Int)) = False := eq_false h2
        rw [decide_eq_false (fun h => h2 h.2)] at H
        simp [la, lt, t3, t4, t5, d9, e1, e2, hav]
        exact H _ (by simp)
    · have e1 : ((0 : Int) ≤ a.to) = False := eq_false h1
      rw [decide_eq_false (fun h => h1 h.1)] at H
      simp [la, lt, t3, t4, t5, d9, e1, hav]
      exact H _ (by simp)
  have d9 : decide (a.op = 9) = false := decide_eq_false h9
  by_cases h10 : a.op = 10
  · have d10 : decide (a.op = 10) = true := decide_eq_true h10
    have hb : toB (pT a.op) na a.to = decide (0 ≤ a.to ∧ a.to ≤ na) := by unfold pT; rw [decide_eq_true (.inr h10)]; rfl
    rw [hb] at H
    by_cases h1 : 0 ≤ a.to
    · have e1 : ((0 : Int) ≤ a.to) = True := eq_true h1
      by_cases h2 : a.to ≤ na
      · have e2 : (a.to ≤ (na : Int)) = True := eq_true h2
        rw [decide_eq_true ⟨h1, h2⟩] at H
        simp [la, lt, t3, t4, t5, d9, d10, e1, e2, hav]
        exact H _ (by simp)
      · have e2 : (a.to ≤ (na : Int)) = False := eq_false h2
        rw [decide_eq_false (fun h => h2 h.2)] at H
        simp [la, lt, t3, t4, t5, d9, d10, e1, e2, hav]
        exact H _ (by simp)
    · have e1 : ((0 : Int) ≤ a.to) = False := eq_false h1
      rw [decide_eq_false (fun h => h1 h.1)] at H
      simp [la, lt, t3, t4, t5, d9, d10, e1, hav]
      exact H _ (by simp)
  have d10 : decide (a.op = 10) = false := decide_eq_false h10
  have hb : toB (pT a.op) na a.to = decide (a.to = 0) := by unfold pT; rw [decide_eq_false (by omega)]; rfl
  rw [hb] at H
  simp [la, lt, t3, t4, t5, d9, d10]
  exact H _ (by simp)
end
theorem eB_es (e f : Bool) (k : Nat) (a : Ac) : (eB e k a.es && eB f k a.fs) = esB e f k a := by
  have hx : ∀ es : List Nd, exprB k es = true → 0 < es.length := fun es h => (exprB_oks h).1
  have h0 : ∀ es : List Nd, decide (es.length = 0) = !decide (0 < es.length) := fun es => by
    by_cases h : 0 < es.length
    · rw [decide_eq_true h, decide_eq_false (by omega)]; rfl
    · rw [decide_eq_false h, decide_eq_true (by omega)]; rfl
  have hh : ∀ (e : Bool) (es : List Nd), eB e k es = (decide (e = decide (0 < es.length)) && (!e || exprB k es)) := fun e es => by
    cases e with
    | true =>
      show exprB k es = _
      cases hc : exprB k es with
      | true => rw [decide_eq_true (hx es hc)]; rfl
      | false => simp
    | false =>
      show decide (es.length = 0) = _
      rw [h0]
      cases decide (0 < es.length) <;> rfl
  rw [hh, hh]
  unfold esB
  cases decide (e = decide (0 < a.es.length)) <;> cases decide (f = decide (0 < a.fs.length)) <;> cases (!e || exprB k a.es) <;> cases (!f || exprB k a.fs) <;> rfl
theorem whole_c (k : Nat) (hk : k < 1000000) (cells : Int) (tv : Value) (hc0 : 0 ≤ cells) (hc1 : cells ≤ 4096) (av : Value) (na : Nat) (hav : lenS av = some (.int .i64 (na : Int))) (a : Ac) (N : Nat) (m : M) (hm : m.base ≤ m.n) (ha : AcOK m a) :
    CallV (ex Tryz.prog (N + 3)) 37 [.agg ⟨acRow a⟩, .agg ⟨[iv cells, tv]⟩, .agg ⟨[iv k, av]⟩] m (.bool (actB cells k na a)) := by
  refine call_ret dc3_ok (by simp) ?_
  have st0 : St m m [] := St.nil hm (Ext.refl m)
  have st1 := st0.row (acRow a)
  obtain ⟨m1, hm1⟩ : ∃ m1, m1 = Dx.newRow m (acRow a) := ⟨_, rfl⟩
  rw [← hm1] at st1
  have st2 := st1.row [iv cells, tv]
  obtain ⟨m2, hm2⟩ : ∃ m2, m2 = Dx.newRow m1 [iv cells, tv] := ⟨_, rfl⟩
  rw [← hm2] at st2
  have st3 := st2.row [iv k, av]
  obtain ⟨m3, hm3⟩ : ∃ m3, m3 = Dx.newRow m2 [iv k, av] := ⟨_, rfl⟩
  rw [← hm3] at st3
  have la : ∀ o s, load1 m3 ⟨m.n, o, s⟩ = (acRow a)[o]? := fun o s => (st3.get 2 rfl).2.2.load1 o s
  simp only [acRow] at la
  have hA : actB cells k na a = (decide (1 ≤ a.op ∧ a.op ≤ 10) && (mayB a.op a.mode && (dstB (pD a.op) k a.dst && (plB (pP a.op) cells k a && (esB (pE a.op) (pF a.op) k a && toB (pT a.op) na a.to))))) := rfl
  rw [hA]
  by_cases h1 : a.op < 1
  · have e1 : (a.op < 1) = True := eq_true h1
    rw [decide_eq_false (show ¬ (1 ≤ a.op ∧ a.op ≤ 10) by omega)]
    simp [← hm1, ← hm2, ← hm3, la, e1]
    exact ret_1 st3.ext (by simp)
  have e1 : (a.op < 1) = False := eq_false h1
  by_cases h2 : 10 < a.op
  · have e2 : (10 < a.op) = True := eq_true h2
    rw [decide_eq_false (show ¬ (1 ≤ a.op ∧ a.op ≤ 10) by omega)]
    simp [← hm1, ← hm2, ← hm3, la, e1, e2]
    exact ret_1 st3.ext (by simp)
  have e2 : (10 < a.op) = False := eq_false h2
  rw [decide_eq_true (show (1 ≤ a.op ∧ a.op ≤ 10) by omega), Bool.true_and]
  obtain ⟨v4, m4, c1, c2, rfl⟩ := May_c (N + 1) a.op a.mode m3
  have st4 := st3.step c2
  cases hmay : mayB a.op a.mode with
  | false =>
    rw [hmay] at c1
    simp [← hm1, ← hm2, ← hm3, la, e1, e2, c1]
    exact ret_1 st4.ext (by simp)
  | true =>
  rw [hmay] at c1
  rw [Bool.true_and]
  simp [← hm1, ← hm2, ← hm3, la, e1, e2, c1, -cc3_6_ap]
  have st4' : St m m4 (rwS m.n m1.n m2.n a cells tv k av) := st4
  refine rb1 (A3 := m.n) (A4 := m1.n) (A5 := m2.n) st4' ⟨by simp, by simp, by simp⟩ (fun hd t' m' h6 E => ?_) (fun hd t' m5 T1 E5 => ?_)
  · rw [hd]; exact ret_1 (st4'.step E).ext (by simp [h6])
  have st5 := st4'.step E5
  rw [hd, Bool.true_and]
  simp [-cc3_21_ap]
  refine rb3 st5 T1 hk (ha.sees st5.sees) hc0 hc1 (fun hd t' m' h6 E => ?_) (fun hd t' m6 T2 E6 => ?_)
  · rw [hd]; exact ret_1 (st5.step E).ext (by simp [h6])
  have st6 := st5.step E6
  rw [hd, Bool.true_and]
  refine rb4 st6 T2 (by omega) (fun t' t8 T3 => ?_)
  rw [← eB_es]
  simp [-cc3_24_ap]
  refine rb5 st6 T3 hk (ha.sees st6.sees) t8 (fun hd t' m' h6 E => ?_) (fun hd t' m7 T4 E7 => ?_)
  · rw [hd]; exact ret_1 (st6.step E).ext (by simp [h6])
  have st7 := st6.step E7
  rw [hd, Bool.true_and]
  simp [-cc3_27_ap]
  refine rb6 st7 T4 hk (ha.sees st7.sees) (fun hd t' m' h6 E => ?_) (fun hd t' m8 T5 E8 => ?_)
  · rw [hd]; exact ret_1 (st7.step E).ext (by simp [h6])
  have st8 := st7.step E8
  rw [hd, Bool.true_and]
  exact rb7 st8 T5 hav (fun t' h6 => ret_1 st8.ext (by simp [h6]))
end Go.Sx
namespace Go.Sx
open Go.Dx Go.Proofs
set_option maxRecDepth 10000
theorem refWhole_c (p : Pg) (N : Nat) (m : M) (hm : m.base ≤ m.n) (hp : PgOK m p) : CallV (ex Tryz.prog (N + 4)) 13 [pgV p] m (.bool (pgB p)) := by
  refine call_ret da4_ok (by simp) ?_
  obtain ⟨cells, tv, ths⟩ := p
  have st1 := (St.nil hm (Ext.refl m)).row [iv cells, tv]
  obtain ⟨m1, hm1⟩ : ∃ m1, m1 = Dx.newRow m [iv cells, tv] := ⟨_, rfl⟩
  rw [← hm1] at st1
  have lp : ∀ o s, load1 m1 ⟨m.n, o, s⟩ = [iv cells, tv][o]? := fun o s => (st1.get 0 rfl).2.2.load1 o s
  obtain ⟨n, hn⟩ : ∃ n, n = ths.length := ⟨_, rfl⟩
  have hll : lenS tv = some (.int .i64 (n : Int)) := by rw [hn]; exact hp.tv.len
  have hB : pgB ⟨cells, tv, ths⟩ = (decide (0 ≤ cells ∧ cells ≤ 4096) && (decide (n ≤ 64) && ths.all (thB cells))) := by rw [hn]; rfl
  rw [hB]
  unfold pgV
  by_cases h1 : cells < 0
  · have e1 : (cells < 0) = True := eq_true h1
    rw [decide_eq_false (show ¬ (0 ≤ cells ∧ cells ≤ 4096) by omega)]
    simp [← hm1, lp, e1]
    exact ret_1 st1.ext (by simp)
  have e1 : (cells < 0) = False := eq_false h1
  by_cases h2 : 4096 < cells
  · have e2 : (4096 < cells) = True := eq_true h2
    rw [decide_eq_false (show ¬ (0 ≤ cells ∧ cells ≤ 4096) by omega)]
    simp [← hm1, lp, e1, e2]
    exact ret_1 st1.ext (by simp)
  have e2 : (4096 < cells) = False := eq_false h2
  rw [decide_eq_true (show (0 ≤ cells ∧ cells ≤ 4096) by omega), Bool.true_and]
  by_cases h3 : 64 < n
  · have e3 : ((64 : Int) < (n : Int)) = True := eq_true (by omega)
    have e3' : (64 < n) = True := eq_true (by omega)
    rw [decide_eq_false (show ¬ (n ≤ 64) by omega)]
    simp [← hm1, lp, e1, e2, hll, e3, e3']
    exact ret_1 st1.ext (by simp)
  have e3 : ((64 : Int) < (n : Int)) = False := eq_false (by omega)
  have e3' : (64 < n) = False := eq_false (by omega)
  rw [decide_eq_true (show (n ≤ 64) by omega), Bool.true_and]
  simp [← hm1, lp, e1, e2, hll, e3, e3']
  refine loop_run (c := ca4_25) rfl (Ret m _) (fun i t m' => St m m' [(m.n, [iv cells, tv])] ∧ (∀ (j : Nat) x, j < i → ths[j]? = some x → thB cells x = true) ∧ Tm.get 1 t = .pointer (some ⟨m.n, 0, none⟩) ∧ Tm.get 3 t = iv i) n (by omega)
    ⟨st1, fun j nd hj => absurd hj (Nat.not_lt_zero _), by simp, by simp⟩ (fun i t m' k' hi hI hk' => ?_)
  obtain ⟨st, hok, t1, t3⟩ := hI
  have lq : ∀ o s, load1 m' ⟨m.n, o, s⟩ = [iv cells, tv][o]? := fun o s => (st.get 0 rfl).2.2.load1 o s
  by_cases hil : i < n
  · have hd := dlt hil
    have hd' : (i < n) = True := eq_true hil
    obtain ⟨th, hth⟩ : ∃ r, ths[i]? = some r := ⟨_, List.getElem?_eq_getElem (by omega)⟩
    have ⟨a1, a2, _⟩ := hp.tv.at hth
    have a2' := a2 m' st.sees
    have hthok := hp.ths th (List.mem_of_getElem? hth)
    have ni := nextI (i := i) (by omega)
    obtain ⟨loc, av, acts⟩ := th
    simp only [thRow] at a2'
    have st1 := st.row [.int .i64 0, .slice none 0 0]
    obtain ⟨m1, hm1⟩ : ∃ m1, m1 = Dx.newRow m' [.int .i64 0, .slice none 0 0] := ⟨_, rfl⟩
    rw [← hm1] at st1
    have okav : okC av = true := hthok.av.okV
    obtain ⟨m2, s1, s2, s3, s4⟩ := st1.fill 0 rfl (n := 2) (l' := [iv loc, av]) rfl rfl (by simp [okC]; exact okav)
    have s2' : St m m2 [(m'.n, [iv loc, av]), (m.n, [iv cells, tv])] := s2
    have l2 : ∀ o s, load1 m2 ⟨m'.n, o, s⟩ = [iv loc, av][o]? := fun o s => (s2'.get 0 rfl).2.2.load1 o s
    obtain ⟨na, hna⟩ : ∃ n, n = acts.length := ⟨_, rfl⟩
    have hal : lenS av = some (.int .i64 (na : Int)) := by rw [hna]; exact hthok.av.len
    have hnal : na ≤ 9223372036854775807 := by rw [hna]; exact hthok.len
    have hT : thB cells ⟨loc, av, acts⟩ = (decide (0 ≤ loc ∧ loc ≤ 24) && (decide (na ≤ 65536) && acts.all (actB cells loc.toNat na))) := by rw [hna]; rfl
    have bad : thB cells ⟨loc, av, acts⟩ = false → ths.all (thB cells) = false := fun h => all_false hth h
    by_cases h4 : loc < 0
    · have e4 : (loc < 0) = True := eq_true h4
      rw [bad (by rw [hT, decide_eq_false (show ¬ (0 ≤ loc ∧ loc ≤ 24) by omega)]; rfl)]
      simp [t1, t3, lq, hll, hd, hd', a1, a2', loadNS_ptr, ← hm1, s1, l2, e4]
      exact ret_1 s2'.ext (by simp)
    have e4 : (loc < 0) = False := eq_false h4
    by_cases h5 : 24 < loc
    · have e5 : (24 < loc) = True := eq_true h5
      rw [bad (by rw [hT, decide_eq_false (show ¬ (0 ≤ loc ∧ loc ≤ 24) by omega)]; rfl)]
      simp [t1, t3, lq, hll, hd, hd', a1, a2', loadNS_ptr, ← hm1, s1, l2, e4, e5]
      exact ret_1 s2'.ext (by simp)
    have e5 : (24 < loc) = False := eq_false h5
    rw [decide_eq_true (show (0 ≤ loc ∧ loc ≤ 24) by omega), Bool.true_and] at hT
    by_cases h6 : 65536 < na
    · have e6 : ((65536 : Int) < (na : Int)) = True := eq_true (by omega)
      have e6' : (65536 < na) = True := eq_true (by omega)
      rw [bad (by rw [hT, decide_eq_false (show ¬ (na ≤ 65536) by omega)]; rfl)]
      simp [t1, t3, lq, hll, hd, hd', a1, a2', loadNS_ptr, ← hm1, s1, l2, e4, e5, hal, e6, e6']
      exact ret_1 s2'.ext (by simp)
    have e6 : ((65536 : Int) < (na : Int)) = False := eq_false (by omega)
    have e6' : (65536 < na) = False := eq_false (by omega)
    rw [decide_eq_true (show (na ≤ 65536) by omega), Bool.true_and] at hT
    obtain ⟨q, rfl⟩ : ∃ q : Nat, loc = q := ⟨loc.toNat, by omega⟩
    rw [Int.toNat_natCast] at hT
    obtain ⟨z, hz⟩ : ∃ z : Int, z = (q : Int) := ⟨_, rfl⟩
    rw [← hz] at a2' s1 s2' l2 e4 e5
    simp [t1, t3, lq, hll, hd, hd', a1, a2', loadNS_ptr, ← hm1, s1, l2, e4, e5, hal, e6, e6']
    refine loop_run (c := ca4_17) rfl (Ret m _) (fun j t m3 => St m m3 [(m'.n, [iv q, av]), (m.n, [iv cells, tv])] ∧ (∀ (j' : Nat) x, j' < j → acts[j']? = some x → actB cells q na x = true) ∧ Tm.get 1 t = .pointer (some ⟨m.n, 0, none⟩) ∧ Tm.get 4 t = .pointer (some ⟨m'.n, 0, none⟩) ∧ Tm.get 3 t = iv i ∧ Tm.get 5 t = iv j) na (by omega)
      ⟨by rw [hz] at s2'; exact s2', fun j nd hj => absurd hj (Nat.not_lt_zero _), by simp [t1], by simp, by simp [t3], by simp⟩ (fun j t m3 k3 hj hJ hk3 => ?_)
    obtain ⟨st3, hok3, t1, t4, t3, t5⟩ := hJ
    have l3t : ∀ o s, load1 m3 ⟨m'.n, o, s⟩ = [iv q, av][o]? := fun o s => (st3.get 0 rfl).2.2.load1 o s
    by_cases hjl : j < na
    · have hd := dlt hjl
      have hd' : (j < na) = True := eq_true hjl
      obtain ⟨a, hac⟩ : ∃ r, acts[j]? = some r := ⟨_, List.getElem?_eq_getElem (by omega)⟩
      have ⟨b1, b2, _⟩ := hthok.av.at hac
      have b2' := b2 m3 st3.sees
      have haok := hthok.acts a (List.mem_of_getElem? hac)
      have nj := nextI (i := j) (by omega)
      have l5t : loads m3 ⟨m'.n, 0, none⟩ 2 = some [iv q, av] := (st3.get 0 rfl).2.2.loads (n := 2) (by simp)
      have l5p : loads m3 ⟨m.n, 0, none⟩ 2 = some [iv cells, tv] := (st3.get 1 rfl).2.2.loads (n := 2) (by simp)
      obtain ⟨v6, m6', c1, c2, c3, rfl⟩ := any_call (whole_c q (by omega) cells tv (by omega) (by omega) av na hal a N (forAny m3) (sees_any st3.sees).base (haok.sees (sees_any st3.sees)))
      obtain ⟨m6, hm6⟩ : ∃ m6, m6 = behind m3 m6' := ⟨_, rfl⟩
      rw [← hm6] at c3
      have st6 := st3.step c3
      cases hab : actB cells q na a with
      | true =>
        rw [hab] at c1
        simp [t1, t4, t3, t5, l3t, hal, hd, hd', b1, b2', loadNS_ptr, l5t, l5p, c1, c2, ← hm6, nj]
        exact hk3 hjl _ _ ⟨st6, fun j' x hj' hx => by
          by_cases hjj : j' = j
          · subst hjj; rw [hac] at hx; cases hx; exact hab
          · exact hok3 j' x (by omega) hx, by simp [t1], by simp [t4], by simp [t3], by simp⟩
      | false =>
        rw [hab] at c1
        rw [bad (by rw [hT]; exact all_false hac hab)]
        simp [t1, t4, t3, t5, l3t, hal, hd, hd', b1, b2', loadNS_ptr, l5t, l5p, c1, c2, ← hm6]
        exact ret_1 st6.ext (by simp)
    · obtain rfl : j = na := by omega
      have hd : ((j : Int) < (j : Int)) = False := eq_false (by omega)
      have hth1 : thB cells ⟨(q : Int), av, acts⟩ = true := by rw [hT]; exact all_true fun i' x hi' hx => hok3 i' x (by omega) hx
      simp [t1, t4, t3, t5, l3t, hal, hd, ni]
      exact hk' hil _ _ ⟨st3.sub (by simp) (by have := st3.nd; simp at this ⊢), fun j' x hj' hx => by
        by_cases hjj : j' = i
        · subst hjj; rw [hth] at hx; cases hx; exact hth1
        · exact hok j' x (by omega) hx, by simp [t1], by simp⟩
  · obtain rfl : i = n := by omega
    have hd : ((i : Int) < (i : Int)) = False := eq_false (by omega)
    rw [all_true (f := thB cells) (l := ths) fun i' x hi' hx => hok i' x (by omega) hx]
    simp [t1, t3, lq, hll, hd]
    exact ret_1 st.ext (by simp)
end Go.Sx
/- The reference's run: own blocks and three slices that grow. -/
namespace Go.Dx
theorem St.app {m0 m m' : M} {v v' : Value} {σ : List (Nat × List Value)} (h : St m0 m σ) (k : Ap m m' v v') (h1 : ∀ B, blk v = some B → m0.n ≤ B) (h2 : ∀ B, blk v = some B → ∀ p ∈ σ, p.1 ≠ B) : St m0 m' σ := by
  have hb := h.ext.base
  have hn := h.ext.n
  have h0 := h.base
  refine h.keepOn ⟨Nat.le_trans hn k.n, fun B hB => ?_, k.base.trans hb, (k.low fun B hB => ?_).trans h.ext.log⟩ k.n fun p hp => ?_
  · rw [k.obj B (by omega) fun e => by have := h1 B e; omega]; exact h.ext.obj B hB
  · have := h1 B hB; omega
  · exact k.obj _ (h.arr p hp).2.1 fun e => h2 _ e p hp rfl
end Go.Dx
namespace Go.Sx
open Go.Dx Go.Proofs
set_option maxRecDepth 10000
structure RJ (m0 m : M) (g : Gs) (r : Rn) (σ : List (Nat × List Value)) : Prop where
  st : St m0 m σ
  ge : Grown m0 m g.1 5 ev5Row r.evs
  go : Grown m0 m g.2.1 1 wordRow r.outs
  gr : Grown m0 m g.2.2 2 pairRow r.rmw
  sep : ∀ B, (blk g.1 = some B ∨ blk g.2.1 = some B ∨ blk g.2.2 = some B) → ∀ p ∈ σ, p.1 ≠ B
  eo : ∀ B, blk g.1 = some B → blk g.2.1 ≠ some B ∧ blk g.2.2 ≠ some B
  or_ : ∀ B, blk g.2.1 = some B → blk g.2.2 ≠ some B
section
variable {m0 m m' : M} {g : Gs} {r : Rn} {σ σ' : List (Nat × List Value)}
theorem RJ.gl (h : RJ m0 m g r σ) : ∀ B, (blk g.1 = some B ∨ blk g.2.1 = some B ∨ blk g.2.2 = some B) → m0.n ≤ B ∧ B < m.n := fun B hB => by
  rcases hB with hB | hB | hB
  · exact grown_low h.ge B hB
  · exact grown_low h.go B hB
  · exact grown_low h.gr B hB
theorem RJ.of (h : RJ m0 m g r σ) (hst : St m0 m' σ') (hn : m.n ≤ m'.n) (hk : ∀ B, (blk g.1 = some B ∨ blk g.2.1 = some B ∨ blk g.2.2 = some B) → m'.obj B = m.obj B) (hσ : ∀ p ∈ σ', (∃ q ∈ σ, q.1 = p.1) ∨ m.n ≤ p.1) : RJ m0 m' g r σ' :=
  ⟨hst, h.ge.keep hn fun B _ hB => hk B (.inl hB), h.go.keep hn fun B _ hB => hk B (.inr (.inl hB)), h.gr.keep hn fun B _ hB => hk B (.inr (.inr hB)), fun B hB p hp => by
    rcases hσ p hp with ⟨q, hq, e⟩ | h'
    · rw [← e]; exact h.sep B hB q hq
    · have := (h.gl B hB).2; omega, h.eo, h.or_⟩
theorem RJ.step (h : RJ m0 m g r σ) (e : Ext m m') : RJ m0 m' g r σ := h.of (h.st.step e) e.n (fun B hB => e.obj B (h.gl B hB).2) fun p hp => .inl ⟨p, hp, rfl⟩
theorem RJ.row (h : RJ m0 m g r σ) (l : List Value) : RJ m0 (Dx.newRow m l) g r ((m.n, l) :: σ) :=
  h.of (h.st.row l) (Ext.row m l).n (fun B hB => (Ext.row m l).obj B (h.gl B hB).2) fun p hp => by
    rcases List.mem_cons.1 hp with rfl | hp
    · exact .inr (Nat.le_refl _)
    · exact .inl ⟨p, hp, rfl⟩
theorem RJ.sub (h : RJ m0 m g r σ) (hs : ∀ p ∈ σ', p ∈ σ) (hn : (σ'.map (·.1)).Nodup) : RJ m0 m g r σ' :=
  h.of (h.st.sub hs hn) (Nat.le_refl _) (fun _ _ => rfl) fun p hp => .inl ⟨p, hs p hp, rfl⟩
/-- one of the own blocks has changed -/
theorem RJ.put (h : RJ m0 m g r σ) {i b : Nat} {l l' : List Value} (hi : σ[i]? = some (b, l)) (hst : St m0 m' (σ.set i (b, l'))) (hn : m'.n = m.n) (ho : ∀ X, X ≠ b → m'.obj X = m.obj X) : RJ m0 m' g r (σ.set i (b, l')) :=
  h.of hst (by omega) (fun B hB => ho B fun e => h.sep B hB _ (List.mem_of_getElem? hi) e.symm) fun p hp => by
    obtain ⟨q, hq, e⟩ := key_mem hi hp
    exact .inl ⟨q, hq, e⟩
theorem RJ.get (h : RJ m0 m g r σ) (i : Nat) {b : Nat} {l : List Value} (hi : σ[i]? = some (b, l)) : Arr m b l := (h.st.get i hi).2.2
theorem RJ.mb (h : RJ m0 m g r σ) : m.base ≤ m.n := h.st.sees.self.base
theorem RJ.store (h : RJ m0 m g r σ) (k : Nat) {b o : Nat} {l : List Value} {v : Value} (hk : σ[k]? = some (b, l)) (ho : o < l.length) (hv : okC v = true) :
    ∃ m', storeS 1 (.pointer (some ⟨b, o, none⟩)) v m = some (undef, m') ∧ RJ m0 m' g r (σ.set k (b, l.set o v)) ∧ m'.n = m.n := by
  obtain ⟨m', h1, h2, h3, h4⟩ := h.st.store k hk ho hv
  exact ⟨m', h1, h.put hk h2 h3 h4, h3⟩
theorem RJ.fill (h : RJ m0 m g r σ) (k : Nat) {b : Nat} {l : List Value} (hk : σ[k]? = some (b, l)) {n : Nat} {l' : List Value} (hl : l.length = n) (hl' : l'.length = n) (hv : ∀ v ∈ l', okC v = true) :
    ∃ m', storeS n (.pointer (some ⟨b, 0, none⟩)) (.agg ⟨l'⟩) m = some (undef, m') ∧ RJ m0 m' g r (σ.set k (b, l')) ∧ m'.n = m.n := by
  obtain ⟨m', h1, h2, h3, h4⟩ := h.st.fill k hk hl hl' hv
  exact ⟨m', h1, h.put hk h2 h3 h4, h3⟩
end
/-! a state of the reference: a value -/
def stL (t : Th) (i : Nat) (lv : Value) : List Value := [iv t.loc, t.av, iv i, lv]
/-- the state's value, and its locals -/
structure Sv (m : M) (lv : Value) (ls : List U) : Prop where
  rd : Rd m lv 1 wordRow ls
  ok : okC lv = true
theorem Sv.sees {m m' : M} {lv : Value} {ls : List U} (h : Sv m lv ls) (k : Sees m m') : Sv m' lv ls := ⟨h.rd.sees k, h.ok⟩
abbrev mk0 (i : Nat) (ls : List U) : Ms := ⟨i, ls, wt0, false, u0, false⟩
/-- an act that is reached: it lies there, and may be -/
structure At (m : M) (t : Th) (k na : Nat) (cells : Int) (i : Nat) (a : Ac) : Prop where
  av : Rd m t.av 11 acRow t.acts
  ac : t.acts[i]? = some a
  ok : AcOK m a
  g : AcG k na cells a
theorem At.sees {m m' : M} {t : Th} {k na : Nat} {cells : Int} {i : Nat} {a : Ac} (h : At m t k na cells i a) (e : Sees m m') : At m' t k na cells i a := ⟨h.av.sees e, h.ac, h.ok.sees e, h.g⟩
theorem At.okav {m : M} {t : Th} {k na : Nat} {cells : Int} {i : Nat} {a : Ac} (h : At m t k na cells i a) : okC t.av = true := h.av.okV
theorem stL_ok {t : Th} {i : Nat} {lv : Value} (h1 : okC t.av = true) (h2 : okC lv = true) : ∀ v ∈ stL t i lv, okC v = true := fun v hv => by
  simp only [stL, List.mem_cons, List.not_mem_nil, or_false] at hv
  rcases hv with rfl | rfl | rfl | rfl <;> first | rfl | assumption
theorem Halves_c (n : Nat) {mode : Int} (m : M) : Dx.Call (ex Tryz.prog (n + 1)) 41 [iv mode] m fun v _ => v = .tuple #[iv (rdM mode), iv (wrM mode)] := by
  refine call_ret dc7_ok (by simp) ?_
  have E := Ext.refl m
  by_cases h2 : mode = 2
  · subst h2; simp; exact ret_2 E (by simp [rdM, wrM])
  by_cases h3 : mode = 3
  · subst h3; simp; exact ret_2 E (by simp [rdM, wrM])
  by_cases h4 : mode = 4
  · subst h4; simp; exact ret_2 E (by simp [rdM, wrM])
  by_cases h5 : mode = 5
  · subst h5; simp; exact ret_2 E (by simp [rdM, wrM])
  have d2 : decide (mode = 2) = false := decide_eq_false h2
  have d3 : decide (mode = 3) = false := decide_eq_false h3
  have d4 : decide (mode = 4) = false := decide_eq_false h4
  have d5 : decide (mode = 5) = false := decide_eq_false h5
  simp [d2, d3, d4, d5]
  exact ret_2 E (by simp [rdM, wrM, h2, h3, h4, h5])
theorem Own_c {m : M} {t : Th} {k na : Nat} {cells : Int} {i : Nat} {a : Ac} (hA : At m t k na cells i a) (lv : Value) (N : Nat) (hm : m.base ≤ m.n) : CallV (ex Tryz.prog (N + 1)) 23 [.agg ⟨stL t i lv⟩] m (.bool (ownB a)) := by
  refine call_ret db4_ok (by simp) ?_
  have st1 := (St.nil hm (Ext.refl m)).row (stL t i lv)
  obtain ⟨m1, hm1⟩ : ∃ m1, m1 = Dx.newRow m (stL t i lv) := ⟨_, rfl⟩
  rw [← hm1] at st1
  have l1 : ∀ o s, load1 m1 ⟨m.n, o, s⟩ = (stL t i lv)[o]? := fun o s => (st1.get 0 rfl).2.2.load1 o s
  simp only [stL] at l1 hm1
  obtain ⟨x1, x2, x3⟩ := hA.av.at hA.ac
  have xo : ∀ s, load1 m1 ⟨(adr 11 t.av i).block, (adr 11 t.av i).off, s⟩ = some (iv a.op) := fun s => x3 m1 0 s st1.sees (by simp [acRow])
  have E := st1.ext
  have hb : ownB a = decide (a.op = 1 ∨ a.op = 9 ∨ a.op = 10) := rfl
  rw [hb]
  by_cases h1 : a.op = 1
  · have d1 : decide (a.op = 1) = true := decide_eq_true h1
    rw [decide_eq_true (.inl h1)]
    simp [stL, ← hm1, l1, x1, xo, d1]
    exact ret_1 E (by simp)
  have d1 : decide (a.op = 1) = false := decide_eq_false h1
  by_cases h9 : a.op = 9
  · have d9 : decide (a.op = 9) = true := decide_eq_true h9
    rw [decide_eq_true (.inr (.inl h9))]
    simp [stL, ← hm1, l1, x1, xo, d1, d9]
    exact ret_1 E (by simp)
  have d9 : decide (a.op = 9) = false := decide_eq_false h9
  simp [stL, ← hm1, l1, x1, xo, d1, d9]
  exact ret_1 E (by simp [h1, h9])
end Go.Sx
namespace Go.Dx
end Go.Dx
namespace Go.Sx
open Go.Dx Go.Proofs
set_option maxRecDepth 10000
/-- locals in a block of their own -/
def LvP (m m' : M) (k : Nat) (ls : List U) (lv : Value) : Prop := ∃ B c, lv = .slice (some ⟨B, 0, some c⟩) k k ∧ m.n ≤ B ∧ B < m'.n ∧ Arr m' B (lsR ls) ∧ ls.length = k
theorem LvP.sv {m m' : M} {k : Nat} {ls : List U} {lv : Value} (h : LvP m m' k ls lv) : Sv m' lv ls := by
  obtain ⟨B, c, rfl, h1, h2, h3, rfl⟩ := h
  refine ⟨?_, rfl⟩
  rw [← lsR_flat] at h3
  exact rd_made (f := wordRow) (fun _ => rfl) h3 h2
abbrev Z4 : List Value := [.int .i64 0, .slice none 0 0, .int .i64 0, .slice none 0 0]
theorem Begin_c (t : Th) (k : Nat) (hk : t.loc = k) (hk2 : k ≤ 24) (hok : okC t.av = true) (hsl : ∃ a n c, t.av = .slice a n c) (N : Nat) (m : M) (hm : m.base ≤ m.n) :
    Dx.Call (ex Tryz.prog (N + 1)) 16 [.agg ⟨thRow t⟩] m fun v m' => ∃ lv, v = .agg ⟨stL t 0 lv⟩ ∧ LvP m m' k (List.replicate k u0) lv := by
  refine call_ret da7_ok (by simp) ?_
  obtain ⟨loc, av, acts⟩ := t
  simp only at hk hok hsl
  subst hk
  obtain ⟨a, n, c, rfl⟩ := hsl
  have st1 := (St.nil hm (Ext.refl m)).row [iv k, .slice a n c]
  obtain ⟨m1, hm1⟩ : ∃ m1, m1 = Dx.newRow m [iv k, .slice a n c] := ⟨_, rfl⟩
  rw [← hm1] at st1
  have st2 := st1.row Z4
  obtain ⟨m2, hm2⟩ : ∃ m2, m2 = Dx.newRow m1 Z4 := ⟨_, rfl⟩
  rw [← hm2] at st2
  have l2 : loads m2 ⟨m.n, 0, none⟩ 2 = some [iv k, .slice a n c] := (st2.get 1 rfl).2.2.loads (n := 2) (by simp)
  have l1 : ∀ o s, load1 m2 ⟨m.n, o, s⟩ = [iv k, .slice a n c][o]? := fun o s => (st2.get 1 rfl).2.2.load1 o s
  have mk := mk_rowsN (n := k) (e := 1) (bytes := 8) (zs := [.int .u64 0]) rfl (by omega) (by unfold most; omega) (by omega) m2
  rw [lsR_zero] at mk
  have st3 := st2.row (lsR (List.replicate k u0))
  obtain ⟨m3, hm3⟩ : ∃ x, x = Dx.newRow m2 (lsR (List.replicate k u0)) := ⟨_, rfl⟩
  rw [← hm3] at mk st3
  obtain ⟨lv, hlv⟩ : ∃ lv : Value, lv = .slice (some ⟨m2.n, 0, some (code 1 true)⟩) k k := ⟨_, rfl⟩
  obtain ⟨R, hR⟩ : ∃ R : List Value, R = [.int .i64 k, .slice a n c, .int .i64 0, lv] := ⟨_, rfl⟩
  have b : buildV Z4 [(0, 2, .agg ⟨[iv k, .slice a n c]⟩), (2, 1, .int .i64 0), (3, 1, lv)] = some (.agg ⟨R⟩) := by rw [hR, hlv]; rfl
  rw [← hlv] at mk
  obtain ⟨m4', w1, w2, w3, w4, w5⟩ := st3.fillAny 1 rfl (n := 4) (l' := R) (by omega) rfl (by rw [hR]; rfl) (by rw [hR, hlv]; simp [okC])
  obtain ⟨m4, hm4⟩ : ∃ m4, m4 = behind m3 m4' := ⟨_, rfl⟩
  rw [← hm4] at w3
  have lf : loads m4 ⟨m1.n, 0, none⟩ 4 = some R := by
    subst hR
    exact (w3.get 1 rfl).2.2.loads (n := 4) (by simp)
  have hA := (w3.get 0 rfl).2.2
  have hlt := (w3.get 0 rfl).2.1
  simp [thRow, ← hm1, ← hm2, l2, l1, loadNS_ptr, mk, b, w1, w2, ← hm4]
  refine ret_cell (a := ⟨m1.n, 0, none⟩) (by simp) lf w3.ext ⟨lv, by rw [hR]; rfl, m2.n, _, hlv, by have := st2.ext.n; omega, hlt, hA, List.length_replicate⟩
/-- the locals, one of them changed -/
theorem set_rc {m : M} {t : Th} {i k : Nat} {lv : Value} {ls : List U} (hls : ls.length = k) (hk : k ≤ 24) (hS : Sv m lv ls) (hok : okC t.av = true) (hsl : ∃ a n c, t.av = .slice a n c) (hi : i < 9223372036854775807) {dst : Int} (hd : 0 ≤ dst ∧ dst < k) (v : U) (N : Nat) (hm : m.base ≤ m.n) :
    Dx.Call (ex Tryz.prog (N + 1)) 44 [.agg ⟨stL t i lv⟩, iv dst, uv v.1] m fun w m' => ∃ lv', w = .agg ⟨stL t (i + 1) lv'⟩ ∧ LvP m m' k (ls.set dst.toNat v) lv' := by
  refine call_ret dd0_ok (by simp) ?_
  obtain ⟨d, rfl⟩ : ∃ d : Nat, dst = d := ⟨dst.toNat, by omega⟩
  rw [Int.toNat_natCast]
  have hdk : d < ls.length := by omega
  have st1 := (St.nil hm (Ext.refl m)).row (stL t i lv)
  obtain ⟨m1, hm1⟩ : ∃ m1, m1 = Dx.newRow m (stL t i lv) := ⟨_, rfl⟩
  rw [← hm1] at st1
  have st2 := st1.row Z4
  obtain ⟨m2, hm2⟩ : ∃ m2, m2 = Dx.newRow m1 Z4 := ⟨_, rfl⟩
  rw [← hm2] at st2
  have bs : bsliceS 1 0 (rep 0 [.int .u64 0]) [] m2 = some (.slice (some ⟨m2.n, 0, some (code 1 true)⟩) 0 0, Dx.newRow m2 []) := rfl
  obtain ⟨m3, hm3⟩ : ∃ m3, m3 = Dx.newRow m2 [] := ⟨_, rfl⟩
  have E23 : Ext m2 m3 := by rw [hm3]; exact Ext.row _ _
  have st3 := st2.step E23
  have l3 : ∀ o s, load1 m3 ⟨m.n, o, s⟩ = (stL t i lv)[o]? := fun o s => (st3.get 1 rfl).2.2.load1 o s
  obtain ⟨lv0, m4, a1, a2, a3, a4, a5⟩ := append_clone (m := m2) st2.sees.self.base (hS.rd.sees st2.sees) (fun _ => rfl) 8 (by unfold most; omega) (by omega)
  rw [← hm3] at a1 bs
  have hlv0 := a5 (fun h => by rw [h] at hdk; exact absurd hdk (Nat.not_lt_zero _))
  obtain ⟨B, hBe⟩ : ∃ B, B = m2.n + 1 := ⟨_, rfl⟩
  rw [← hBe] at hlv0
  obtain ⟨hB1, hB5⟩ := a4 B (by rw [hlv0]; rfl)
  rw [lsR_flat] at hB5
  have hB2 : B < m4.n := a3.lt B (by rw [hlv0]; rfl)
  have st4 := (st2.step a2).add (by have := st2.ext.n; omega) hB2 hB5 (fun p hp => by have := (st2.arr p hp).2.1; omega)
  obtain ⟨m5, s1, s2, s3, s4⟩ := st4.store 0 rfl (o := d) (v := uv v.1) (by rw [lsR_len]; exact hdk) rfl
  have s2' : St m m5 [(B, (lsR ls).set d (uv v.1)), (m1.n, Z4), (m.n, stL t i lv)] := s2
  have l5 : ∀ o s, load1 m5 ⟨m.n, o, s⟩ = (stL t i lv)[o]? := fun o s => (s2'.get 2 rfl).2.2.load1 o s
  have l52 : loads m5 ⟨m.n, 0, none⟩ 2 = some [iv t.loc, t.av] := (s2'.get 2 rfl).2.2.loads (n := 2) (by simp [stL])
  obtain ⟨a, n, c, hav⟩ := hsl
  have ni : IntKind.i64.wrap ((i : Int) + 1) = ((i + 1 : Nat) : Int) := nextI (i := i) (by omega)
  obtain ⟨lv2, hlv⟩ : ∃ lv2 : Value, lv2 = .slice (some ⟨B, 0, some (code 1 false)⟩) ls.length ls.length := ⟨_, rfl⟩
  obtain ⟨i1, hi1⟩ : ∃ i1 : Nat, i1 = i + 1 := ⟨_, rfl⟩
  rw [← hi1] at ni ⊢
  obtain ⟨R, hR⟩ : ∃ R : List Value, R = stL t i1 lv2 := ⟨_, rfl⟩
  have b : buildV Z4 [(0, 2, .agg ⟨[iv t.loc, t.av]⟩), (2, 1, .int .i64 i1), (3, 1, lv2)] = some (.agg ⟨R⟩) := by rw [hR, hlv, hav]; unfold stL; rw [hav]; rfl
  have lvok : okC lv2 = true := by rw [hlv]; rfl
  obtain ⟨m6, w1, w2, w3, w4⟩ := s2'.fill 1 rfl (n := 4) (l' := R) rfl (by rw [hR]; rfl) (by rw [hR]; exact stL_ok hok lvok)
  have w2' : St m m6 [(B, (lsR ls).set d (uv v.1)), (m1.n, R), (m.n, stL t i lv)] := w2
  have lf : loads m6 ⟨m1.n, 0, none⟩ 4 = some R := by
    subst hR
    exact (w2'.get 1 rfl).2.2.loads (n := 4) (by simp [stL])
  have ia : iaddrSV 1 lv0 (iv d) = some (.pointer (some ⟨B, d, none⟩)) := by
    rw [hlv0]
    show (bif Nat.blt d ls.length then _ else _) = _
    rw [show Nat.blt d ls.length = true from Nat.ble_eq_true_of_le hdk]
    simp [addA]
  rw [hlv0, ← hlv] at a1 ia
  simp only [stL] at hm1 l3 l5
  simp [stL, loadNS_ptr, ← hm1, ← hm2, bs, l3, a1, ia, s1, l5, l52, ni, b, w1]
  exact ret_cell (a := ⟨m1.n, 0, none⟩) (by simp) lf w2'.ext ⟨lv2, by rw [hR, hi1]; rfl, B, _, by rw [hlv, hls], by have := st2.ext.n; omega, (w2'.get 0 rfl).2.1, by rw [← lsR_set]; exact (w2'.get 0 rfl).2.2, by simp [hls]⟩
end Go.Sx
namespace Go.Sx
open Go.Dx Go.Proofs
set_option maxRecDepth 10000
theorem Of_u {k : Nat} {ls : List U} (hk : ls.length = k) {e : List Nd} {ed ld : Value} (he : exprB k e = true) (N : Nat) (m : M) (hm : m.base ≤ m.n) (hed : Rd m ed 4 nodeRow e) (hld : Rd m ld 1 wordRow ls) :
    CallV (ex Tryz.prog (N + 65540)) 43 [ed, ld] m (uv (valE ls e).1) := by
  obtain ⟨x1, x2, x3⟩ := exprB_oks he
  exact Of_c ls e ed ld x2 x1 (by rw [hk]; exact x3) (N + 65540) (by omega) m hm hed hld
theorem placeB_pow {cells : Int} {k : Nat} {a : Ac} (h : placeB cells k a = true) (h0 : ¬ a.size = 0) (x : Nat) : x % a.size.toNat = x &&& (a.size.toNat - 1) := by
  unfold placeB at h
  simp only [Bool.and_eq_true, decide_eq_true_eq] at h
  obtain ⟨i, _, hi⟩ := (pow_all a.size.toNat (by omega)).1 ⟨by omega, h.1.1.2⟩
  rw [hi, Nat.and_two_pow_sub_one_eq_mod]
theorem Loc_rc {k : Nat} {ls : List U} (hk : ls.length = k) {cells : Int} (hc : cells ≤ 4096) (a : Ac) (hpl : placeB cells k a = true) {lv : Value} (N : Nat) (m : M) (hm : m.base ≤ m.n) (hS : Sv m lv ls) (ha : AcOK m a) :
    CallV (ex Tryz.prog (N + 65541)) 42 [.agg ⟨acRow a⟩, lv] m (iv (locV ls a)) := by
  refine call_ret dc8_ok (by simp) ?_
  obtain ⟨p1, p2, p3, p4, p5⟩ := placeB_g hpl
  have st1 := (St.nil hm (Ext.refl m)).row (acRow a)
  obtain ⟨m1, hm1⟩ : ∃ m1, m1 = Dx.newRow m (acRow a) := ⟨_, rfl⟩
  rw [← hm1] at st1
  have la : ∀ o s, load1 m1 ⟨m.n, o, s⟩ = (acRow a)[o]? := fun o s => (st1.get 0 rfl).2.2.load1 o s
  have ha1 := ha.sees st1.sees
  simp only [acRow] at la
  by_cases h0 : a.size = 0
  · have hl : locV ls a = a.base := if_pos h0
    have d0 : decide (a.size = 0) = true := decide_eq_true h0
    rw [hl]
    simp [← hm1, la, d0]
    exact ret_1 st1.ext (by simp)
  · have d0 : decide (a.size = 0) = false := decide_eq_false h0
    have he : exprB k a.ixs = true := by rcases p5 with h | h; exact absurd h h0; exact h
    have hpw := placeB_pow hpl h0
    obtain ⟨z, hz⟩ : ∃ z : Nat, a.size = ((z + 1 : Nat) : Int) := ⟨a.size.toNat - 1, by omega⟩
    have hzz : a.size.toNat - 1 = z := by omega
    have hzt : a.size.toNat = z + 1 := by omega
    obtain ⟨v3, m3', c1, c2, c3, rfl⟩ := any_call (Of_u hk he N (forAny m1) (sees_any st1.sees).base (ha.ix.sees (sees_any st1.sees)) (hS.rd.sees (sees_any st1.sees)))
    obtain ⟨m3, hm3⟩ : ∃ m3, m3 = behind m1 m3' := ⟨_, rfl⟩
    rw [← hm3] at c3
    have st3 := st1.step c3
    have la3 : ∀ o s, load1 m3 ⟨m.n, o, s⟩ = (acRow a)[o]? := fun o s => (st3.get 0 rfl).2.2.load1 o s
    simp only [acRow] at la3
    obtain ⟨w, hw⟩ : ∃ w, w = valE ls a.ixs := ⟨_, rfl⟩
    rw [← hw] at c1
    have q2 : convIV .u64 (.int .i64 a.size) = some (uv (z + 1)) := by rw [hz]; exact convI_u64 (z + 1) (by omega)
    have q3 := u_rem (a := w.1) (b := z + 1) (by omega)
    obtain ⟨r, hr⟩ : ∃ r, r = w.1 % (z + 1) := ⟨_, rfl⟩
    have hrz : r < z + 1 := by rw [hr]; exact Nat.mod_lt _ (by omega)
    rw [← hr] at q3
    have q4 : convIV .i64 (.int .u64 (r : Int)) = some (.int .i64 (r : Int)) := by
      show some (Value.int .i64 (wrapF .i64 (r : Int))) = _
      rw [wrapF_eq, wrap64 _ (by omega) (by omega)]
    have q5 : binV .add (.int .i64 a.base) (.int .i64 (r : Int)) = some (.int .i64 (a.base + r)) := by rw [binV_add, wrap64 _ (by omega) (by omega)]
    have hl : locV ls a = a.base + (r : Int) := by unfold locV; rw [if_neg h0, ← hw, hr, ← hzt, hpw w.1]
    rw [hl]
    simp [-binV_sub, -binV_add, ← hm1, la, d0, c1, c2, la3, q2, q3, q4, q5, ← hm3]
    exact ret_1 st3.ext (by simp)
section
variable {m : M} {t : Th} {k na : Nat} {cells : Int} {i : Nat} {a : Ac} {lv : Value} {ls : List U}
theorem sl_of {m : M} {v : Value} {e : Nat} {α : Type} {f : α → List Value} {l : List α} (h : Rd m v e f l) : ∃ a n c, v = .slice a n c := by
  have := h.len
  cases v with
  | slice a n c => exact ⟨a, n, c, rfl⟩
  | _ => cases this
theorem LvP.up {m0 m m' m'' : M} {k : Nat} {ls : List U} {lv : Value} (h : LvP m m' k ls lv) (h0 : m0.n ≤ m.n) (e : m'.n ≤ m''.n) (ho : ∀ B, m.n ≤ B → B < m'.n → m''.obj B = m'.obj B) : LvP m0 m'' k ls lv := by
  obtain ⟨B, c, h1, h2, h3, h4, h5⟩ := h
  exact ⟨B, c, h1, by omega, by omega, h4.congr (ho B h2 h3), h5⟩
/-- the locals are as they were, or new ones -/
def LvS (m m' : M) (k : Nat) (ls : List U) (lv : Value) (ls' : List U) (lv' : Value) : Prop := (lv' = lv ∧ ls' = ls) ∨ LvP m m' k ls' lv'
/-- behind an act that wants nothing -/
theorem Alone_c (hA : At m t k na cells i a) (hS : Sv m lv ls) (hls : ls.length = k) (hk : k ≤ 24) (hi : i < 9223372036854775807) (how : ownB a = true) (N : Nat) (hm : m.base ≤ m.n) :
    Dx.Call (ex Tryz.prog (N + 65541)) 24 [.agg ⟨stL t i lv⟩] m fun w m' => ∃ lv', w = .agg ⟨stL t (ownS (mk0 i ls) a).at_ lv'⟩ ∧ LvS m m' k ls lv (ownS (mk0 i ls) a).ls lv' := by
  refine call_ret db5_ok (by simp) ?_
  have st1 := (St.nil hm (Ext.refl m)).row (stL t i lv)
  obtain ⟨m1, hm1⟩ : ∃ m1, m1 = Dx.newRow m (stL t i lv) := ⟨_, rfl⟩
  rw [← hm1] at st1
  have st2 := st1.row Z4
  obtain ⟨m2, hm2⟩ : ∃ m2, m2 = Dx.newRow m1 Z4 := ⟨_, rfl⟩
  rw [← hm2] at st2
  have l2 : ∀ o s, load1 m2 ⟨m.n, o, s⟩ = (stL t i lv)[o]? := fun o s => (st2.get 1 rfl).2.2.load1 o s
  have hA2 := hA.sees st2.sees
  obtain ⟨x1, x2, x3⟩ := hA2.av.at hA2.ac
  have x2' := x2 m2 (Sees.refl st2.sees.self.base)
  have st3 := st2.row Z11
  obtain ⟨m3, hm3⟩ : ∃ m3, m3 = Dx.newRow m2 Z11 := ⟨_, rfl⟩
  rw [← hm3] at st3
  obtain ⟨m4, f1, f2, f3, f4⟩ := st3.fill 0 rfl (n := 11) (l' := acRow a) rfl rfl (acRow_ok hA.ok)
  have st4 : St m m4 [(m2.n, acRow a), (m1.n, Z4), (m.n, stL t i lv)] := f2
  have la : ∀ o s, load1 m4 ⟨m2.n, o, s⟩ = (acRow a)[o]? := fun o s => (st4.get 0 rfl).2.2.load1 o s
  have lt : ∀ o s, load1 m4 ⟨m.n, o, s⟩ = (stL t i lv)[o]? := fun o s => (st4.get 2 rfl).2.2.load1 o s
  have l44 : loads m4 ⟨m.n, 0, none⟩ 4 = some (stL t i lv) := (st4.get 2 rfl).2.2.loads (n := 4) (by simp [stL])
  have hsl := sl_of hA.av
  have hop := of_decide_eq_true how
  simp only [acRow] at la
  simp only [stL] at lt l2 l44
  have hm1' := hm1
  simp only [stL] at hm1'
  obtain ⟨i1, hi1⟩ : ∃ i1 : Nat, i1 = i + 1 := ⟨_, rfl⟩
  by_cases h1 : a.op = 1
  · have d1 : decide (a.op = 1) = true := decide_eq_true h1
    have hdst := hA.g.d (by rw [h1]; rfl)
    have hx := hA.g.e (by rw [h1]; rfl)
    have ho : ownS (mk0 i ls) a = setS (mk0 i ls) a := if_pos h1
    rw [ho]
    obtain ⟨v5, m5', c1, c2, c3, rfl⟩ := any_call (Of_u hls hx N (forAny m4) (sees_any st4.sees).base (hA.ok.ev.sees (sees_any st4.sees)) (hS.rd.sees (sees_any st4.sees)))
    obtain ⟨m5, hm5⟩ : ∃ m5, m5 = behind m4 m5' := ⟨_, rfl⟩
    rw [← hm5] at c3
    have st5 := st4.step c3
    obtain ⟨v6, m6', e1, e2, e3, lv', rfl, hS6⟩ := any_call (set_rc (m := forAny m5) (t := t) (i := i) hls hk (hS.sees (sees_any st5.sees)) hA.okav hsl hi hdst (valE ls a.es) (N + 65539) (sees_any st5.sees).base)
    have okl := hS6.sv.ok
    rw [← hi1] at e1
    obtain ⟨m6, hm6⟩ : ∃ m6, m6 = behind m5 m6' := ⟨_, rfl⟩
    rw [← hm6] at e3
    have st6 := st5.step e3
    obtain ⟨m7', w1, w2, w3, w4, w5⟩ := st6.fillAny 1 rfl (n := 4) (l' := stL t i1 lv') (by omega) rfl rfl (stL_ok hA.okav okl)
    obtain ⟨m7, hm7⟩ : ∃ m7, m7 = behind m6 m7' := ⟨_, rfl⟩
    rw [← hm7] at w3 w4 w5
    have lf : loads m7 ⟨m1.n, 0, none⟩ 4 = some (stL t i1 lv') := (w3.get 1 rfl).2.2.loads (n := 4) (by simp [stL])
    have hP : LvP m m7 k (ls.set a.dst.toNat (valE ls a.es)) lv' := by
      have h5 := st5.ext.n
      have hm1lt := (st5.get 1 rfl).2.1
      refine hS6.up (by rw [forAny_n]; exact h5) (by rw [w4, hm6, behind_n]; exact Nat.le_refl _) fun B hB hB2 => ?_
      rw [forAny_n] at hB
      rw [w5 B (by omega), hm6, behind_obj]
    simp only [stL] at e1 w1
    simp [stL, ← hm1', ← hm2, l2, x1, x2', ← hm3, f1, la, lt, l44, d1, loadNS_ptr, c1, c2, ← hm5, e1, e2, ← hm6, w1, w2, ← hm7]
    exact ret_cell (a := ⟨m1.n, 0, none⟩) (by simp) lf w3.ext ⟨lv', by rw [hi1]; rfl, .inr hP⟩
  have d1 : decide (a.op = 1) = false := decide_eq_false h1
  have ni : IntKind.i64.wrap ((i : Int) + 1) = ((i + 1 : Nat) : Int) := nextI (i := i) (by omega)
  rw [← hi1] at ni
  obtain ⟨m5, s1, s2, s3, s4⟩ := st4.store 2 rfl (o := 2) (v := iv i1) (by simp [stL]) rfl
  have s2' : St m m5 [(m2.n, acRow a), (m1.n, Z4), (m.n, stL t i1 lv)] := s2
  have la5 : ∀ o s, load1 m5 ⟨m2.n, o, s⟩ = (acRow a)[o]? := fun o s => (s2'.get 0 rfl).2.2.load1 o s
  have lt5 : ∀ o s, load1 m5 ⟨m.n, o, s⟩ = (stL t i1 lv)[o]? := fun o s => (s2'.get 2 rfl).2.2.load1 o s
  simp only [acRow] at la5
  simp only [stL] at lt5
  have hto := hA.g.t (show pT a.op = true by unfold pT; exact decide_eq_true (by omega))
  obtain ⟨q, hq⟩ : ∃ q : Nat, a.to = q := ⟨a.to.toNat, by omega⟩
  -- the end
  have fin : ∀ (j : Nat) (m6 : M) (tt : Tm), St m m6 [(m2.n, acRow a), (m1.n, Z4), (m.n, stL t j lv)] → Tm.get 1 tt = .pointer (some ⟨m.n, 0, none⟩) → Tm.get 2 tt = .pointer (some ⟨m1.n, 0, none⟩) → (ownS (mk0 i ls) a).at_ = j → (ownS (mk0 i ls) a).ls = ls →
      Ret m (fun w m' => ∃ lv', w = .agg ⟨stL t (ownS (mk0 i ls) a).at_ lv'⟩ ∧ LvS m m' k ls lv (ownS (mk0 i ls) a).ls lv') (cb5_6 (ex Tryz.prog (N + 65540)) (resK [.cell 2 4]) noK (resK [.cell 2 4]) tt m6) := fun j m6 tt h6 t1 t2 ej el => by
    have l6 : loads m6 ⟨m.n, 0, none⟩ 4 = some (stL t j lv) := (h6.get 2 rfl).2.2.loads (n := 4) (by simp [stL])
    obtain ⟨m7, w1, w2, w3, w4⟩ := h6.fill 1 rfl (n := 4) (l' := stL t j lv) rfl rfl (stL_ok hA.okav hS.ok)
    have lf : loads m7 ⟨m1.n, 0, none⟩ 4 = some (stL t j lv) := (w2.get 1 rfl).2.2.loads (n := 4) (by simp [stL])
    rw [ej, el]
    simp [t1, t2, loadNS_ptr, l6, w1]
    exact ret_cell (a := ⟨m1.n, 0, none⟩) (by simp [t2]) lf w2.ext ⟨lv, rfl, .inl ⟨rfl, rfl⟩⟩
  by_cases h9 : a.op = 9
  · have d9 : decide (a.op = 9) = true := decide_eq_true h9
    have ho : ownS (mk0 i ls) a = jumpS (mk0 i ls) a := by unfold ownS; rw [if_neg h1, if_pos h9]
    obtain ⟨m6, r1, r2, r3, r4⟩ := s2'.store 2 rfl (o := 2) (v := iv q) (by simp [stL]) rfl
    have r2' : St m m6 [(m2.n, acRow a), (m1.n, Z4), (m.n, stL t q lv)] := r2
    simp [stL, ← hm1', ← hm2, l2, x1, x2', ← hm3, f1, la, lt, d1, loadNS_ptr, ni, s1, la5, lt5, d9, hq, r1, -cb5_6_ap]
    exact fin q m6 _ r2' (by simp) (by simp) (by rw [ho]; show a.to.toNat = q; omega) (by rw [ho]; rfl)
  have d9 : decide (a.op = 9) = false := decide_eq_false h9
  have hx := hA.g.e (show pE a.op = true by unfold pE; exact decide_eq_true (by omega))
  have ho : ownS (mk0 i ls) a = zeroS (mk0 i ls) a := by unfold ownS; rw [if_neg h1, if_neg h9]
  obtain ⟨v6, m6, c1, c2, rfl⟩ := Of_u hls hx N m5 s2'.sees.self.base (hA.ok.ev.sees s2'.sees) (hS.rd.sees s2'.sees)
  have st6 := s2'.step c2
  have la6 : ∀ o s, load1 m6 ⟨m2.n, o, s⟩ = (acRow a)[o]? := fun o s => (st6.get 0 rfl).2.2.load1 o s
  simp only [acRow] at la6
  obtain ⟨w, hw⟩ : ∃ w, w = (valE ls a.es).1 := ⟨_, rfl⟩
  rw [← hw] at c1
  by_cases h0 : w = 0
  · have d0 : decide (w = 0) = true := decide_eq_true h0
    obtain ⟨m7, r1, r2, r3, r4⟩ := st6.store 2 rfl (o := 2) (v := iv q) (by simp [stL]) rfl
    have r2' : St m m7 [(m2.n, acRow a), (m1.n, Z4), (m.n, stL t q lv)] := r2
    simp [stL, ← hm1', ← hm2, l2, x1, x2', ← hm3, f1, la, lt, d1, loadNS_ptr, ni, s1, la5, lt5, d9, c1, d0, la6, hq, r1, -cb5_6_ap]
    exact fin q m7 _ r2' (by simp) (by simp) (by rw [ho]; show (if (valE ls a.es).1 = 0 then a.to.toNat else i + 1) = q; rw [if_pos (by rw [← hw]; exact h0)]; omega) (by rw [ho]; rfl)
  · have d0 : decide (w = 0) = false := decide_eq_false h0
    simp [stL, ← hm1', ← hm2, l2, x1, x2', ← hm3, f1, la, lt, d1, loadNS_ptr, ni, s1, la5, lt5, d9, c1, d0, la6, hq, -cb5_6_ap]
    exact fin i1 m6 _ st6 (by simp) (by simp) (by rw [ho]; show (if (valE ls a.es).1 = 0 then a.to.toNat else i + 1) = i1; rw [if_neg (by rw [← hw]; exact h0)]; omega) (by rw [ho]; rfl)
end
end Go.Sx
namespace Go.Sx
open Go.Dx Go.Proofs
set_option maxRecDepth 10000
theorem w_then (x y z : Int) : buildV Z6 [(0, 1, .int .i64 2), (1, 1, .int .i64 x), (2, 1, .int .i64 y), (4, 1, .bool true), (3, 1, .int .u64 z)] = some (.agg ⟨[.int .i64 2, .int .i64 x, .int .i64 y, .int .u64 z, .bool true, .bool false]⟩) := rfl
/-- what a pair's act wants behind its load -/
def thenW (ls : List U) (a : Ac) (v : U) : Wt := if a.op = 6 ∧ ¬ (valE ls a.es).1 = v.1 then wt0 else wantOf ⟨0, ls, wt0, false, v, true⟩ a
def doneL (ls : List U) (a : Ac) (v : U) : List U := if a.op = 3 ∨ a.op = 7 ∨ a.op = 8 then ls else ls.set a.dst.toNat v
theorem noOwn {a : Ac} (h : ownB a = false) : a.op ≠ 1 ∧ a.op ≠ 9 ∧ a.op ≠ 10 := by
  have := of_decide_eq_false h
  exact ⟨fun e => this (.inl e), fun e => this (.inr (.inl e)), fun e => this (.inr (.inr e))⟩
section
variable {m : M} {t : Th} {k na : Nat} {cells : Int} {i : Nat} {a : Ac} {lv : Value} {ls : List U}
theorem Wants_c (hc : cells ≤ 4096) (hA : At m t k na cells i a) (hS : Sv m lv ls) (hls : ls.length = k) (how : ownB a = false) (N : Nat) (hm : m.base ≤ m.n) :
    CallV (ex Tryz.prog (N + 65542)) 25 [.agg ⟨stL t i lv⟩] m (.agg ⟨wtL (wantOf (mk0 i ls) a)⟩) := by
  refine call_ret db6_ok (by simp) ?_
  have st1 := (St.nil hm (Ext.refl m)).row (stL t i lv)
  obtain ⟨m1, hm1⟩ : ∃ m1, m1 = Dx.newRow m (stL t i lv) := ⟨_, rfl⟩
  rw [← hm1] at st1
  have st2 := st1.row Z6
  obtain ⟨m2, hm2⟩ : ∃ m2, m2 = Dx.newRow m1 Z6 := ⟨_, rfl⟩
  rw [← hm2] at st2
  have l2 : ∀ o s, load1 m2 ⟨m.n, o, s⟩ = (stL t i lv)[o]? := fun o s => (st2.get 1 rfl).2.2.load1 o s
  have hA2 := hA.sees st2.sees
  obtain ⟨x1, x2, x3⟩ := hA2.av.at hA2.ac
  have x2' := x2 m2 (Sees.refl st2.sees.self.base)
  have st3 := st2.row Z11
  obtain ⟨m3, hm3⟩ : ∃ m3, m3 = Dx.newRow m2 Z11 := ⟨_, rfl⟩
  rw [← hm3] at st3
  obtain ⟨m4, f1, f2, f3, f4⟩ := st3.fill 0 rfl (n := 11) (l' := acRow a) rfl rfl (acRow_ok hA.ok)
  have st4 : St m m4 [(m2.n, acRow a), (m1.n, Z6), (m.n, stL t i lv)] := f2
  have la4 : ∀ o s, load1 m4 ⟨m2.n, o, s⟩ = (acRow a)[o]? := fun o s => (st4.get 0 rfl).2.2.load1 o s
  obtain ⟨v5, m5, c1, c2, rfl⟩ := Halves_c (N + 65540) (mode := a.mode) m4
  have st5 := st4.step c2
  have la : ∀ o s, load1 m5 ⟨m2.n, o, s⟩ = (acRow a)[o]? := fun o s => (st5.get 0 rfl).2.2.load1 o s
  have lt : ∀ o s, load1 m5 ⟨m.n, o, s⟩ = (stL t i lv)[o]? := fun o s => (st5.get 2 rfl).2.2.load1 o s
  have l11 : loads m5 ⟨m2.n, 0, none⟩ 11 = some (acRow a) := (st5.get 0 rfl).2.2.loads (n := 11) (by simp [acRow])
  simp only [acRow] at la la4
  simp only [stL] at lt l2
  have hm1' := hm1
  simp only [stL] at hm1'
  have hno := noOwn how
  obtain ⟨h1, h9, h10⟩ := hno
  have hop := hA.g.op
  obtain ⟨x, hx⟩ : ∃ x, x = locV ls a := ⟨_, rfl⟩
  by_cases h2 : a.op = 2
  · have d2 : decide (a.op = 2) = true := decide_eq_true h2
    obtain ⟨v6, m6', e1, e2, e3, rfl⟩ := any_call (Loc_rc hls hc a (hA.g.p (by rw [h2]; rfl)) N (forAny m5) (sees_any st5.sees).base (hS.sees (sees_any st5.sees)) (hA.ok.sees (sees_any st5.sees)))
    obtain ⟨m6, hm6⟩ : ∃ m6, m6 = behind m5 m6' := ⟨_, rfl⟩
    rw [← hm6] at e3
    have st6 := st5.step e3
    have la6 : ∀ o s, load1 m6 ⟨m2.n, o, s⟩ = (acRow a)[o]? := fun o s => (st6.get 0 rfl).2.2.load1 o s
    simp only [acRow] at la6
    rw [← hx] at e1
    have hw : wantOf (mk0 i ls) a = ⟨1, x, a.mode, u0, false⟩ := by unfold wantOf; rw [if_pos h2, hx]
    rw [hw]
    have hz : wtL ⟨1, x, a.mode, u0, false⟩ = [.int .i64 1, .int .i64 x, .int .i64 a.mode, .int .u64 0, .bool false, .bool false] := rfl
    rw [hz]
    obtain ⟨m7', w1, w2, w3, w4, w5⟩ := st6.fillAny 1 rfl (n := 6) (l' := [.int .i64 1, .int .i64 x, .int .i64 a.mode, .int .u64 0, .bool false, .bool false]) (by omega) rfl rfl (by simp [okC])
    obtain ⟨m7, hm7⟩ : ∃ m7, m7 = behind m6 m7' := ⟨_, rfl⟩
    rw [← hm7] at w3
    have lf : loads m7 ⟨m1.n, 0, none⟩ 6 = some _ := (w3.get 1 rfl).2.2.loads (n := 6) (by simp)
    simp [stL, ← hm1', ← hm2, l2, x1, x2', ← hm3, f1, la4, c1, extractV, la, lt, l11, d2, loadNS_ptr, e1, e2, ← hm6, la6, w_load, w1, ← hm7]
    exact ret_cell (a := ⟨m1.n, 0, none⟩) (by simp) lf w3.ext rfl
  have d2 : decide (a.op = 2) = false := decide_eq_false h2
  by_cases h3 : a.op = 3
  · have d3 : decide (a.op = 3) = true := decide_eq_true h3
    obtain ⟨v6, m6', e1, e2, e3, rfl⟩ := any_call (Loc_rc hls hc a (hA.g.p (by rw [h3]; rfl)) N (forAny m5) (sees_any st5.sees).base (hS.sees (sees_any st5.sees)) (hA.ok.sees (sees_any st5.sees)))
    obtain ⟨m6, hm6⟩ : ∃ m6, m6 = behind m5 m6' := ⟨_, rfl⟩
    rw [← hm6] at e3
    have st6 := st5.step e3
    have la6 : ∀ o s, load1 m6 ⟨m2.n, o, s⟩ = (acRow a)[o]? := fun o s => (st6.get 0 rfl).2.2.load1 o s
    have lt6 : ∀ o s, load1 m6 ⟨m.n, o, s⟩ = (stL t i lv)[o]? := fun o s => (st6.get 2 rfl).2.2.load1 o s
    simp only [acRow] at la6
    simp only [stL] at lt6
    rw [← hx] at e1
    obtain ⟨v7, m7', g1, g2, g3, rfl⟩ := any_call (Of_u hls (hA.g.e (by rw [h3]; rfl)) (N + 1) (forAny m6) (sees_any st6.sees).base (hA.ok.ev.sees (sees_any st6.sees)) (hS.rd.sees (sees_any st6.sees)))
    obtain ⟨m7, hm7⟩ : ∃ m7, m7 = behind m6 m7' := ⟨_, rfl⟩
    rw [← hm7] at g3
    have st7 := st6.step g3
    obtain ⟨y, hy⟩ : ∃ y, y = valE ls a.es := ⟨_, rfl⟩
    rw [← hy] at g1
    have hw : wantOf (mk0 i ls) a = ⟨2, x, a.mode, y, false⟩ := by unfold wantOf; rw [if_neg h2, if_pos h3, hx, hy]
    rw [hw]
    have hz : wtL ⟨2, x, a.mode, y, false⟩ = [.int .i64 2, .int .i64 x, .int .i64 a.mode, .int .u64 y.1, .bool false, .bool false] := rfl
    rw [hz]
    obtain ⟨m8', w1, w2, w3, w4, w5⟩ := st7.fillAny 1 rfl (n := 6) (l' := [.int .i64 2, .int .i64 x, .int .i64 a.mode, .int .u64 y.1, .bool false, .bool false]) (by omega) rfl rfl (by simp [okC])
    obtain ⟨m8, hm8⟩ : ∃ m8, m8 = behind m7 m8' := ⟨_, rfl⟩
    rw [← hm8] at w3
    have lf : loads m8 ⟨m1.n, 0, none⟩ 6 = some _ := (w3.get 1 rfl).2.2.loads (n := 6) (by simp)
    simp [stL, ← hm1', ← hm2, l2, x1, x2', ← hm3, f1, la4, c1, extractV, la, lt, l11, d2, d3, loadNS_ptr, e1, e2, ← hm6, la6, lt6, g1, g2, ← hm7, w_store, w1, ← hm8]
    exact ret_cell (a := ⟨m1.n, 0, none⟩) (by simp) lf w3.ext rfl
  have d3 : decide (a.op = 3) = false := decide_eq_false h3
  by_cases h7 : a.op = 7
  · have d7 : decide (a.op = 7) = true := decide_eq_true h7
    have hw : wantOf (mk0 i ls) a = ⟨3, 0, a.mode, u0, false⟩ := by unfold wantOf; rw [if_neg h2, if_neg h3, if_pos h7]
    rw [hw]
    have hz : wtL ⟨3, 0, a.mode, u0, false⟩ = [.int .i64 3, .int .i64 0, .int .i64 a.mode, .int .u64 0, .bool false, .bool false] := rfl
    rw [hz]
    obtain ⟨m8, w1, w3, w4, w5⟩ := st5.fill 1 rfl (n := 6) (l' := [.int .i64 3, .int .i64 0, .int .i64 a.mode, .int .u64 0, .bool false, .bool false]) rfl rfl (by simp [okC])
    have lf : loads m8 ⟨m1.n, 0, none⟩ 6 = some _ := (w3.get 1 rfl).2.2.loads (n := 6) (by simp)
    simp [stL, ← hm1', ← hm2, l2, x1, x2', ← hm3, f1, la4, c1, extractV, la, lt, d2, d3, d7, loadNS_ptr, w_fence, w1]
    exact ret_cell (a := ⟨m1.n, 0, none⟩) (by simp) lf w3.ext rfl
  have d7 : decide (a.op = 7) = false := decide_eq_false h7
  by_cases h8 : a.op = 8
  · have d8 : decide (a.op = 8) = true := decide_eq_true h8
    obtain ⟨v7, m7, g1, g2, rfl⟩ := Of_u hls (hA.g.e (by rw [h8]; rfl)) (N + 1) m5 st5.sees.self.base (hA.ok.ev.sees st5.sees) (hS.rd.sees st5.sees)
    have st7 := st5.step g2
    obtain ⟨y, hy⟩ : ∃ y, y = valE ls a.es := ⟨_, rfl⟩
    rw [← hy] at g1
    have hw : wantOf (mk0 i ls) a = ⟨4, 0, 0, y, false⟩ := by unfold wantOf; rw [if_neg h2, if_neg h3, if_neg h7, if_pos h8, hy]
    rw [hw]
    have hz : wtL ⟨4, 0, 0, y, false⟩ = [.int .i64 4, .int .i64 0, .int .i64 0, .int .u64 y.1, .bool false, .bool false] := rfl
    rw [hz]
    obtain ⟨m8, w1, w3, w4, w5⟩ := st7.fill 1 rfl (n := 6) (l' := [.int .i64 4, .int .i64 0, .int .i64 0, .int .u64 y.1, .bool false, .bool false]) rfl rfl (by simp [okC])
    have lf : loads m8 ⟨m1.n, 0, none⟩ 6 = some _ := (w3.get 1 rfl).2.2.loads (n := 6) (by simp)
    simp [stL, ← hm1', ← hm2, l2, x1, x2', ← hm3, f1, la4, c1, extractV, la, lt, d2, d3, d7, d8, loadNS_ptr, g1, w_print, w1]
    exact ret_cell (a := ⟨m1.n, 0, none⟩) (by simp) lf w3.ext rfl
  have d8 : decide (a.op = 8) = false := decide_eq_false h8
  have hpP : pP a.op = true := by unfold pP; exact decide_eq_true (by omega)
  obtain ⟨v6, m6, e1, e2, rfl⟩ := Loc_rc hls hc a (hA.g.p hpP) N m5 st5.sees.self.base (hS.sees st5.sees) (hA.ok.sees st5.sees)
  have st6 := st5.step e2
  rw [← hx] at e1
  have hw : wantOf (mk0 i ls) a = ⟨1, x, rdM a.mode, u0, true⟩ := by unfold wantOf; rw [if_neg h2, if_neg h3, if_neg h7, if_neg h8, hx]; rfl
  rw [hw]
  have hz : wtL ⟨1, x, rdM a.mode, u0, true⟩ = [.int .i64 1, .int .i64 x, .int .i64 (rdM a.mode), .int .u64 0, .bool true, .bool false] := rfl
  rw [hz]
  obtain ⟨m8, w1, w3, w4, w5⟩ := st6.fill 1 rfl (n := 6) (l' := [.int .i64 1, .int .i64 x, .int .i64 (rdM a.mode), .int .u64 0, .bool true, .bool false]) rfl rfl (by simp [okC])
  have lf : loads m8 ⟨m1.n, 0, none⟩ 6 = some _ := (w3.get 1 rfl).2.2.loads (n := 6) (by simp)
  simp [stL, ← hm1', ← hm2, l2, x1, x2', ← hm3, f1, la4, c1, extractV, la, lt, l11, d2, d3, d7, d8, loadNS_ptr, e1, w_pair, w1]
  exact ret_cell (a := ⟨m1.n, 0, none⟩) (by simp) lf w3.ext rfl
/-- behind an act that wants something -/
theorem Done_c (hA : At m t k na cells i a) (hS : Sv m lv ls) (hls : ls.length = k) (hk : k ≤ 24) (hi : i < 9223372036854775807) (how : ownB a = false) (v : U) (N : Nat) (hm : m.base ≤ m.n) :
    Dx.Call (ex Tryz.prog (N + 2)) 22 [.agg ⟨stL t i lv⟩, uv v.1] m fun w m' => ∃ lv', w = .agg ⟨stL t (i + 1) lv'⟩ ∧ LvS m m' k ls lv (doneL ls a v) lv' := by
  refine call_ret db3_ok (by simp) ?_
  have st1 := (St.nil hm (Ext.refl m)).row (stL t i lv)
  obtain ⟨m1, hm1⟩ : ∃ m1, m1 = Dx.newRow m (stL t i lv) := ⟨_, rfl⟩
  rw [← hm1] at st1
  have st2 := st1.row Z4
  obtain ⟨m2, hm2⟩ : ∃ m2, m2 = Dx.newRow m1 Z4 := ⟨_, rfl⟩
  rw [← hm2] at st2
  have l2 : ∀ o s, load1 m2 ⟨m.n, o, s⟩ = (stL t i lv)[o]? := fun o s => (st2.get 1 rfl).2.2.load1 o s
  have hA2 := hA.sees st2.sees
  obtain ⟨x1, x2, x3⟩ := hA2.av.at hA2.ac
  have x2' := x2 m2 (Sees.refl st2.sees.self.base)
  have st3 := st2.row Z11
  obtain ⟨m3, hm3⟩ : ∃ m3, m3 = Dx.newRow m2 Z11 := ⟨_, rfl⟩
  rw [← hm3] at st3
  obtain ⟨m4, f1, f2, f3, f4⟩ := st3.fill 0 rfl (n := 11) (l' := acRow a) rfl rfl (acRow_ok hA.ok)
  have st4 : St m m4 [(m2.n, acRow a), (m1.n, Z4), (m.n, stL t i lv)] := f2
  have la : ∀ o s, load1 m4 ⟨m2.n, o, s⟩ = (acRow a)[o]? := fun o s => (st4.get 0 rfl).2.2.load1 o s
  have lt : ∀ o s, load1 m4 ⟨m.n, o, s⟩ = (stL t i lv)[o]? := fun o s => (st4.get 2 rfl).2.2.load1 o s
  have l44 : loads m4 ⟨m.n, 0, none⟩ 4 = some (stL t i lv) := (st4.get 2 rfl).2.2.loads (n := 4) (by simp [stL])
  have hsl := sl_of hA.av
  simp only [acRow] at la
  simp only [stL] at lt l2 l44
  have hm1' := hm1
  simp only [stL] at hm1'
  obtain ⟨i1, hi1⟩ : ∃ i1 : Nat, i1 = i + 1 := ⟨_, rfl⟩
  have ni : IntKind.i64.wrap ((i : Int) + 1) = ((i + 1 : Nat) : Int) := nextI (i := i) (by omega)
  rw [← hi1] at ni ⊢
  by_cases hn : a.op = 3 ∨ a.op = 7 ∨ a.op = 8
  · have hd : doneL ls a v = ls := if_pos hn
    rw [hd]
    obtain ⟨m5, s1, s2, s3, s4⟩ := st4.store 2 rfl (o := 2) (v := iv i1) (by simp [stL]) rfl
    have s2' : St m m5 [(m2.n, acRow a), (m1.n, Z4), (m.n, stL t i1 lv)] := s2
    have l5 : loads m5 ⟨m.n, 0, none⟩ 4 = some (stL t i1 lv) := (s2'.get 2 rfl).2.2.loads (n := 4) (by simp [stL])
    obtain ⟨m6, w1, w2, w3, w4⟩ := s2'.fill 1 rfl (n := 4) (l' := stL t i1 lv) rfl rfl (stL_ok hA.okav hS.ok)
    have lf : loads m6 ⟨m1.n, 0, none⟩ 4 = some (stL t i1 lv) := (w2.get 1 rfl).2.2.loads (n := 4) (by simp [stL])
    by_cases h3 : a.op = 3
    · have d3 : decide (a.op = 3) = true := decide_eq_true h3
      simp [stL, ← hm1', ← hm2, l2, x1, x2', ← hm3, f1, la, lt, d3, loadNS_ptr, ni, s1]
      simp only [stL] at l5 w1
      simp [l5, w1]
      exact ret_cell (a := ⟨m1.n, 0, none⟩) (by simp) lf w2.ext ⟨lv, rfl, .inl ⟨rfl, rfl⟩⟩
    have d3 : decide (a.op = 3) = false := decide_eq_false h3
    by_cases h7 : a.op = 7
    · have d7 : decide (a.op = 7) = true := decide_eq_true h7
      simp [stL, ← hm1', ← hm2, l2, x1, x2', ← hm3, f1, la, lt, d3, d7, loadNS_ptr, ni, s1]
      simp only [stL] at l5 w1
      simp [l5, w1]
      exact ret_cell (a := ⟨m1.n, 0, none⟩) (by simp) lf w2.ext ⟨lv, rfl, .inl ⟨rfl, rfl⟩⟩
    have d7 : decide (a.op = 7) = false := decide_eq_false h7
    have d8 : decide (a.op = 8) = true := decide_eq_true (by omega)
    simp [stL, ← hm1', ← hm2, l2, x1, x2', ← hm3, f1, la, lt, d3, d7, d8, loadNS_ptr, ni, s1]
    simp only [stL] at l5 w1
    simp [l5, w1]
    exact ret_cell (a := ⟨m1.n, 0, none⟩) (by simp) lf w2.ext ⟨lv, rfl, .inl ⟨rfl, rfl⟩⟩
  · have hd : doneL ls a v = ls.set a.dst.toNat v := if_neg hn
    have hno := noOwn how
    have hop := hA.g.op
    have hdst := hA.g.d (show pD a.op = true by unfold pD; exact decide_eq_true (by omega))
    have d3 : decide (a.op = 3) = false := decide_eq_false fun h => hn (.inl h)
    have d7 : decide (a.op = 7) = false := decide_eq_false fun h => hn (.inr (.inl h))
    have d8 : decide (a.op = 8) = false := decide_eq_false fun h => hn (.inr (.inr h))
    rw [hd]
    obtain ⟨v6, m6, e1, e2, lv', rfl, hS6⟩ := set_rc (m := m4) (t := t) (i := i) hls hk (hS.sees st4.sees) hA.okav hsl hi hdst v N st4.sees.self.base
    have st6 := st4.step e2
    rw [← hi1] at e1
    obtain ⟨m7, w1, w2, w3, w4⟩ := st6.fill 1 rfl (n := 4) (l' := stL t i1 lv') rfl rfl (stL_ok hA.okav hS6.sv.ok)
    have lf : loads m7 ⟨m1.n, 0, none⟩ 4 = some (stL t i1 lv') := (w2.get 1 rfl).2.2.loads (n := 4) (by simp [stL])
    have hP : LvP m m7 k (ls.set a.dst.toNat v) lv' := by
      have h5 := st4.ext.n
      have hm1lt := (st4.get 1 rfl).2.1
      exact hS6.up h5 (by rw [w3]; exact Nat.le_refl _) fun B hB hB2 => w4 B (by omega)
    simp only [stL] at e1 w1
    simp [stL, ← hm1', ← hm2, l2, x1, x2', ← hm3, f1, la, lt, d3, d7, d8, loadNS_ptr, l44, e1, w1]
    exact ret_cell (a := ⟨m1.n, 0, none⟩) (by simp) lf w2.ext ⟨lv', rfl, .inr hP⟩
/-- what a pair's act wants behind its load -/
theorem Then_c (hc : cells ≤ 4096) (hA : At m t k na cells i a) (hS : Sv m lv ls) (hls : ls.length = k) (hop : a.op = 4 ∨ a.op = 5 ∨ a.op = 6) (v : U) (N : Nat) (hm : m.base ≤ m.n) :
    CallV (ex Tryz.prog (N + 65542)) 21 [.agg ⟨stL t i lv⟩, uv v.1] m (.agg ⟨wtL (thenW ls a v)⟩) := by
  refine call_ret db2_ok (by simp) ?_
  have st1 := (St.nil hm (Ext.refl m)).row (stL t i lv)
  obtain ⟨m1, hm1⟩ : ∃ m1, m1 = Dx.newRow m (stL t i lv) := ⟨_, rfl⟩
  rw [← hm1] at st1
  have st2 := st1.row Z6
  obtain ⟨m2, hm2⟩ : ∃ m2, m2 = Dx.newRow m1 Z6 := ⟨_, rfl⟩
  rw [← hm2] at st2
  have l2 : ∀ o s, load1 m2 ⟨m.n, o, s⟩ = (stL t i lv)[o]? := fun o s => (st2.get 1 rfl).2.2.load1 o s
  have hA2 := hA.sees st2.sees
  obtain ⟨x1, x2, x3⟩ := hA2.av.at hA2.ac
  have x2' := x2 m2 (Sees.refl st2.sees.self.base)
  have st3 := st2.row Z11
  obtain ⟨m3, hm3⟩ : ∃ m3, m3 = Dx.newRow m2 Z11 := ⟨_, rfl⟩
  rw [← hm3] at st3
  obtain ⟨m4, f1, f2, f3, f4⟩ := st3.fill 0 rfl (n := 11) (l' := acRow a) rfl rfl (acRow_ok hA.ok)
  have st4 : St m m4 [(m2.n, acRow a), (m1.n, Z6), (m.n, stL t i lv)] := f2
  have la4 : ∀ o s, load1 m4 ⟨m2.n, o, s⟩ = (acRow a)[o]? := fun o s => (st4.get 0 rfl).2.2.load1 o s
  obtain ⟨v5, m5, c1, c2, rfl⟩ := Halves_c (N + 65540) (mode := a.mode) m4
  have st5 := st4.step c2
  have l11 : loads m5 ⟨m2.n, 0, none⟩ 11 = some (acRow a) := (st5.get 0 rfl).2.2.loads (n := 11) (by simp [acRow])
  have lt : ∀ o s, load1 m5 ⟨m.n, o, s⟩ = (stL t i lv)[o]? := fun o s => (st5.get 2 rfl).2.2.load1 o s
  have hpP : pP a.op = true := by unfold pP; exact decide_eq_true (by omega)
  have hpE : pE a.op = true := by unfold pE; exact decide_eq_true (by omega)
  obtain ⟨v6, m6', e1, e2, e3, rfl⟩ := any_call (Loc_rc hls hc a (hA.g.p hpP) N (forAny m5) (sees_any st5.sees).base (hS.sees (sees_any st5.sees)) (hA.ok.sees (sees_any st5.sees)))
  obtain ⟨m6, hm6⟩ : ∃ m6, m6 = behind m5 m6' := ⟨_, rfl⟩
  rw [← hm6] at e3
  have st6 := st5.step e3
  have la6 : ∀ o s, load1 m6 ⟨m2.n, o, s⟩ = (acRow a)[o]? := fun o s => (st6.get 0 rfl).2.2.load1 o s
  have lt6 : ∀ o s, load1 m6 ⟨m.n, o, s⟩ = (stL t i lv)[o]? := fun o s => (st6.get 2 rfl).2.2.load1 o s
  obtain ⟨v7, m7', g1, g2, g3, rfl⟩ := any_call (Of_u hls (hA.g.e hpE) (N + 1) (forAny m6) (sees_any st6.sees).base (hA.ok.ev.sees (sees_any st6.sees)) (hS.rd.sees (sees_any st6.sees)))
  obtain ⟨m7, hm7⟩ : ∃ m7, m7 = behind m6 m7' := ⟨_, rfl⟩
  rw [← hm7] at g3
  have st7 := st6.step g3
  obtain ⟨x, hx⟩ : ∃ x, x = locV ls a := ⟨_, rfl⟩
  rw [← hx] at e1
  obtain ⟨y, hy⟩ : ∃ y, y = valE ls a.es := ⟨_, rfl⟩
  rw [← hy] at g1
  obtain ⟨z, hz⟩ : ∃ z, z = wrM a.mode := ⟨_, rfl⟩
  rw [← hz] at c1
  have st8 := st7.row Z6
  obtain ⟨m8, hm8⟩ : ∃ m8, m8 = Dx.newRow m7 Z6 := ⟨_, rfl⟩
  rw [← hm8] at st8
  obtain ⟨R, hR⟩ : ∃ R : List Value, R = [.int .i64 2, .int .i64 x, .int .i64 z, .int .u64 y.1, .bool true, .bool false] := ⟨_, rfl⟩
  obtain ⟨m9', w1, w2, w3, w4, w5⟩ := st8.fillAny 0 rfl (n := 6) (l' := [.int .i64 2, .int .i64 x, .int .i64 z, .int .u64 y.1, .bool true, .bool false]) (by omega) rfl rfl (by simp [okC])
  obtain ⟨m9, hm9⟩ : ∃ m9, m9 = behind m8 m9' := ⟨_, rfl⟩
  rw [← hm9] at w3
  have st9 : St m m9 [(m7.n, [.int .i64 2, .int .i64 x, .int .i64 z, .int .u64 y.1, .bool true, .bool false]), (m2.n, acRow a), (m1.n, Z6), (m.n, stL t i lv)] := w3
  have la9 : ∀ o s, load1 m9 ⟨m2.n, o, s⟩ = (acRow a)[o]? := fun o s => (st9.get 1 rfl).2.2.load1 o s
  have lt9 : ∀ o s, load1 m9 ⟨m.n, o, s⟩ = (stL t i lv)[o]? := fun o s => (st9.get 3 rfl).2.2.load1 o s
  have lw9 : ∀ o s, load1 m9 ⟨m7.n, o, s⟩ = [.int .i64 2, .int .i64 x, .int .i64 z, .int .u64 y.1, .bool true, .bool false][o]? := fun o s => (st9.get 0 rfl).2.2.load1 o s
  simp only [acRow] at la6 la4 la9
  simp only [stL] at lt l2 lt6 lt9
  have hm1' := hm1
  simp only [stL] at hm1'
  have fin : ∀ (u : U) (mm : M) (tt : Tm), St m mm [(m7.n, [.int .i64 2, .int .i64 x, .int .i64 z, .int .u64 u.1, .bool true, .bool false]), (m2.n, acRow a), (m1.n, Z6), (m.n, stL t i lv)] → Tm.get 4 tt = .pointer (some ⟨m1.n, 0, none⟩) → Tm.get 8 tt = .pointer (some ⟨m7.n, 0, none⟩) → thenW ls a v = ⟨2, x, z, u, true⟩ →
      Ret m (fun w _ => w = .agg ⟨wtL (thenW ls a v)⟩) (cb2_9 (ex Tryz.prog (N + 65541)) (resK [.cell 4 6]) noK (resK [.cell 4 6]) tt mm) := fun u mm tt h t4 t8 e => by
    have l6 : loads mm ⟨m7.n, 0, none⟩ 6 = some [.int .i64 2, .int .i64 x, .int .i64 z, .int .u64 u.1, .bool true, .bool false] := (h.get 0 rfl).2.2.loads (n := 6) (by simp)
    obtain ⟨m10, q1, q2, q3, q4⟩ := h.fill 2 rfl (n := 6) (l' := [.int .i64 2, .int .i64 x, .int .i64 z, .int .u64 u.1, .bool true, .bool false]) rfl rfl (by simp [okC])
    have lf : loads m10 ⟨m1.n, 0, none⟩ 6 = some _ := (q2.get 2 rfl).2.2.loads (n := 6) (by simp)
    simp [t4, t8, loadNS_ptr, l6, q1]
    exact ret_cell (a := ⟨m1.n, 0, none⟩) (by simp [t4]) lf q2.ext (by rw [e]; rfl)
  have hn : a.op ≠ 2 ∧ a.op ≠ 3 ∧ a.op ≠ 7 ∧ a.op ≠ 8 := by omega
  have hwt : wantOf ⟨0, ls, wt0, false, v, true⟩ a = ⟨2, x, z, (if a.op = 5 then addU y v else if a.op = 6 then valE ls a.fs else y), true⟩ := by
    unfold wantOf; rw [if_neg hn.1, if_neg hn.2.1, if_neg hn.2.2.1, if_neg hn.2.2.2, if_pos rfl, hx, hz, hy]
  rcases hop with h4 | h5 | h6
  · have d5 : decide (a.op = 5) = false := decide_eq_false (by omega)
    have d6 : decide (a.op = 6) = false := decide_eq_false (by omega)
    simp [stL, ← hm1', ← hm2, l2, x1, x2', ← hm3, f1, la4, c1, extractV, l11, lt, loadNS_ptr, e1, e2, ← hm6, la6, lt6, g1, g2, ← hm7, w_then, ← hm8, w1, w2, ← hm9, la9, d5, d6, -cb2_9_ap]
    exact fin y m9 _ st9 (by simp) (by simp) (by unfold thenW; rw [if_neg (by omega), hwt, if_neg (by omega), if_neg (by omega)])
  · have d5 : decide (a.op = 5) = true := decide_eq_true h5
    have d6 : decide (a.op = 6) = false := decide_eq_false (by omega)
    obtain ⟨m10, s1, s2, s3, s4⟩ := st9.store 0 rfl (o := 3) (v := uv (addU y v).1) (by simp) rfl
    have s2' : St m m10 [(m7.n, [.int .i64 2, .int .i64 x, .int .i64 z, .int .u64 (addU y v).1, .bool true, .bool false]), (m2.n, acRow a), (m1.n, Z6), (m.n, stL t i lv)] := s2
    have la10 : ∀ o s, load1 m10 ⟨m2.n, o, s⟩ = (acRow a)[o]? := fun o s => (s2'.get 1 rfl).2.2.load1 o s
    simp only [acRow] at la10
    have q : binV .add (uv y.1) (uv v.1) = some (uv (addU y v).1) := u_add y.1 v.1
    simp [-binV_add, stL, ← hm1', ← hm2, l2, x1, x2', ← hm3, f1, la4, c1, extractV, l11, lt, loadNS_ptr, e1, e2, ← hm6, la6, lt6, g1, g2, ← hm7, w_then, ← hm8, w1, w2, ← hm9, la9, lw9, d5, q, s1, la10, d6, -cb2_9_ap]
    exact fin (addU y v) m10 _ s2' (by simp) (by simp) (by unfold thenW; rw [if_neg (by omega), hwt, if_pos h5])
  · have d5 : decide (a.op = 5) = false := decide_eq_false (by omega)
    have d6 : decide (a.op = 6) = true := decide_eq_true h6
    by_cases hne : y.1 = v.1
    · have dn : decide (y.1 = v.1) = true := decide_eq_true hne
      have dn' : decide ((y.1 : Int) = (v.1 : Int)) = true := decide_eq_true (by omega)
      obtain ⟨v10, m10, k1, k2, rfl⟩ := Of_u hls (hA.g.f (by rw [h6]; rfl)) (N + 1) m9 st9.sees.self.base (hA.ok.fv.sees st9.sees) (hS.rd.sees st9.sees)
      have st10 := st9.step k2
      obtain ⟨f, hf⟩ : ∃ f, f = valE ls a.fs := ⟨_, rfl⟩
      rw [← hf] at k1
      obtain ⟨m11, s1, s2, s3, s4⟩ := st10.store 0 rfl (o := 3) (v := uv f.1) (by simp) rfl
      have s2' : St m m11 [(m7.n, [.int .i64 2, .int .i64 x, .int .i64 z, .int .u64 f.1, .bool true, .bool false]), (m2.n, acRow a), (m1.n, Z6), (m.n, stL t i lv)] := s2
      simp [stL, ← hm1', ← hm2, l2, x1, x2', ← hm3, f1, la4, c1, extractV, l11, lt, loadNS_ptr, e1, e2, ← hm6, la6, lt6, g1, g2, ← hm7, w_then, ← hm8, w1, w2, ← hm9, la9, lt9, lw9, d5, d6, dn, dn', k1, s1, -cb2_9_ap]
      exact fin f m11 _ s2' (by simp) (by simp) (by unfold thenW; rw [if_neg (by rw [← hy]; exact fun h => h.2 hne), hwt, if_neg (by omega), if_pos h6, hf])
    · have dn : decide (y.1 = v.1) = false := decide_eq_false hne
      have dn' : decide ((y.1 : Int) = (v.1 : Int)) = false := decide_eq_false (by omega)
      have ht : thenW ls a v = wt0 := by unfold thenW; rw [if_pos ⟨h6, by rw [← hy]; exact hne⟩]
      rw [ht]
      have hz' : wtL wt0 = Z6 := rfl
      rw [hz']
      obtain ⟨m10, q1, q2, q3, q4⟩ := st9.fill 2 rfl (n := 6) (l' := Z6) rfl rfl (by simp [okC])
      have lf : loads m10 ⟨m1.n, 0, none⟩ 6 = some Z6 := (q2.get 2 rfl).2.2.loads (n := 6) (by simp)
      simp [stL, ← hm1', ← hm2, l2, x1, x2', ← hm3, f1, la4, c1, extractV, l11, lt, loadNS_ptr, e1, e2, ← hm6, la6, lt6, g1, g2, ← hm7, w_then, ← hm8, w1, w2, ← hm9, la9, lw9, d5, d6, dn, dn', w_none, q1]
      exact ret_cell (a := ⟨m1.n, 0, none⟩) (by simp) lf q2.ext rfl
end
end Go.Sx
