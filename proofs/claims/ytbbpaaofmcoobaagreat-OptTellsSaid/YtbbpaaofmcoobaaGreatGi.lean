/- Contracts. -/
import Derived.Test.YtbbpaaofmcoobaaGreatGh
import Derived.Test.YtbbpaaofmcoobaaGreatGe
import Derived.Test.YtbbpaaofmcoobaaGreatGb2
import Derived.Test.YtbbpaaofmcoobaaGreatGc
set_option linter.unusedVariables false
set_option linter.unusedSimpArgs false
set_option linter.defProp false
namespace Go.Sx
open Go.Dx Go.Proofs
set_option maxRecDepth 10000
open Classical in
noncomputable def eqB {α : Type} (a b : α) : Bool := decide (a = b)
theorem vO {α : Type} {a b : α} : eqB a b = true ↔ a = b := by unfold eqB; simp
theorem bH {α : Type} {a b : α} (h : a = b) : eqB a b = true := vO.2 h
theorem yB {α : Type} {a b : α} (h : a ≠ b) : eqB a b = false := by
 cases hc : eqB a b with
 | false => rfl
 | true => exact absurd (vO.1 hc) h
theorem jZ (ks : List Nat) (k : IntKind) (x y : Int) (l r : List Value) : kA (1 :: ks) (.int k x :: l) (.int k y :: r) = if x = y then kA ks l r else some false := by
 have h : eqK 1 (.int k x) (.int k y) = some (decide (x = y)) := by
  show (bif Nat.beq (ik k) (ik k) then some (eqI x y) else none) = _
  rw [Nat.beq_refl, vc]; simp
  by_cases h : x = y <;> simp [h]
 show ob (eqK 1 (.int k x) (.int k y)) _ = _
 rw [h]
 by_cases h : x = y
 ·rw [if_pos h, decide_eq_true h]; rfl
 ·rw [if_neg h, decide_eq_false h]; rfl
theorem GW (a b : Nd) : kA [1, 1, 1, 1] (qg a) (qg b) = some (eqB a b) := by
 unfold qg
 rw [jZ, jZ, jZ, jZ]
 have key : (a.op = b.op ∧ (a.val.1 : Int) = b.val.1 ∧ a.a = b.a ∧ a.b = b.b) ↔ a = b := by
  obtain ⟨o, v, x, y⟩ := a
  obtain ⟨o', v', x', y'⟩ := b
  simp only [Nd.mk.injEq, Subtype.ext_iff]
  constructor
  ·rintro ⟨h1, h2, h3, h4⟩; exact ⟨h1, by omega, h3, h4⟩
  ·rintro ⟨h1, h2, h3, h4⟩; exact ⟨h1, by omega, h3, h4⟩
 by_cases h : a = b
 ·obtain ⟨h1, h2, h3, h4⟩ := key.2 h
  rw [if_pos h1, if_pos h2, if_pos h3, if_pos h4, bH h]; rfl
 ·rw [yB h]
  by_cases h1 : a.op = b.op
  ·rw [if_pos h1]
   by_cases h2 : (a.val.1 : Int) = b.val.1
   ·rw [if_pos h2]
    by_cases h3 : a.a = b.a
    ·rw [if_pos h3]
     by_cases h4 : a.b = b.b
     ·exact absurd (key.1 ⟨h1, h2, h3, h4⟩) h
     ·rw [if_neg h4]
    ·rw [if_neg h3]
   ·rw [if_neg h2]
  ·rw [if_neg h1]
theorem Ke (ls rs : List Nd) (a b : Value) (hl : ls.length ≤ 9223372036854775807) (hr : rs.length ≤ 9223372036854775807) (N : Nat) (m : M) (hm : m.base ≤ m.n) (ha : Rd m a 4 qg ls) (hb : Rd m b 4 qg rs) : CallV (ex Tryz.prog (N + 1)) 68 [a, b] m (.bool (eqB ls rs)) := by
 refine qp dd9_ok (by simp) ?_
 obtain ⟨n, hn⟩ := qb8 (ls.length)
 obtain ⟨n', hn'⟩ := qb8 (rs.length)
 have la : qL a = some (.int .i64 (n : Int)) := by rw [hn]; exact ha.len
 have lb : qL b = some (.int .i64 (n' : Int)) := by rw [hn']; exact hb.len
 have S := Sees.refl hm
 by_cases hne : n = n'
 ·subst hne
  simp [la, lb]
  refine qq (c := Bk) rfl (Ret m _) (fun i t m' => m' = m ∧ Tm.get 0 t = a ∧ Tm.get 1 t = b ∧ Tm.get 12 t = iv n ∧ Tm.get 13 t = iv i ∧ ∀ j, j < i → ls[j]? = rs[j]?) n (by omega)
   ⟨rfl, by simp, by simp, by simp, by simp, fun j hj => absurd hj (qb7 _)⟩ (fun i t m' k hi hI hk => ?_)
  obtain ⟨rfl, t0, t1, t12, t13, hpre⟩ := hI
  by_cases hil : i < n
  ·have eI : ((i : Int) < (n : Int)) = True := eq_true (by omega)
   obtain ⟨i1, hi1⟩ := qb8 (i + 1)
   have w1 : IntKind.i64.wrap ((i : Int) + 1) = (i1 : Int) := by rw [wrap64 _ (by omega) (by omega)]; omega
   obtain ⟨u, hu⟩ : ∃ r, ls[i]? = some r := ⟨_, qae (by omega)⟩
   obtain ⟨w, hw⟩ : ∃ r, rs[i]? = some r := ⟨_, qae (by omega)⟩
   obtain ⟨a1, a2, _⟩ := ha.at hu
   obtain ⟨b1, b2, _⟩ := hb.at hw
   have a2' := a2 m' S
   have b2' := b2 m' S
   have hc := GW u w
   rw [← hi1] at hk
   by_cases he : u = w
   ·rw [bH he] at hc
    simp [t0, t1, t12, t13, eI, a1, a2', b1, b2', qf, hc, w1]
    refine hk hil _ _ ⟨rfl, by simp [t0], by simp [t1], by simp [t12], by simp, fun j hj => ?_⟩
    by_cases hji : j < i
    ·exact hpre j hji
    ·obtain rfl : j = i := by omega
     rw [hu, hw, he]
   ·rw [yB he] at hc
    have : ls ≠ rs := by rintro rfl; rw [hu] at hw; cases hw; exact he rfl
    simp [t0, t1, t12, t13, eI, a1, a2', b1, b2', qf, hc]
    exact qh (Ext.refl m') (by simp [yB this])
  ·obtain rfl : i = n := by omega
   have : ls = rs := List.ext_getElem? fun j => by
    by_cases hj : j < i
    ·exact hpre j hj
    ·rw [qb3 (by omega), qb3 (by omega)]
   simp [t0, t1, t12, t13]
   exact qh (Ext.refl m') (by simp [bH this])
 ·have dn : ((n : Int) = (n' : Int)) = False := eq_false (by omega)
  have : ls ≠ rs := by rintro rfl; omega
  simp [la, lb, dn, hne]
  exact qh (Ext.refl m) (by simp [yB this])
noncomputable def alaB (a b : Ac) : Bool := decide (a.op = b.op) && (decide (a.dst = b.dst) && (decide (a.to = b.to) && (eqB a.es b.es && (eqB a.fs b.fs && eqB a.ixs b.ixs))))
theorem Kr {a b : Ac} : alaB a b = true ↔ AlA a b := by
 unfold alaB AlA
 simp only [qak, decide_eq_true_eq, vO]
theorem Ft (a b : Ac) (N : Nat) (m : M) (hm : m.base ≤ m.n) (ha : AcOK m a) (hb : AcOK m b) : CallV (ex Tryz.prog (N + 2)) 67 [.agg ⟨qe a⟩, .agg ⟨qe b⟩] m (.bool (alaB a b)) := by
 refine qp dd8_ok (by simp) ?_
 have st1 := (St.nil hm (Ext.refl m)).row (qe a)
 obtain ⟨m1, hm1⟩ := qb8 (Dx.newRow m (qe a))
 rw [← hm1] at st1
 have st2 := st1.row (qe b)
 obtain ⟨m2, hm2⟩ := qb8 (Dx.newRow m1 (qe b))
 rw [← hm2] at st2
 have la : ∀ m', Sees m2 m' → ∀ o s, load1 m' ⟨m.n, o, s⟩ = (qe a)[o]? := fun m' k o s => ((st2.get 1 rfl).2.2.congr (k.obj _ (st2.get 1 rfl).2.1)).load1 o s
 have lb : ∀ m', Sees m2 m' → ∀ o s, load1 m' ⟨m1.n, o, s⟩ = (qe b)[o]? := fun m' k o s => ((st2.get 0 rfl).2.2.congr (k.obj _ (st2.get 0 rfl).2.1)).load1 o s
 have S2 : Sees m2 m2 := st2.sees.self
 have la2 := la m2 S2
 have lb2 := lb m2 S2
 have a2 := ha.sees st2.sees
 have b2 := hb.sees st2.sees
 simp only [qe] at la2 lb2 la lb hm1 hm2
 obtain ⟨v3, m3, c1, c2, rfl⟩ := Ke a.es b.es a.ev b.ev a2.evl b2.evl N m2 S2.base a2.ev b2.ev
 have S3 : Sees m2 m3 := S2.ext c2
 obtain ⟨v4, m4, d1, d2, rfl⟩ := Ke a.fs b.fs a.fv b.fv a2.fvl b2.fvl N m3 S3.self.base (a2.fv.sees S3) (b2.fv.sees S3)
 have S4 : Sees m2 m4 := S3.ext d2
 obtain ⟨v5, m5, e1, e2, rfl⟩ := Ke a.ixs b.ixs a.ix b.ix a2.ixl b2.ixl N m4 S4.self.base (a2.ix.sees S4) (b2.ix.sees S4)
 have la3 := la m3 S3
 have lb3 := lb m3 S3
 have la4 := la m4 S4
 have lb4 := lb m4 S4
 have hA : alaB a b = (decide (a.op = b.op) && (decide (a.dst = b.dst) && (decide (a.to = b.to) && (eqB a.es b.es && (eqB a.fs b.fs && eqB a.ixs b.ixs))))) := rfl
 rw [hA]
 cases h1 : decide (a.op = b.op) with
 | true =>
  cases h2 : decide (a.dst = b.dst) with
  | true =>
   cases h3 : decide (a.to = b.to) with
   | true =>
    cases h4 : eqB a.es b.es with
    | false =>
     rw [h4] at c1
     simp [qe, ← hm1, ← hm2, la2, lb2, h1, h2, h3, c1]
     exact qh (st2.ext.trans c2) (by simp)
    | true =>
     rw [h4] at c1
     cases h5 : eqB a.fs b.fs with
     | false =>
      rw [h5] at d1
      simp [qe, ← hm1, ← hm2, la2, lb2, la3, lb3, h1, h2, h3, c1, d1]
      exact qh ((st2.ext.trans c2).trans d2) (by simp)
     | true =>
      rw [h5] at d1
      simp [qe, ← hm1, ← hm2, la2, lb2, la3, lb3, la4, lb4, h1, h2, h3, c1, d1, e1]
      exact qh (((st2.ext.trans c2).trans d2).trans e2) (by simp)
   | false =>
    simp [qe, ← hm1, ← hm2, la2, lb2, h1, h2, h3]
    exact qh st2.ext (by simp)
  | false =>
   simp [qe, ← hm1, ← hm2, la2, lb2, h1, h2]
   exact qh st2.ext (by simp)
 | false =>
  simp [qe, ← hm1, ← hm2, la2, lb2, h1]
  exact qh st2.ext (by simp)
end Go.Sx
namespace Go.Sx
open Go.Dx Go.Proofs
set_option maxRecDepth 10000
open Classical in
noncomputable def deB (p : Prop) : Bool := decide p
theorem yY {p : Prop} (h : p) : deB p = true := by unfold deB; simp [h]
theorem vJ {p : Prop} (h : ¬ p) : deB p = false := by unfold deB; simp [h]
theorem qa0 {p : Prop} : deB p = true ↔ p := by unfold deB; simp
theorem Yo (ls rs : List Ac) (a b : Value) (hl : ls.length ≤ 9223372036854775807) (hr : rs.length ≤ 9223372036854775807) (N : Nat) (m : M) (hm : m.base ≤ m.n) (ha : Rd m a 11 qe ls) (hb : Rd m b 11 qe rs) (hla : ∀ x ∈ ls, AcOK m x) (hra : ∀ x ∈ rs, AcOK m x) :
  CallV (ex Tryz.prog (N + 3)) 66 [a, b, fnG 67] m (.bool (deB (AlL ls rs))) := by
 refine qp dd7_ok (by simp) ?_
 obtain ⟨n, hn⟩ := qb8 (ls.length)
 obtain ⟨n', hn'⟩ := qb8 (rs.length)
 have la : qL a = some (.int .i64 (n : Int)) := by rw [hn]; exact ha.len
 have lb : qL b = some (.int .i64 (n' : Int)) := by rw [hn']; exact hb.len
 by_cases hne : n = n'
 ·subst hne
  simp [la, lb]
  refine qq (c := FW) rfl (Ret m _) (fun i t m' => Ext m m' ∧ Tm.get 0 t = a ∧ Tm.get 1 t = b ∧ Tm.get 2 t = fnG 67 ∧ Tm.get 15 t = a ∧ Tm.get 16 t = iv n ∧ Tm.get 17 t = iv i ∧ ∀ (j : Nat) u w, j < i → ls[j]? = some u → rs[j]? = some w → AlA u w) n (by omega)
   ⟨Ext.refl m, by simp, by simp, by simp, by simp, by simp, by simp, fun j u w hj => absurd hj (qb7 _)⟩ (fun i t m' k hi hI hk => ?_)
  obtain ⟨hE, t0, t1, t2, t15, t16, t17, hpre⟩ := hI
  by_cases hil : i < n
  ·have eI : ((i : Int) < (n : Int)) = True := eq_true (by omega)
   obtain ⟨i1, hi1⟩ := qb8 (i + 1)
   have w1 : IntKind.i64.wrap ((i : Int) + 1) = (i1 : Int) := by rw [wrap64 _ (by omega) (by omega)]; omega
   obtain ⟨u, hu⟩ : ∃ r, ls[i]? = some r := ⟨_, qae (by omega)⟩
   obtain ⟨w, hw⟩ : ∃ r, rs[i]? = some r := ⟨_, qae (by omega)⟩
   have um := hla u (qaf hu)
   have wm := hra w (qaf hw)
   obtain ⟨a1, a2, _⟩ := ha.at hu
   obtain ⟨b1, b2, _⟩ := hb.at hw
   have S := (Sees.refl hm).ext hE
   have a2' := a2 m' S
   have st1 := (St.nil hm hE).row zAc
   obtain ⟨m1, hm1⟩ := qb8 (Dx.newRow m' zAc)
   rw [← hm1] at st1
   obtain ⟨m2, s1, s2, s3, s4⟩ := st1.fill 0 rfl (n := 11) (l' := qe u) rfl rfl (qM um)
   have st2 : St m m2 [(m'.n, qe u)] := s2
   have b2' := b2 m2 st2.sees
   have st3 := st2.row zAc
   obtain ⟨m3, hm3⟩ := qb8 (Dx.newRow m2 zAc)
   rw [← hm3] at st3
   obtain ⟨m4, r1, r2, r3, r4⟩ := st3.fill 0 rfl (n := 11) (l' := qe w) rfl rfl (qM wm)
   have st4 : St m m4 [(m2.n, qe w), (m'.n, qe u)] := r2
   have lu : loads m4 ⟨m'.n, 0, none⟩ 11 = some (qe u) := (st4.get 1 rfl).2.2.loads (by simp [qe])
   have lw : loads m4 ⟨m2.n, 0, none⟩ 11 = some (qe w) := (st4.get 0 rfl).2.2.loads (by simp [qe])
   obtain ⟨v5, m5, c1, c2, rfl⟩ := Ft u w N m4 st4.sees.self.base (um.sees st4.sees) (wm.sees st4.sees)
   rw [← hi1] at hk
   cases hc : alaB u w with
   | true =>
    rw [hc] at c1
    simp [t0, t1, t2, t15, t16, t17, eI, a1, a2', b1, b2', qf, ← hm1, s1, ← hm3, r1, lu, lw, c1, w1]
    refine hk hil _ _ ⟨st4.ext.trans c2, by simp [t0], by simp [t1], by simp [t2], by simp [t15], by simp [t16], by simp, fun j x y hj hx hy => ?_⟩
    by_cases hji : j < i
    ·exact hpre j x y hji hx hy
    ·obtain rfl : j = i := by omega
     rw [hu] at hx; rw [hw] at hy
     cases hx; cases hy
     exact Kr.1 hc
   | false =>
    rw [hc] at c1
    have hno : ¬ AlL ls rs := fun h => by have := Kr.2 (h.2 i u w hu hw); rw [hc] at this; cases this
    simp [t0, t1, t2, t15, t16, t17, eI, a1, a2', b1, b2', qf, ← hm1, s1, ← hm3, r1, lu, lw, c1]
    exact qh (st4.ext.trans c2) (by simp [vJ hno])
  ·obtain rfl : i = n := by omega
   have : AlL ls rs := ⟨by omega, fun j u w hu hw => hpre j u w (by have := (qag.1 hu).1; omega) hu hw⟩
   simp [t0, t1, t15, t16, t17]
   exact qh hE (by simp [yY this])
 ·have dn : ((n : Int) = (n' : Int)) = False := eq_false (by omega)
  have : ¬ AlL ls rs := fun h => by have := h.1; omega
  simp [la, lb, dn, hne]
  exact qh (Ext.refl m) (by simp [vJ this])
theorem YQ (p q : Th) (N : Nat) (m : M) (hm : m.base ≤ m.n) (hp : ThOK m p) (hq : ThOK m q) : CallV (ex Tryz.prog (N + 4)) 65 [.agg ⟨qE p⟩, .agg ⟨qE q⟩] m (.bool (deB (AlL p.acts q.acts))) := by
 refine qp dd6_ok (by simp) ?_
 have st1 := (St.nil hm (Ext.refl m)).row (qE p)
 obtain ⟨m1, hm1⟩ := qb8 (Dx.newRow m (qE p))
 rw [← hm1] at st1
 have st2 := st1.row (qE q)
 obtain ⟨m2, hm2⟩ := qb8 (Dx.newRow m1 (qE q))
 rw [← hm2] at st2
 have la : ∀ o s, load1 m2 ⟨m.n, o, s⟩ = (qE p)[o]? := fun o s => (st2.get 1 rfl).2.2.load1 o s
 have lb : ∀ o s, load1 m2 ⟨m1.n, o, s⟩ = (qE q)[o]? := fun o s => (st2.get 0 rfl).2.2.load1 o s
 simp only [qE] at la lb hm1 hm2
 have p2 := hp.sees st2.sees
 have q2 := hq.sees st2.sees
 obtain ⟨v3, m3, c1, c2, rfl⟩ := Yo p.acts q.acts p.av q.av hp.len hq.len N m2 st2.sees.self.base p2.av q2.av p2.acts q2.acts
 simp [qE, ← hm1, ← hm2, la, lb, c1]
 exact qh (st2.ext.trans c2) (by simp)
def PgAl (p q : Pg) : Prop := p.ths.length = q.ths.length ∧ ∀ (j : Nat) u w, p.ths[j]? = some u → q.ths[j]? = some w → AlL u.acts w.acts
theorem yZ {m : M} {t : Th} (h : ThOK m t) : ∀ v ∈ qE t, Dx.okC v = true := fun v hv => by
 simp [qE] at hv
 rcases hv with rfl | rfl
 ·rfl
 ·exact gU h.av.len
theorem Vh (ls rs : List Th) (a b : Value) (hl : ls.length ≤ 9223372036854775807) (hr : rs.length ≤ 9223372036854775807) (N : Nat) (m : M) (hm : m.base ≤ m.n) (ha : Rd m a 2 qE ls) (hb : Rd m b 2 qE rs) (hla : ∀ x ∈ ls, ThOK m x) (hra : ∀ x ∈ rs, ThOK m x) :
  CallV (ex Tryz.prog (N + 5)) 64 [a, b, fnG 65] m (.bool (deB (ls.length = rs.length ∧ ∀ (j : Nat) u w, ls[j]? = some u → rs[j]? = some w → AlL u.acts w.acts))) := by
 refine qp dd5_ok (by simp) ?_
 obtain ⟨n, hn⟩ := qb8 (ls.length)
 obtain ⟨n', hn'⟩ := qb8 (rs.length)
 have la : qL a = some (.int .i64 (n : Int)) := by rw [hn]; exact ha.len
 have lb : qL b = some (.int .i64 (n' : Int)) := by rw [hn']; exact hb.len
 by_cases hne : n = n'
 ·subst hne
  simp [la, lb]
  refine qq (c := YN) rfl (Ret m _) (fun i t m' => Ext m m' ∧ Tm.get 0 t = a ∧ Tm.get 1 t = b ∧ Tm.get 2 t = fnG 65 ∧ Tm.get 15 t = a ∧ Tm.get 16 t = iv n ∧ Tm.get 17 t = iv i ∧ ∀ (j : Nat) (u w : Th), j < i → ls[j]? = some u → rs[j]? = some w → AlL u.acts w.acts) n (by omega)
   ⟨Ext.refl m, by simp, by simp, by simp, by simp, by simp, by simp, fun j u w hj => absurd hj (qb7 _)⟩ (fun i t m' k hi hI hk => ?_)
  obtain ⟨hE, t0, t1, t2, t15, t16, t17, hpre⟩ := hI
  by_cases hil : i < n
  ·have eI : ((i : Int) < (n : Int)) = True := eq_true (by omega)
   obtain ⟨i1, hi1⟩ := qb8 (i + 1)
   have w1 : IntKind.i64.wrap ((i : Int) + 1) = (i1 : Int) := by rw [wrap64 _ (by omega) (by omega)]; omega
   obtain ⟨u, hu⟩ : ∃ r, ls[i]? = some r := ⟨_, qae (by omega)⟩
   obtain ⟨w, hw⟩ : ∃ r, rs[i]? = some r := ⟨_, qae (by omega)⟩
   have um := hla u (qaf hu)
   have wm := hra w (qaf hw)
   obtain ⟨a1, a2, _⟩ := ha.at hu
   obtain ⟨b1, b2, _⟩ := hb.at hw
   have S := (Sees.refl hm).ext hE
   have a2' := a2 m' S
   have st1 := (St.nil hm hE).row zTh
   obtain ⟨m1, hm1⟩ := qb8 (Dx.newRow m' zTh)
   rw [← hm1] at st1
   obtain ⟨m2, s1, s2, s3, s4⟩ := st1.fill 0 rfl (n := 2) (l' := qE u) rfl rfl (yZ um)
   have st2 : St m m2 [(m'.n, qE u)] := s2
   have b2' := b2 m2 st2.sees
   have st3 := st2.row zTh
   obtain ⟨m3, hm3⟩ := qb8 (Dx.newRow m2 zTh)
   rw [← hm3] at st3
   obtain ⟨m4, r1, r2, r3, r4⟩ := st3.fill 0 rfl (n := 2) (l' := qE w) rfl rfl (yZ wm)
   have st4 : St m m4 [(m2.n, qE w), (m'.n, qE u)] := r2
   have lu : loads m4 ⟨m'.n, 0, none⟩ 2 = some (qE u) := (st4.get 1 rfl).2.2.loads (by simp [qE])
   have lw : loads m4 ⟨m2.n, 0, none⟩ 2 = some (qE w) := (st4.get 0 rfl).2.2.loads (by simp [qE])
   obtain ⟨v5, m5, c1, c2, rfl⟩ := YQ u w N m4 st4.sees.self.base (um.sees st4.sees) (wm.sees st4.sees)
   rw [← hi1] at hk
   cases hc : deB (AlL u.acts w.acts) with
   | true =>
    rw [hc] at c1
    simp [t0, t1, t2, t15, t16, t17, eI, a1, a2', b1, b2', qf, ← hm1, s1, ← hm3, r1, lu, lw, c1, w1]
    refine hk hil _ _ ⟨st4.ext.trans c2, by simp [t0], by simp [t1], by simp [t2], by simp [t15], by simp [t16], by simp, fun j x y hj hx hy => ?_⟩
    by_cases hji : j < i
    ·exact hpre j x y hji hx hy
    ·obtain rfl : j = i := by omega
     rw [hu] at hx; rw [hw] at hy
     cases hx; cases hy
     exact qa0.1 hc
   | false =>
    rw [hc] at c1
    have hno : ¬ (ls.length = rs.length ∧ ∀ (j : Nat) u w, ls[j]? = some u → rs[j]? = some w → AlL u.acts w.acts) := fun h => by have := yY (h.2 i u w hu hw); rw [hc] at this; cases this
    simp [t0, t1, t2, t15, t16, t17, eI, a1, a2', b1, b2', qf, ← hm1, s1, ← hm3, r1, lu, lw, c1]
    exact qh (st4.ext.trans c2) (by simp [vJ hno])
  ·obtain rfl : i = n := by omega
   have : (ls.length = rs.length ∧ ∀ (j : Nat) u w, ls[j]? = some u → rs[j]? = some w → AlL u.acts w.acts) := ⟨by omega, fun j u w hu hw => hpre j u w (by have := (qag.1 hu).1; omega) hu hw⟩
   rw [yY this]
   simp [t0, t1, t15, t16, t17]
   exact qh hE (by simp)
 ·have dn : ((n : Int) = (n' : Int)) = False := eq_false (by omega)
  have : ¬ (ls.length = rs.length ∧ ∀ (j : Nat) u w, ls[j]? = some u → rs[j]? = some w → AlL u.acts w.acts) := fun h => by have := h.1; omega
  rw [vJ this]
  simp [la, lb, dn, hne]
  exact qh (Ext.refl m) (by simp)
theorem DB (p q : Pg) (N : Nat) (m : M) (hm : m.base ≤ m.n) (hp : PgOK m p) (hq : PgOK m q) : CallV (ex Tryz.prog (N + 6)) 35 [pgV p, pgV q] m (.bool (deB (PgAl p q))) := by
 refine qp db9_ok (by simp) ?_
 have st1 := (St.nil hm (Ext.refl m)).row [iv p.cells, p.tv]
 obtain ⟨m1, hm1⟩ := qb8 (Dx.newRow m [iv p.cells, p.tv])
 rw [← hm1] at st1
 have st2 := st1.row [iv q.cells, q.tv]
 obtain ⟨m2, hm2⟩ := qb8 (Dx.newRow m1 [iv q.cells, q.tv])
 rw [← hm2] at st2
 have la : ∀ o s, load1 m2 ⟨m.n, o, s⟩ = [iv p.cells, p.tv][o]? := fun o s => (st2.get 1 rfl).2.2.load1 o s
 have lb : ∀ o s, load1 m2 ⟨m1.n, o, s⟩ = [iv q.cells, q.tv][o]? := fun o s => (st2.get 0 rfl).2.2.load1 o s
 have p2 := hp.sees st2.sees
 have q2 := hq.sees st2.sees
 obtain ⟨v3, m3, c1, c2, c3⟩ := Vh p.ths q.ths p.tv q.tv hp.len hq.len N m2 st2.sees.self.base p2.tv q2.tv p2.ths q2.ths
 have c3' : v3 = .bool (deB (PgAl p q)) := c3
 subst c3'
 have bx : yA (pgV p) m = some (.pointer (some ⟨m.n, 0, none⟩), m1) := by rw [hm1]; rfl
 have by' : yA (pgV q) m1 = some (.pointer (some ⟨m1.n, 0, none⟩), m2) := by rw [hm2]; rfl
 simp [bx, by', la, lb, c1]
 exact qh (st2.ext.trans c2) (by simp)
end Go.Sx
namespace Go.Sx
open Go.Dx Go.Proofs
structure WH (cells : Int) (k : Nat) (acs : List Ac) : Prop where
 len : acs.length ≤ 65536
 qa : ∀ a ∈ acs, QA cells k a
 to : ∀ a ∈ acs, (a.op = 9 ∨ a.op = 10) → 0 ≤ a.to ∧ a.to ≤ acs.length
theorem thB_wh {cells : Int} {t : Th} : thB cells t = true ↔ (0 ≤ t.loc ∧ t.loc ≤ 24) ∧ WH cells t.loc.toNat t.acts := by
 unfold thB
 simp only [qak, decide_eq_true_eq, List.all_eq_true, DP]
 constructor
 ·rintro ⟨h1, h2, h3⟩
  exact ⟨h1, h2, fun a ha => (h3 a ha).1, fun a ha => (h3 a ha).2⟩
 ·rintro ⟨h1, h2, h3, h4⟩
  exact ⟨h1, h2, fun a ha => ⟨h3 a ha, h4 a ha⟩⟩
section
variable {cells : Int} {k : Nat} {acs : List Ac}
theorem WH.ai (h : WH cells k acs) (hk : k ≤ 24) : AI acs := by
 refine ⟨h.to, fun a ha hop => ?_, fun a ha => ?_, fun a ha hop => ?_⟩
 ·have q := h.qa a ha
  obtain ⟨e1, _, e3, _⟩ := xZ.1 q.es
  have hpe : pE a.op = true := by rcases hop with h | h <;> rw [h] <;> rfl
  rw [hpe] at e1
  intro e0
  rw [e0] at e1; simp at e1
 ·exact ((h.qa a ha).exs.2.1.to24 hk).len
 ·have := (h.qa a ha).dst
  unfold zT pD at this; rw [hop] at this
  simp at this
  omega
theorem WH.ex (h : WH cells k acs) (hk : k ≤ 24) : ∀ a ∈ acs, Ex24 a.ixs ∧ Ex24 a.es ∧ Ex24 a.fs := fun a ha => by
 obtain ⟨x1, x2, x3⟩ := (h.qa a ha).exs
 exact ⟨x1.to24 hk, x2.to24 hk, x3.to24 hk⟩
theorem Bf {aim : Nat → Bool} {acs : List Ac} {n : Nat} (hto : ∀ a ∈ acs, (a.op = 9 ∨ a.op = 10) → 0 ≤ a.to ∧ a.to ≤ n) : ∀ i, ∀ a ∈ (prF aim acs i).1, (a.op = 9 ∨ a.op = 10) → 0 ≤ a.to ∧ a.to ≤ n := by
 intro i
 induction i with
 | zero => exact hto
 | succ i ih =>
  intro x hx hop
  have hx' : x ∈ (qN aim i (prF aim acs i)).1 := hx
  rcases zH aim i (prF aim acs i) with e | ⟨a, b, h1, h2, h3, ⟨h4, e⟩ | ⟨h4, e⟩⟩
  ·rw [e] at hx'; exact ih x hx' hop
  ·rw [e] at hx'
   rcases qas hx' with hx' | rfl
   ·exact ih x hx' hop
   ·simp [qF] at hop
  ·rw [e] at hx'
   rcases qas hx' with hx' | rfl
   ·exact ih x hx' hop
   ·simp [qF] at hop
theorem wo_to {o : Nat → Bool} {acs : List Ac} (h : ∀ a ∈ acs, (a.op = 9 ∨ a.op = 10) → 0 ≤ a.to ∧ a.to ≤ acs.length) : ∀ a ∈ wo o acs, (a.op = 9 ∨ a.op = 10) → 0 ≤ a.to ∧ a.to ≤ (wo o acs).length := by
 have hl : (wo o acs).length = kb o acs.length := by unfold wo; rw [List.length_map, zA (qah _)]
 intro a ha hop
 obtain ⟨b, hb, rfl⟩ := za ha
 obtain ⟨e1, e2, e3, e4⟩ := vx o b
 rw [e1] at hop
 rw [e4 hop, hl]
 have := h b hb hop
 have := yN o (show b.to.toNat ≤ acs.length by omega)
 omega
theorem XL (acs : List Ac) : (rdA acs).length ≤ acs.length := by
 unfold rdA prs vG rea brs chn
 refine qaq (yw _ _) ?_
 rw [vQ]
 refine qaq (yw _ _) ?_
 refine qaq (yw _ _) ?_
 rw [List.length_map]
 refine qaq (yw _ _) ?_
 rw [List.length_map, List.length_map]
 exact qah _
theorem WH.rd (h : WH cells k acs) (hk : k ≤ 24) : WH cells k (rdA acs) ∧ ∀ a ∈ rdA acs, Fo a := by
 have ai := h.ai hk
 have a5 := ai.ps (h.ex hk) 5 (qah _)
 refine ⟨⟨qaq (XL acs) h.len, (QA.cl hk).rd fun a ha => (h.qa a ha).fold, ?_⟩, Fo.cl.rd fun a ha => ?_⟩
 ·show ∀ a ∈ prs (psA acs 5), _
  unfold prs
  exact wo_to (by rw [vQ]; exact Bf a5.to _)
 ·obtain ⟨x1, x2, x3⟩ := (h.qa a ha).exs
  exact ⟨x1.fld.2.1, x2.fld.2.1, x3.fld.2.1⟩
theorem WH.leq {acs' : List Ac} (h : WH cells k acs) (e : LEq acs' acs) : WH cells k acs' := by
 have key : ∀ a ∈ acs', ∃ b ∈ acs, AcEq a b := fun a ha => by
  obtain ⟨j, hj⟩ := qb1 ha
  rcases e.atI j with ⟨e1, _⟩ | ⟨a', b, e1, e2, e3⟩
  ·rw [e1] at hj; cases hj
  ·rw [e1] at hj; cases hj; exact ⟨b, qaf e2, e3⟩
 refine ⟨by rw [e.len]; exact h.len, fun a ha => ?_, fun a ha => ?_⟩
 ·obtain ⟨b, hb, x, y, z, rfl⟩ := key a ha
  have q := h.qa b hb
  exact ⟨q.op, q.may, q.dst, q.pl, q.es, q.to⟩
 ·obtain ⟨b, hb, x, y, z, rfl⟩ := key a ha
  rw [e.len]; exact h.to b hb
theorem WH.tx {t : Th} (h : WH cells k t.acts) (hk : k ≤ 24) : TX t := ⟨h.ai hk, h.ex hk, h.len⟩
end
theorem Ys {ps qs : List Ac} (h : LEq ps qs) : LEq (ps.map wh) (qs.map wh) := h.mapL fun a b hab => by
 obtain ⟨x, y, z, rfl⟩ := hab; exact ⟨x, y, z, rfl⟩
theorem bc {ps qs : List Ac} (h : LEq ps qs) : LEq (rdA ps) (rdA qs) := QZ (dB (WU (Wf (QX (Ys h)))))
noncomputable def rdN : Nat → List Ac → List Ac
 | 0, acs => acs
 | i + 1, acs => rdA (rdN i acs)
theorem WH.rdN {cells : Int} {k : Nat} {acs : List Ac} (h : WH cells k acs) (hk : k ≤ 24) : ∀ i, WH cells k (rdN i acs)
 | 0 => h
 | i + 1 => ((WH.rdN h hk i).rd hk).1
theorem XV (acs : List Ac) : ∀ i, (rdN i acs).length ≤ acs.length
 | 0 => qah _
 | i + 1 => qaq (XL _) (XV acs i)
structure PgK (p : Pg) (i : Nat) (q : Pg) : Prop where
 cells : q.cells = p.cells
 len : q.ths.length = p.ths.length
 ths : ∀ (j : Nat) u w, q.ths[j]? = some u → p.ths[j]? = some w → u.loc = w.loc ∧ LEq u.acts (rdN i w.acts)
theorem PgK.zero (p : Pg) : PgK p 0 p := ⟨rfl, rfl, fun j u w hu hw => by rw [hu] at hw; cases hw; exact ⟨rfl, LEq.refl _⟩⟩
theorem kL {α β : Type} {l : List α} {r : List β} (h : l.length = r.length) {j : Nat} {u : α} (hu : l[j]? = some u) : ∃ w, r[j]? = some w :=
 ⟨_, qae (by rw [← h]; exact (qag.1 hu).1)⟩
theorem PgK.next {p q r : Pg} {i : Nat} (h : PgK p i q) (k : PgR r q) : PgK p (i + 1) r := by
 refine ⟨k.cells.trans h.cells, k.len.trans h.len, fun j u w hu hw => ?_⟩
 obtain ⟨v, hv⟩ := kL k.len hu
 have e1 := k.ths j u v hu hv
 obtain ⟨e2, e3⟩ := h.ths j v w hv hw
 exact ⟨e1.loc.trans e2, e1.acts.trans (bc e3)⟩
theorem jV {p : Pg} : pgB p = true ↔ (0 ≤ p.cells ∧ p.cells ≤ 4096) ∧ p.ths.length ≤ 64 ∧ ∀ t ∈ p.ths, (0 ≤ t.loc ∧ t.loc ≤ 24) ∧ WH p.cells t.loc.toNat t.acts := by
 unfold pgB
 simp only [qak, decide_eq_true_eq, List.all_eq_true, thB_wh]
theorem PgK.mem {p q : Pg} {i : Nat} (h : PgK p i q) {t : Th} (ht : t ∈ q.ths) : ∃ w ∈ p.ths, t.loc = w.loc ∧ LEq t.acts (rdN i w.acts) := by
 obtain ⟨j, hj⟩ := qb1 ht
 obtain ⟨w, hw⟩ := kL h.len hj
 exact ⟨w, qaf hw, h.ths j t w hj hw⟩
theorem PgK.whole {p q : Pg} {i : Nat} (hp : pgB p = true) (h : PgK p i q) : pgB q = true ∧ (∀ t ∈ q.ths, TX t) ∧ q.ths.length ≤ 64 := by
 obtain ⟨h1, h2, h3⟩ := jV.1 hp
 have key : ∀ t ∈ q.ths, (0 ≤ t.loc ∧ t.loc ≤ 24) ∧ WH p.cells t.loc.toNat t.acts := fun t ht => by
  obtain ⟨w, hw, e1, e2⟩ := h.mem ht
  obtain ⟨g1, g2⟩ := h3 w hw
  rw [e1]
  exact ⟨g1, (g2.rdN (by omega) i).leq e2⟩
 exact ⟨jV.2 ⟨by rw [h.cells]; exact h1, by rw [h.len]; exact h2, fun t ht => by rw [h.cells]; exact key t ht⟩, fun t ht => (key t ht).2.tx (by have := (key t ht).1; omega), by rw [h.len]; exact h2⟩
def Stop (p : Pg) (i : Nat) : Prop := ∀ w ∈ p.ths, AlL (rdN i w.acts) (rdN (i + 1) w.acts)
theorem PgK.al {p q r : Pg} {i : Nat} (h : PgK p i q) (k : PgK p (i + 1) r) : PgAl q r ↔ Stop p i := by
 constructor
 ·rintro ⟨_, h2⟩ w hw
  obtain ⟨j, hj⟩ := qb1 hw
  obtain ⟨u, hu⟩ := kL h.len.symm hj
  obtain ⟨v, hv⟩ := kL k.len.symm hj
  exact (LEq.al (h.ths j u w hu hj).2 (k.ths j v w hv hj).2).1 (h2 j u v hu hv)
 ·intro hs
  refine ⟨by rw [h.len, k.len], fun j u v hu hv => ?_⟩
  obtain ⟨w, hw⟩ := kL h.len hu
  exact (LEq.al (h.ths j u w hu hw).2 (k.ths j v w hv hw).2).2 (hs w (qaf hw))
noncomputable def PH (p : Pg) (i : Nat) : Nat := (p.ths.map fun t => phi (rdN i t.acts)).sum
theorem XB {α : Type} {f g : α → Nat} : ∀ (l : List α), (∀ a ∈ l, f a ≤ g a) → (l.map f).sum ≤ (l.map g).sum ∧ ((∃ a ∈ l, f a < g a) → (l.map f).sum < (l.map g).sum)
 | [], _ => ⟨qah _, fun ⟨a, h, _⟩ => by cases h⟩
 | a :: l, h => by
  obtain ⟨h1, h2⟩ := XB l fun b hb => h b (qap _ hb)
  have h3 := h a (qay ..)
  simp only [List.map_cons, List.sum_cons]
  refine ⟨by omega, ?_⟩
  rintro ⟨b, hb, hlt⟩
  rcases List.mem_cons.1 hb with rfl | hb
  ·omega
  ·have := h2 ⟨b, hb, hlt⟩; omega
theorem XF {p : Pg} (hp : pgB p = true) {i : Nat} (hi : 1 ≤ i) (hs : ¬ Stop p i) : PH p (i + 1) < PH p i := by
 obtain ⟨h1, h2, h3⟩ := jV.1 hp
 have key : ∀ t ∈ p.ths, phi (rdN (i + 1) t.acts) < phi (rdN i t.acts) ∨ rdN (i + 1) t.acts = rdN i t.acts := fun t ht => by
  obtain ⟨g1, g2⟩ := h3 t ht
  have hk : t.loc.toNat ≤ 24 := by omega
  have wi := g2.rdN hk i
  obtain ⟨j, rfl⟩ : ∃ j, i = j + 1 := ⟨i - 1, by omega⟩
  have hf : ∀ a ∈ rdN (j + 1) t.acts, Fo a := ((g2.rdN hk j).rd hk).2
  exact rd_phi (wi.ai hk) hf (wi.rd hk).1.len
 refine (XB p.ths fun t ht => ?_).2 ?_
 ·rcases key t ht with h | h
  ·omega
  ·rw [h]; exact qah _
 ·obtain ⟨t, ht⟩ := Classical.not_forall.1 hs
  obtain ⟨ht, hne⟩ := Classical.not_imp.1 ht
  refine ⟨t, ht, (key t ht).resolve_right fun e => hne ?_⟩
  rw [e]; exact AlL.refl _
theorem phi_le {acs : List Ac} (h : acs.length ≤ 65536) : phi acs ≤ 8590131200 := by
 have h1 : wt acs ≤ 131072 := by have := (Bd acs).2; omega
 have h2 : nj acs ≤ 65536 := qaq (nj_le acs) h
 have h3 : wt acs * 65537 ≤ 131072 * 65537 := qb0 _ h1
 exact qaq (Nat.add_le_add h3 h2) (by decide)
theorem PH_le {p : Pg} (hp : pgB p = true) (i : Nat) : PH p i ≤ 549768396800 := by
 obtain ⟨h1, h2, h3⟩ := jV.1 hp
 have key : ∀ l : List Th, (∀ t ∈ l, t ∈ p.ths) → (l.map fun t => phi (rdN i t.acts)).sum ≤ l.length * 8590131200 := by
  intro l
  induction l with
  | nil => intro _; exact Nat.zero_le _
  | cons t l ih =>
   intro h
   have a := ih fun b hb => h b (qap _ hb)
   have b := phi_le (qaq (XV t.acts i) (h3 t (h t (qay ..))).2.len)
   simp only [List.map_cons, List.sum_cons, List.length_cons]
   rw [Nat.add_mul, Nat.one_mul, Nat.add_comm]
   exact Nat.add_le_add a b
 exact qaq (key p.ths fun t h => h) (qaq (qb0 _ h2) (by decide))
theorem Stop.fix {p : Pg} (hp : pgB p = true) {i : Nat} (h : Stop p i) : ∀ w ∈ p.ths, rdN (i + 1) w.acts = rdN i w.acts := fun w hw => by
 obtain ⟨g1, g2⟩ := (jV.1 hp).2.2 w hw
 have hk : w.loc.toNat ≤ 24 := by omega
 have wi := g2.rdN hk i
 exact al_rd ((wi.ai hk).fo (wi.ex hk)) (h w hw)
end Go.Sx
namespace Go.Sx
open Go.Dx Go.Proofs
set_option maxRecDepth 10000
theorem WF {m0 m : M} {Q : Value → M → Prop} {t : Tm} {c p : Nat} {a : Addr} {l : List Value} (h1 : Tm.get c t = .pointer (some a)) (h2 : loads m a 2 = some l) (he : Ext m0 m) (hq : Q (.tuple #[.agg ⟨l⟩, Tm.get p t]) m) : Ret m0 Q (kD [.cell c 2, .t p] t m) := by
 refine gz (l := [.agg ⟨l⟩, Tm.get p t]) ?_ he hq
 simp only [yW, fX, h1, yT, qy, h2]
theorem bg {m0 m : M} {Q : Value → M → Prop} {t : Tm} {c p q : Nat} {a : Addr} {l : List Value} (h1 : Tm.get c t = .pointer (some a)) (h2 : loads m a 2 = some l) (he : Ext m0 m) (hq : Q (.tuple #[.agg ⟨l⟩, Tm.get p t, Tm.get q t]) m) : Ret m0 Q (kD [.cell c 2, .t p, .t q] t m) := by
 refine gz (l := [.agg ⟨l⟩, Tm.get p t, Tm.get q t]) ?_ he hq
 simp only [yW, fX, h1, yT, qy, h2]
def ye (q : Pg) (X : Nat) : Prop := blk q.tv = some X ∨ ∃ t ∈ q.ths, KL t X
theorem PgOK.congr {m m' : M} {q : Pg} (h : PgOK m q) (hn : m.n ≤ m'.n) (k : ∀ X, ye q X → m'.obj X = m.obj X) : PgOK m' q :=
 ⟨h.tv.congr hn fun B hB => k B (.inl hB), fun t ht => (h.ths t ht).congr hn fun X hX => k X (.inr ⟨t, ht, hX⟩), h.len⟩
theorem PgOK.lt {m : M} {q : Pg} (h : PgOK m q) {X : Nat} (hX : ye q X) : X < m.n := by
 rcases hX with hX | ⟨t, ht, hX⟩
 ·exact h.tv.lt X hX
 ·exact (h.ths t ht).lt hX
structure RdQ (m : M) (p : Pg) (q : Pg) (m' : M) : Prop where
 ok : PgOK m' q
 r : PgR q p
 new : ∀ X, ye q X → m.n ≤ X
theorem Xc (N : Nat) (hN : 65560 ≤ N) (m : M) (hm : m.base ≤ m.n) (p : Pg) (hp : PgOK m p) (hx : ∀ t ∈ p.ths, TX t) (hl : p.ths.length ≤ 64) :
  Dx.Call (ex Tryz.prog (N + 4)) 34 [pgV p] m fun v m' => ∃ q : Pg, v = pgV q ∧ RdQ m p q m' := by
 refine (DJ N hN m hm p hp hx hl).mono fun v m' e ⟨q, h1, h2, h3, h4, h5⟩ => ⟨q, h1, h2, h3, fun X hX => ?_⟩
 rcases hX with hX | ⟨t, ht, hX⟩
 ·exact h4 X hX
 ·exact h5 t ht X hX
def jG : Pg := ⟨0, .slice none 0 0, []⟩
theorem jF {m : M} {p : Pg} (h : PgOK m p) : ∀ v ∈ [iv p.cells, p.tv], Dx.okC v = true := fun v hv => by
 simp at hv
 rcases hv with rfl | rfl
 ·rfl
 ·exact gU h.tv.len
theorem XW (N : Nat) (hN : 65560 ≤ N) (m : M) (hm : m.base ≤ m.n) (p : Pg) (hp : PgOK m p) :
  Dx.Call (ex Tryz.prog (N + 5)) 15 [pgV p] m fun v m' => (pgB p = false ∧ v = .tuple #[pgV jG, iv 1]) ∨ (pgB p = true ∧ ∃ q : Pg, v = .tuple #[pgV q, iv 0] ∧ RdQ m p q m') := by
 refine qp da6_ok (by simp) ?_
 obtain ⟨m1, hm1⟩ := qb8 (Dx.newRow m [iv p.cells, p.tv])
 obtain ⟨m2, hm2⟩ := qb8 (Dx.newRow m1 zTh)
 have n1 : m1.n = m.n + 1 := by rw [hm1, qm]
 have n2 : m2.n = m.n + 2 := by rw [hm2, qm, n1]
 have st1 := (St.nil hm (Ext.refl m)).row [iv p.cells, p.tv]
 rw [← hm1] at st1
 have st2 := st1.row zTh
 rw [← hm2, n1] at st2
 have bx : yA (pgV p) m = some (.pointer (some ⟨m.n, 0, none⟩), m1) := by rw [hm1]; rfl
 have l2 : loads m2 ⟨m.n, 0, none⟩ 2 = some [iv p.cells, p.tv] := (st2.get 1 rfl).2.2.loads (by simp)
 have p2 := hp.sees st2.sees
 obtain ⟨v3, m3, c1, c2, rfl⟩ := Xs p (N - 1) m2 st2.sees.self.base p2
 rw [show N - 1 + 5 = N + 4 by omega] at c1
 have st3 := st2.step c2
 have pv : (.agg ⟨[iv p.cells, p.tv]⟩ : Value) = pgV p := rfl
 cases hB : pgB p with
 | false =>
  rw [hB] at c1
  obtain ⟨m4, s1, s2, s3, s4⟩ := st3.fill 0 rfl (n := 2) (l' := zTh) rfl rfl (by simp; exact ⟨rfl, rfl⟩)
  have l4 : loads m4 ⟨m.n + 1, 0, none⟩ 2 = some zTh := (s2.get 0 rfl).2.2.loads (by simp)
  have bz : wn zTh [] = some (.agg ⟨zTh⟩) := rfl
  simp [bx, ← hm2, n1, l2, qf, pv, c1, bz, s1]
  exact WF (a := ⟨m.n + 1, 0, none⟩) (l := zTh) (by simp) l4 s2.ext (by simp; rfl)
 | true =>
  rw [hB] at c1
  obtain ⟨hw, htx, hlen⟩ := (PgK.zero p).whole hB
  have l3 : loads m3 ⟨m.n, 0, none⟩ 2 = some [iv p.cells, p.tv] := (st3.get 1 rfl).2.2.loads (by simp)
  obtain ⟨v4, m4, d1, d2, q, rfl, d3⟩ := Xc N hN m3 st3.sees.self.base p (hp.sees st3.sees) htx hlen
  have st4 := st3.step d2
  obtain ⟨m5, s1, s2, s3, s4⟩ := st4.fill 0 rfl (n := 2) (l' := [iv q.cells, q.tv]) rfl rfl (jF d3.ok)
  have l5 : loads m5 ⟨m.n + 1, 0, none⟩ 2 = some [iv q.cells, q.tv] := (s2.get 0 rfl).2.2.loads (by simp)
  have s1' : qH 2 (.pointer (some ⟨m.n + 1, 0, none⟩)) (pgV q) m4 = some (undef, m5) := s1
  have n3 := c2.n
  simp [bx, ← hm2, n1, l2, qf, pv, c1, l3, d1, s1']
  refine WF (a := ⟨m.n + 1, 0, none⟩) (l := [iv q.cells, q.tv]) (by simp) l5 s2.ext ⟨q, by simp; rfl, ?_, d3.r, fun X hX => by have := d3.new X hX; omega⟩
  exact d3.ok.congr (by omega) fun X hX => s4 X (by have := d3.new X hX; omega)
structure OpQ (m : M) (p : Pg) (n : Nat) (q : Pg) (m' : M) : Prop where
 ok : PgOK m' q
 k : PgK p (n + 1) q
 stop : Stop p n
 first : ∀ i, i < n → ¬ Stop p i
 new : ∀ X, ye q X → m.n ≤ X
structure OI (m : M) (p : Pg) (B5 i : Nat) (m' : M) (a q : Pg) : Prop where
 st : St m m' [(B5, [iv q.cells, q.tv]), (m.n + 1, zTh), (m.n, [iv a.cells, a.tv])]
 b5 : m.n + 2 ≤ B5
 pa : PgOK m' a
 pq : PgOK m' q
 ka : PgK p i a
 kq : PgK p (i + 1) q
 na : ∀ X, ye a X → X ≠ m.n ∧ X ≠ B5
 nq : ∀ X, ye q X → m.n + 2 ≤ X ∧ X ≠ B5
 first : ∀ j, j < i → ¬ Stop p j
 bnd : i = 0 ∨ i + PH p i ≤ 1 + PH p 1
theorem Opt_c (N : Nat) (hN : 65560 ≤ N) (m : M) (hm : m.base ≤ m.n) (p : Pg) (hp : PgOK m p) :
  Dx.Call (ex Tryz.prog (N + 7)) 16 [pgV p] m fun v m' => (pgB p = false ∧ v = .tuple #[pgV jG, iv 0, iv 1]) ∨ (pgB p = true ∧ ∃ (n : Nat) (q : Pg), v = .tuple #[pgV q, iv n, iv 0] ∧ OpQ m p n q m') := by
 refine qp da7_ok (by simp) ?_
 obtain ⟨m1, hm1⟩ := qb8 (Dx.newRow m [iv p.cells, p.tv])
 obtain ⟨m2, hm2⟩ := qb8 (Dx.newRow m1 zTh)
 have n1 : m1.n = m.n + 1 := by rw [hm1, qm]
 have n2 : m2.n = m.n + 2 := by rw [hm2, qm, n1]
 have st1 := (St.nil hm (Ext.refl m)).row [iv p.cells, p.tv]
 rw [← hm1] at st1
 have st2 := st1.row zTh
 rw [← hm2, n1] at st2
 have bx : yA (pgV p) m = some (.pointer (some ⟨m.n, 0, none⟩), m1) := by rw [hm1]; rfl
 have l2 : loads m2 ⟨m.n, 0, none⟩ 2 = some [iv p.cells, p.tv] := (st2.get 1 rfl).2.2.loads (by simp)
 have p2 := hp.sees st2.sees
 have pv : ∀ q : Pg, (.agg ⟨[iv q.cells, q.tv]⟩ : Value) = pgV q := fun q => rfl
 obtain ⟨v3, m3, c1, c2, c3⟩ := XW (N + 1) (by omega) m2 st2.sees.self.base p p2
 have st3 := st2.step c2
 obtain ⟨B5, hB5⟩ := qb8 (m3.n)
 have n3 := c2.n
 have st4 := st3.row zTh
 obtain ⟨m4, hm4⟩ := qb8 (Dx.newRow m3 zTh)
 rw [← hm4, ← hB5] at st4
 have e4 : Ext m3 m4 := by rw [hm4]; exact Ext.row _ _
 have n4 : m4.n = B5 + 1 := by rw [hm4, qm, hB5]
 rcases c3 with ⟨hB, rfl⟩ | ⟨hB, q, rfl, c3⟩
 ·obtain ⟨m5, s1, s2, s3, s4⟩ := st4.fill 0 rfl (n := 2) (l' := zTh) rfl rfl (by simp; exact ⟨rfl, rfl⟩)
  have st5 : St m m5 [(B5, zTh), (m.n + 1, zTh), (m.n, [iv p.cells, p.tv])] := s2
  have l5 : loads m5 ⟨B5, 0, none⟩ 2 = some zTh := (st5.get 0 rfl).2.2.loads (by simp)
  obtain ⟨m6, r1, r2, r3, r4⟩ := st5.fill 1 rfl (n := 2) (l' := zTh) rfl rfl (by simp; exact ⟨rfl, rfl⟩)
  have l6 : loads m6 ⟨m.n + 1, 0, none⟩ 2 = some zTh := (r2.get 1 rfl).2.2.loads (by simp)
  have s1' : qH 2 (.pointer (some ⟨B5, 0, none⟩)) (pgV jG) m4 = some (undef, m5) := s1
  simp [bx, ← hm2, n1, l2, qf, pv, c1, ← hm4, ← hB5, s1', l5, r1]
  exact bg (a := ⟨m.n + 1, 0, none⟩) (l := zTh) (by simp) l6 r2.ext (.inl ⟨hB, by simp; rfl⟩)
 ·obtain ⟨m5, s1, s2, s3, s4⟩ := st4.fill 0 rfl (n := 2) (l' := [iv q.cells, q.tv]) rfl rfl (jF c3.ok)
  have st5 : St m m5 [(B5, [iv q.cells, q.tv]), (m.n + 1, zTh), (m.n, [iv p.cells, p.tv])] := s2
  have s1' : qH 2 (.pointer (some ⟨B5, 0, none⟩)) (pgV q) m4 = some (undef, m5) := s1
  have hlen := PH_le hB 1
  have q5 : PgOK m5 q := (c3.ok.congr e4.n fun X hX => e4.obj X (c3.ok.lt hX)).congr (by omega) fun X hX => s4 X (by have := c3.ok.lt hX; omega)
  have h0 : OI m p B5 0 m5 p q := ⟨st5, by omega, hp.sees st5.sees, q5, PgK.zero p, (PgK.zero p).next c3.r, fun X hX => by have := hp.lt hX; omega, fun X hX => ⟨by have := c3.new X hX; omega, by have := c3.ok.lt hX; omega⟩, fun j hj => absurd hj (qb7 _), .inl rfl⟩
  simp [bx, ← hm2, n1, l2, qf, pv, c1, ← hm4, ← hB5, s1']
  refine qq (c := ca7_9) rfl (Ret m _) (fun i t m' => Tm.get 1 t = .pointer (some ⟨m.n, 0, none⟩) ∧ Tm.get 2 t = .pointer (some ⟨m.n + 1, 0, none⟩) ∧ Tm.get 5 t = .pointer (some ⟨B5, 0, none⟩) ∧ Tm.get 7 t = iv i ∧ ∃ a q, OI m p B5 i m' a q) (2 + PH p 1) (by omega) ?_ (fun i t m' k hi hI hk => ?_)
  ·exact ⟨by simp, by simp, by simp, by simp, p, q, h0⟩
  clear h0 q5 s1' st5 s2 s1 c3 c1 q
  obtain ⟨t1, t2, t5, t7, a, q, hI⟩ := hI
  have la : loads m' ⟨m.n, 0, none⟩ 2 = some [iv a.cells, a.tv] := (hI.st.get 2 rfl).2.2.loads (by simp)
  have lq : loads m' ⟨B5, 0, none⟩ 2 = some [iv q.cells, q.tv] := (hI.st.get 0 rfl).2.2.loads (by simp)
  obtain ⟨v6, m6, d1, d2, rfl⟩ := DB a q N m' hI.st.sees.self.base hI.pa hI.pq
  have st6 := hI.st.step d2
  have lq6 : loads m6 ⟨B5, 0, none⟩ 2 = some [iv q.cells, q.tv] := (st6.get 0 rfl).2.2.loads (by simp)
  have a6 : PgOK m6 a := hI.pa.congr d2.n fun X hX => d2.obj X (hI.pa.lt hX)
  have q6 : PgOK m6 q := hI.pq.congr d2.n fun X hX => d2.obj X (hI.pq.lt hX)
  by_cases hs : Stop p i
  ·rw [yY ((hI.ka.al hI.kq).2 hs)] at d1
   obtain ⟨m7, r1, r2, r3, r4⟩ := st6.fill 1 rfl (n := 2) (l' := [iv q.cells, q.tv]) rfl rfl (jF q6)
   have l7 : loads m7 ⟨m.n + 1, 0, none⟩ 2 = some [iv q.cells, q.tv] := (r2.get 1 rfl).2.2.loads (by simp)
   have r1' : qH 2 (.pointer (some ⟨m.n + 1, 0, none⟩)) (pgV q) m6 = some (undef, m7) := r1
   simp [t1, t2, t5, t7, la, lq, qf, pv, d1, lq6, r1']
   refine bg (a := ⟨m.n + 1, 0, none⟩) (l := [iv q.cells, q.tv]) (by simp [t2]) l7 r2.ext (.inr ⟨hB, i, q, by simp; rfl, ?_, hI.kq, hs, hI.first, fun X hX => by have := (hI.nq X hX).1; omega⟩)
   exact q6.congr (by omega) fun X hX => r4 X (by have := (hI.nq X hX).1; omega)
  ·rw [vJ fun h => hs ((hI.ka.al hI.kq).1 h)] at d1
   obtain ⟨hw, htx, hlq⟩ := hI.kq.whole hB
   have q6' : PgOK (qn m6) q := q6.congr (by rw [qx]; exact qah _) fun X _ => qw m6 X
   obtain ⟨v7, m7', f1, f2, f3, r, hvr, f4⟩ := xJ (Xc (N + 2) (by omega) (qn m6) (by rw [qx, ki]; exact qah _) q q6' htx hlq)
   subst hvr
   obtain ⟨m7, hm7⟩ := qb8 (Dx.behind m6 m7')
   rw [← hm7] at f3
   have st7 := st6.step f3
   have r7 : PgOK m7 r := by rw [hm7]; exact f4.ok.congr (by rw [wu]; exact qah _) fun X _ => qB _ _ _
   have rn : ∀ X, ye r X → m6.n ≤ X := fun X hX => by have := f4.new X hX; rwa [qx] at this
   obtain ⟨m8', g1, g2, g3, g4, g5⟩ := st7.fillAny 2 rfl (n := 2) (l' := [iv q.cells, q.tv]) (by omega) rfl rfl (jF q6)
   obtain ⟨m8, hm8⟩ := qb8 (Dx.behind m7 m8')
   rw [← hm8] at g3 g4 g5
   have st8 : St m m8 [(B5, [iv q.cells, q.tv]), (m.n + 1, zTh), (m.n, [iv q.cells, q.tv])] := g3
   obtain ⟨m9', j1, j2, j3, j4, j5⟩ := st8.fillAny 0 rfl (n := 2) (l' := [iv r.cells, r.tv]) (by omega) rfl rfl (jF r7)
   obtain ⟨m9, hm9⟩ := qb8 (Dx.behind m8 m9')
   rw [← hm9] at j3 j4 j5
   have g1' : qH 2 (.pointer (some ⟨m.n, 0, none⟩)) (pgV q) (qn m7) = some (undef, m8') := g1
   have j1' : qH 2 (.pointer (some ⟨B5, 0, none⟩)) (pgV r) (qn m8) = some (undef, m9') := j1
   obtain ⟨i1, hi1⟩ := qb8 (i + 1)
   have w1 : IntKind.i64.wrap ((i : Int) + 1) = (i1 : Int) := by rw [wrap64 _ (by omega) (by omega)]; omega
   have hd : i < 2 + PH p 1 := by
    rcases hI.bnd with h | h <;> omega
   have hkr : PgK p (i + 1 + 1) r := hI.kq.next f4.r
   have hbn : i + 1 + PH p (i + 1) ≤ 1 + PH p 1 := by
    rcases hI.bnd with h | h
    ·subst h; show 0 + 1 + PH p 1 ≤ 1 + PH p 1; omega
    ·by_cases h0 : i = 0
     ·subst h0; show 0 + 1 + PH p 1 ≤ 1 + PH p 1; omega
     ·have := XF hB (show 1 ≤ i by omega) hs; omega
   have hb5 := (st6.get 0 rfl).2.1
   have m69 : ∀ X, X ≠ m.n → X ≠ B5 → X < m6.n → m9.obj X = m6.obj X := fun X h1 h2 h3 => by rw [j5 X h2, g5 X h1, f3.obj X h3]
   have n67 := f3.n
   have hnext : OI m p B5 (i + 1) m9 q r := by
    refine ⟨j3, hI.b5, q6.congr (by omega) fun X hX => m69 X (by have := (hI.nq X hX).1; omega) (hI.nq X hX).2 (q6.lt hX), r7.congr (by omega) fun X hX => ?_, hI.kq, hkr, fun X hX => ⟨by have := (hI.nq X hX).1; omega, (hI.nq X hX).2⟩, fun X hX => ?_, fun j hj => ?_, .inr hbn⟩
    ·have := rn X hX
     have := hI.b5
     rw [j5 X (by omega), g5 X (by omega)]
    ·have := rn X hX
     have := hI.b5
     exact ⟨by omega, by omega⟩
    ·by_cases hji : j < i
     ·exact hI.first j hji
     ·obtain rfl : j = i := by omega
      exact hs
   rw [← hi1] at hk hnext
   simp [t1, t2, t5, t7, la, lq, qf, pv, d1, lq6, f1, f2, ← hm7, g1', ← hm8, j1', ← hm9, w1]
   exact hk hd _ _ ⟨by simp [t1], by simp [t2], by simp [t5], by simp, q, r, hnext⟩
end Go.Sx
namespace Go.Sx
open Go.Dx Go.Proofs
set_option maxRecDepth 10000
theorem May_c (n : Nat) (op mode : Int) (m : M) : CallV (ex Tryz.prog (n + 1)) 69 [iv op, iv mode] m (.bool (ky op mode)) := by
 refine qp de0_ok (by simp) ?_
 have E := Ext.refl m
 by_cases h2 : op = 2
 ·subst h2
  by_cases q1 : mode = 1
  ·subst q1; simp; exact qh E (by simp [ky])
  by_cases q2 : mode = 2
  ·subst q2; simp; exact qh E (by simp [ky])
  simp [q1, q2]; exact qh E (by simp [ky, q1, q2])
 by_cases h3 : op = 3
 ·subst h3
  by_cases q1 : mode = 1
  ·subst q1; simp; exact qh E (by simp [ky])
  by_cases q2 : mode = 3
  ·subst q2; simp; exact qh E (by simp [ky])
  simp [q1, q2]; exact qh E (by simp [ky, q1, q2])
 by_cases h4 : op = 4
 ·subst h4
  by_cases q1 : 1 ≤ mode
  ·have q1' : (1 ≤ mode) = True := eq_true q1
   simp [q1']; exact qh E (by simp [ky, q1'])
  ·have q1' : (1 ≤ mode) = False := eq_false q1
   simp [q1']; exact qh E (by simp [ky, q1'])
 by_cases h5 : op = 5
 ·subst h5
  by_cases q1 : 1 ≤ mode
  ·have q1' : (1 ≤ mode) = True := eq_true q1
   simp [q1']; exact qh E (by simp [ky, q1'])
  ·have q1' : (1 ≤ mode) = False := eq_false q1
   simp [q1']; exact qh E (by simp [ky, q1'])
 by_cases h6 : op = 6
 ·subst h6
  by_cases q1 : 1 ≤ mode
  ·have q1' : (1 ≤ mode) = True := eq_true q1
   simp [q1']; exact qh E (by simp [ky, q1'])
  ·have q1' : (1 ≤ mode) = False := eq_false q1
   simp [q1']; exact qh E (by simp [ky, q1'])
 by_cases h7 : op = 7
 ·subst h7
  by_cases q1 : 2 ≤ mode
  ·have q1' : (2 ≤ mode) = True := eq_true q1
   simp [q1']; exact qh E (by simp [ky, q1'])
  ·have q1' : (2 ≤ mode) = False := eq_false q1
   simp [q1']; exact qh E (by simp [ky, q1'])
 simp [h2, h3, h4, h5, h6, h7]; exact qh E (by simp [ky, h2, h3, h4, h5, h6, h7])
theorem Fc (n : Nat) (op : Int) (m : M) : CallV (ex Tryz.prog (n + 1)) 70 [iv op] m (.bool (pD op)) := by
 refine qp de1_ok (by simp) ?_
 have E := Ext.refl m
 by_cases h1 : op = 1
 ·subst h1; simp; exact qh E (by simp [pD])
 by_cases h2 : op = 2
 ·subst h2; simp; exact qh E (by simp [pD])
 by_cases h3 : op = 4
 ·subst h3; simp; exact qh E (by simp [pD])
 by_cases h4 : op = 5
 ·subst h4; simp; exact qh E (by simp [pD])
 have d1 : decide (op = 1) = false := decide_eq_false h1
 have d2 : decide (op = 2) = false := decide_eq_false h2
 have d3 : decide (op = 4) = false := decide_eq_false h3
 have d4 : decide (op = 5) = false := decide_eq_false h4
 simp [d1, d2, d3, d4]
 exact qh E (by simp [pD, h1, h2, h3, h4])
theorem GQ (n : Nat) (op : Int) (m : M) : CallV (ex Tryz.prog (n + 1)) 71 [iv op] m (.bool (pP op)) := by
 refine qp de2_ok (by simp) ?_
 have E := Ext.refl m
 by_cases h1 : op = 2
 ·subst h1; simp; exact qh E (by simp [pP])
 by_cases h2 : op = 3
 ·subst h2; simp; exact qh E (by simp [pP])
 by_cases h3 : op = 4
 ·subst h3; simp; exact qh E (by simp [pP])
 by_cases h4 : op = 5
 ·subst h4; simp; exact qh E (by simp [pP])
 have d1 : decide (op = 2) = false := decide_eq_false h1
 have d2 : decide (op = 3) = false := decide_eq_false h2
 have d3 : decide (op = 4) = false := decide_eq_false h3
 have d4 : decide (op = 5) = false := decide_eq_false h4
 simp [d1, d2, d3, d4]
 exact qh E (by simp [pP, h1, h2, h3, h4])
def Ko (n : Int) : Bool := decide (0 < n ∧ n ≤ 1024) && decide (n.toNat &&& (n.toNat - 1) = 0)
theorem Xi : ∀ n : Nat, n < 1025 → (0 < n ∧ n &&& (n - 1) = 0 ↔ ∃ i, i < 11 ∧ n = 2 ^ i) := by decide +kernel
theorem KZ (n : Int) : Ko n = true ↔ ∃ i : Nat, i < 11 ∧ n = ((2 ^ i : Nat) : Int) := by
 unfold Ko
 simp only [qak, decide_eq_true_eq]
 constructor
 ·rintro ⟨⟨h1, h2⟩, h3⟩
  obtain ⟨i, hi, he⟩ := (Xi n.toNat (by omega)).1 ⟨by omega, h3⟩
  exact ⟨i, hi, by omega⟩
 ·rintro ⟨i, hi, he⟩
  have hp : 2 ^ i ≤ 2 ^ 10 := Nat.pow_le_pow_right (by omega) (by omega)
  have hp0 : 0 < 2 ^ i := Nat.pow_pos (by omega)
  have hn : n.toNat = 2 ^ i := by omega
  have := (Xi n.toNat (by omega)).2 ⟨i, hi, hn⟩
  exact ⟨⟨by omega, by omega⟩, this.2⟩
theorem DI (N : Nat) (n : Int) (m : M) : CallV (ex Tryz.prog (N + 1)) 72 [iv n] m (.bool (Ko n)) := by
 refine qp de3_ok (by simp) ?_
 simp
 refine qq (c := ce3_9) rfl (Ret m _) (fun i t m3 => m3 = m ∧ Tm.get 0 t = iv n ∧ Tm.get 3 t = iv ((2 ^ i : Nat) : Int) ∧ ∀ j, j < i → n ≠ ((2 ^ j : Nat) : Int)) 11 (by omega)
  ⟨rfl, by simp, by simp, fun j hj => by omega⟩ (fun i t m3 kk hi hI hk => ?_)
 obtain ⟨rfl, t0, t3, hne⟩ := hI
 obtain ⟨p, hp⟩ : ∃ p : Nat, p = 2 ^ i := ⟨_, rfl⟩
 rw [← hp] at t3
 have hpl : p ≤ 2 ^ 11 := by rw [hp]; exact Nat.pow_le_pow_right (by omega) hi
 by_cases hil : i < 11
 ·have hpl : p ≤ 2 ^ 10 := by rw [hp]; exact Nat.pow_le_pow_right (by omega) (by omega)
  have e1 : ((p : Int) ≤ 1024) = True := eq_true (by omega)
  have e1' : (p ≤ 1024) = True := eq_true (by omega)
  by_cases hq : (p : Int) = n
  ·have dq : decide ((p : Int) = n) = true := decide_eq_true hq
   have hB : Ko n = true := (KZ n).2 ⟨i, hil, by rw [← hq, hp]⟩
   rw [hB]
   simp [t0, t3, e1, e1', dq]
   exact qh (Ext.refl _) (by simp)
  ·have dq : decide ((p : Int) = n) = false := decide_eq_false hq
   obtain ⟨q, hqq⟩ : ∃ q : Nat, q = 2 ^ (i + 1) := ⟨_, rfl⟩
   have w : vi .i64 ((p : Int) * 2) = (q : Int) := by rw [zE, wrap64 _ (by omega) (by omega), hqq, Nat.pow_succ, ← hp]; omega
   simp [t0, t3, e1, e1', dq, w]
   refine hk hil _ _ ⟨rfl, by simp [t0], by rw [← hqq]; simp; exact w, fun j hj => ?_⟩
   rcases Nat.lt_or_ge j i with h | h
   ·exact hne j h
   ·obtain rfl : j = i := by omega
    rw [← hp]; exact fun h => hq h.symm
 ·obtain rfl : i = 11 := by omega
  have hB : Ko n = false := by
   cases hc : Ko n with
   | false => rfl
   | true => obtain ⟨j, hj, he⟩ := (KZ n).1 hc; exact absurd he (hne j hj)
  have hp' : p = 2048 := by rw [hp]
  subst hp'
  rw [hB]
  simp [t0, t3]
  exact qh (Ext.refl _) (by simp)
end Go.Sx
namespace Go.Sx
open Go.Dx Go.Proofs
set_option maxRecDepth 10000
abbrev rwS (A3 A4 A5 : Nat) (a : Ac) (cells : Int) (tv : Value) (k : Nat) (av : Value) : List (Nat × List Value) := [(A5, [iv k, av]), (A4, [iv cells, tv]), (A3, qe a)]
structure WR (t : Tm) (A3 A4 A5 : Nat) : Prop where
 t3 : Tm.get 3 t = .pointer (some ⟨A3, 0, none⟩)
 t4 : Tm.get 4 t = .pointer (some ⟨A4, 0, none⟩)
 t5 : Tm.get 5 t = .pointer (some ⟨A5, 0, none⟩)
def eB (e : Bool) (k : Nat) (es : List Nd) : Bool := if e then qD k es else decide (es.length = 0)
section
variable {m0 m : M} {A3 A4 A5 : Nat} {a : Ac} {cells : Int} {tv av : Value} {k na : Nat} {t : Tm}
theorem rb1 (hst : St m0 m (rwS A3 A4 A5 a cells tv k av)) (hT : WR t A3 A4 A5) {N : Nat} {kn kr : K} {ke : Nat → K} {Q : Option Out → Prop}
  (H1 : zT (pD a.op) k a.dst = false → ∀ t' m', Tm.get 6 t' = .bool false → Ext m m' → Q (kr t' m'))
  (H2 : zT (pD a.op) k a.dst = true → ∀ t' m', WR t' A3 A4 A5 → Ext m m' → Q (kn t' m')) : Q (BN (ex Tryz.prog (N + 2)) kn ke kr t m) := by
 have la : ∀ o s, load1 m ⟨A3, o, s⟩ = (qe a)[o]? := fun o s => (hst.get 2 rfl).2.2.load1 o s
 have lt : ∀ o s, load1 m ⟨A5, o, s⟩ = [iv k, av][o]? := fun o s => (hst.get 0 rfl).2.2.load1 o s
 obtain ⟨t3, t4, t5⟩ := hT
 obtain ⟨v1, m1, c1, c2, rfl⟩ := Fc (N + 1) a.op m
 have st1 := hst.step c2
 have la1 : ∀ o s, load1 m1 ⟨A3, o, s⟩ = (qe a)[o]? := fun o s => (st1.get 2 rfl).2.2.load1 o s
 have lt1 : ∀ o s, load1 m1 ⟨A5, o, s⟩ = [iv k, av][o]? := fun o s => (st1.get 0 rfl).2.2.load1 o s
 obtain ⟨v2, m2, d1, d2, rfl⟩ := Fc (N + 1) a.op m1
 have st2 := st1.step d2
 have la2 : ∀ o s, load1 m2 ⟨A3, o, s⟩ = (qe a)[o]? := fun o s => (st2.get 2 rfl).2.2.load1 o s
 simp only [qe] at la la1 la2
 cases hd : pD a.op with
 | true =>
  rw [hd] at c1 d1 H1 H2
  by_cases h1 : a.dst < 0
  ·have e1 : (a.dst < 0) = True := eq_true h1
   have hb : zT true k a.dst = false := decide_eq_false (by omega)
   simp [la, la1, lt1, t3, t4, t5, c1, e1]
   exact H1 hb _ _ (by simp) c2
  have e1 : (a.dst < 0) = False := eq_false h1
  by_cases h2 : (k : Int) ≤ a.dst
  ·have e2 : ((k : Int) ≤ a.dst) = True := eq_true h2
   have hb : zT true k a.dst = false := decide_eq_false (by omega)
   simp [la, la1, lt1, t3, t4, t5, c1, e1, e2]
   exact H1 hb _ _ (by simp) c2
  have e2 : ((k : Int) ≤ a.dst) = False := eq_false h2
  have hb : zT true k a.dst = true := decide_eq_true (by omega)
  simp [la, la1, lt1, t3, t4, t5, c1, d1, e1, e2]
  exact H2 hb _ _ ⟨by simp [t3], by simp [t4], by simp [t5]⟩ (c2.trans d2)
 | false =>
  rw [hd] at c1 d1 H1 H2
  by_cases h1 : a.dst = 0
  ·have e1 : decide (a.dst = 0) = true := decide_eq_true h1
   have hb : zT false k a.dst = true := e1
   simp [la, la1, la2, lt1, t3, t4, t5, c1, d1, e1]
   exact H2 hb _ _ ⟨by simp [t3], by simp [t4], by simp [t5]⟩ (c2.trans d2)
  ·have e1 : decide (a.dst = 0) = false := decide_eq_false h1
   have hb : zT false k a.dst = false := e1
   simp [la, la1, la2, lt1, t3, t4, t5, c1, d1, e1]
   exact H1 hb _ _ (by simp) (c2.trans d2)
theorem rb2 (hst : St m0 m (rwS A3 A4 A5 a cells tv k av)) (hT : WR t A3 A4 A5) (hk : k < 1000000) (ha : AcOK m a) (hc0 : 0 ≤ cells) (hc1 : cells ≤ 4096) {n7 : Int} (h7 : 1 ≤ n7 ∧ n7 ≤ 1024) (h70 : ¬ a.size = 0 → 0 < a.size) (t7 : Tm.get 7 t = iv n7) {N : Nat} {kn kr : K} {ke : Nat → K} {Q : Option Out → Prop}
  (H1 : (decide (0 ≤ a.base ∧ a.base ≤ cells - n7) && (if a.size = 0 then decide (a.ixs.length = 0) else qD k a.ixs)) = false → ∀ t' m', Tm.get 6 t' = .bool false → Ext m m' → Q (kr t' m'))
  (H2 : (decide (0 ≤ a.base ∧ a.base ≤ cells - n7) && (if a.size = 0 then decide (a.ixs.length = 0) else qD k a.ixs)) = true → ∀ t' m', WR t' A3 A4 A5 → Ext m m' → Q (kn t' m')) : Q (JN (ex Tryz.prog (N + 2)) kn ke kr t m) := by
 have la : ∀ o s, load1 m ⟨A3, o, s⟩ = (qe a)[o]? := fun o s => (hst.get 2 rfl).2.2.load1 o s
 have lt : ∀ o s, load1 m ⟨A5, o, s⟩ = [iv k, av][o]? := fun o s => (hst.get 0 rfl).2.2.load1 o s
 have lp : ∀ o s, load1 m ⟨A4, o, s⟩ = [iv cells, tv][o]? := fun o s => (hst.get 1 rfl).2.2.load1 o s
 obtain ⟨t3, t4, t5⟩ := hT
 have hil : qL a.ix = some (.int .i64 (a.ixs.length : Int)) := ha.ix.len
 obtain ⟨v1, m1, c1, c2, rfl⟩ := xP k hk a.ixs a.ix ha.ixl (N + 1) m hst.sees.self.base ha.ix
 simp only [qe] at la
 obtain ⟨q, hq⟩ := qb8 (cells - n7)
 have hw : IntKind.i64.wrap (cells - n7) = q := by rw [wrap64 _ (by omega) (by omega), hq]
 rw [← hq] at H1 H2
 by_cases h1 : a.base < 0
 ·have e1 : (a.base < 0) = True := eq_true h1
  simp [la, lt, lp, t3, t4, t5, t7, e1]
  exact H1 (by rw [decide_eq_false (by omega)]; rfl) _ _ (by simp) (Ext.refl m)
 have e1 : (a.base < 0) = False := eq_false h1
 by_cases h2 : q < a.base
 ·have e2 : (q < a.base) = True := eq_true h2
  simp [la, lt, lp, t3, t4, t5, t7, e1, hw, e2]
  exact H1 (by rw [decide_eq_false (by omega)]; rfl) _ _ (by simp) (Ext.refl m)
 have e2 : (q < a.base) = False := eq_false h2
 rw [decide_eq_true (show 0 ≤ a.base ∧ a.base ≤ q by omega), Bool.true_and] at H1 H2
 by_cases h3 : a.size = 0
 ·have d3 : decide (a.size = 0) = true := decide_eq_true h3
  have e3 : (0 < a.size) = False := eq_false (by omega)
  rw [if_pos h3] at H1 H2
  obtain ⟨n, hn⟩ := qb8 (a.ixs.length)
  rw [← hn] at hil H1 H2
  by_cases h4 : n = 0
  ·have e4 : ((0 : Int) < (n : Int)) = False := eq_false (by omega)
   have e4' : (0 < n) = False := eq_false (by omega)
   simp [la, lt, lp, t3, t4, t5, t7, e1, hw, e2, d3, hil, e4, e4', e3]
   exact H2 (decide_eq_true h4) _ _ ⟨by simp [t3], by simp [t4], by simp [t5]⟩ (Ext.refl m)
  ·have e4 : ((0 : Int) < (n : Int)) = True := eq_true (by omega)
   have e4' : (0 < n) = True := eq_true (by omega)
   simp [la, lt, lp, t3, t4, t5, t7, e1, hw, e2, d3, hil, e4, e4', e3]
   exact H1 (decide_eq_false h4) _ _ (by simp) (Ext.refl m)
 ·have d3 : decide (a.size = 0) = false := decide_eq_false h3
  have e3 : (0 < a.size) = True := eq_true (h70 h3)
  rw [if_neg h3] at H1 H2
  cases hb : qD k a.ixs with
  | true =>
   rw [hb] at c1 H1 H2
   simp [la, lt, lp, t3, t4, t5, t7, e1, hw, e2, d3, hil, e3, c1]
   exact H2 rfl _ _ ⟨by simp [t3], by simp [t4], by simp [t5]⟩ c2
  | false =>
   rw [hb] at c1 H1 H2
   simp [la, lt, lp, t3, t4, t5, t7, e1, hw, e2, d3, hil, e3, c1]
   exact H1 rfl _ _ (by simp) c2
theorem rb3 (hst : St m0 m (rwS A3 A4 A5 a cells tv k av)) (hT : WR t A3 A4 A5) (hk : k < 1000000) (ha : AcOK m a) (hc0 : 0 ≤ cells) (hc1 : cells ≤ 4096) {N : Nat} {kn kr : K} {ke : Nat → K} {Q : Option Out → Prop}
  (H1 : plB (pP a.op) cells k a = false → ∀ t' m', Tm.get 6 t' = .bool false → Ext m m' → Q (kr t' m'))
  (H2 : plB (pP a.op) cells k a = true → ∀ t' m', WR t' A3 A4 A5 → Ext m m' → Q (kn t' m')) : Q (JS (ex Tryz.prog (N + 2)) kn ke kr t m) := by
 have la : ∀ o s, load1 m ⟨A3, o, s⟩ = (qe a)[o]? := fun o s => (hst.get 2 rfl).2.2.load1 o s
 obtain ⟨t3, t4, t5⟩ := hT
 obtain ⟨v1, m1, c1, c2, rfl⟩ := GQ (N + 1) a.op m
 have st1 := hst.step c2
 have la1 : ∀ o s, load1 m1 ⟨A3, o, s⟩ = (qe a)[o]? := fun o s => (st1.get 2 rfl).2.2.load1 o s
 have ha1 := ha.sees (hst.sees.self.ext c2)
 have hil : qL a.ix = some (.int .i64 (a.ixs.length : Int)) := ha.ix.len
 simp only [qe] at la la1
 cases hp : pP a.op with
 | false =>
  rw [hp] at c1 H1 H2
  have hb : plB false cells k a = decide (a.base = 0 ∧ a.size = 0 ∧ a.ixs.length = 0) := rfl
  rw [hb] at H1 H2
  obtain ⟨n, hn⟩ := qb8 (a.ixs.length)
  rw [← hn] at hil H1 H2
  by_cases h1 : a.base = 0
  ·have d1 : decide (a.base = 0) = true := decide_eq_true h1
   by_cases h2 : a.size = 0
   ·have d2 : decide (a.size = 0) = true := decide_eq_true h2
    by_cases h4 : n = 0
    ·have e4 : ((0 : Int) < (n : Int)) = False := eq_false (by omega)
     have e4' : (0 < n) = False := eq_false (by omega)
     simp [la, la1, t3, t4, t5, c1, d1, d2, hil, e4, e4']
     exact H2 (decide_eq_true ⟨h1, h2, h4⟩) _ _ ⟨by simp [t3], by simp [t4], by simp [t5]⟩ c2
    ·have e4 : ((0 : Int) < (n : Int)) = True := eq_true (by omega)
     have e4' : (0 < n) = True := eq_true (by omega)
     simp [la, la1, t3, t4, t5, c1, d1, d2, hil, e4, e4']
     exact H1 (decide_eq_false fun h => h4 h.2.2) _ _ (by simp) c2
   ·have d2 : decide (a.size = 0) = false := decide_eq_false h2
    simp [la, la1, t3, t4, t5, c1, d1, d2]
    exact H1 (decide_eq_false fun h => h2 h.2.1) _ _ (by simp) c2
  ·have d1 : decide (a.base = 0) = false := decide_eq_false h1
   simp [la, la1, t3, t4, t5, c1, d1]
   exact H1 (decide_eq_false fun h => h1 h.1) _ _ (by simp) c2
 | true =>
  rw [hp] at c1 H1 H2
  have hb : plB true cells k a = (decide (0 ≤ a.size ∧ a.size ≤ 1024) && decide (a.size.toNat &&& (a.size.toNat - 1) = 0) && decide (0 ≤ a.base ∧ a.base ≤ cells - max 1 a.size) && (if a.size = 0 then decide (a.ixs.length = 0) else qD k a.ixs)) := rfl
  by_cases h3 : a.size = 0
  ·have d3 : decide (a.size = 0) = true := decide_eq_true h3
   have hb' : plB true cells k a = (decide (0 ≤ a.base ∧ a.base ≤ cells - 1) && (if a.size = 0 then decide (a.ixs.length = 0) else qD k a.ixs)) := by
    rw [hb, decide_eq_true (show 0 ≤ a.size ∧ a.size ≤ 1024 by omega), show max 1 a.size = 1 by omega, show a.size.toNat = 0 by omega]; simp
   rw [hb'] at H1 H2
   simp [la, la1, t3, t4, t5, c1, d3, -Qb]
   exact rb2 st1 ⟨by simp [t3], by simp [t4], by simp [t5]⟩ hk ha1 hc0 hc1 (n7 := 1) (by omega) (fun h => absurd h3 h) (by simp) (fun h t' m' x e => H1 h t' m' x (c2.trans e)) (fun h t' m' x e => H2 h t' m' x (c2.trans e))
  ·have d3 : decide (a.size = 0) = false := decide_eq_false h3
   obtain ⟨v2, m2, d1, d2, rfl⟩ := DI (N + 1) a.size m1
   have st2 := st1.step d2
   have la2 : ∀ o s, load1 m2 ⟨A3, o, s⟩ = (qe a)[o]? := fun o s => (st2.get 2 rfl).2.2.load1 o s
   have hpw : Ko a.size = (decide (0 < a.size ∧ a.size ≤ 1024) && decide (a.size.toNat &&& (a.size.toNat - 1) = 0)) := rfl
   cases hw : Ko a.size with
   | false =>
    have hb' : plB true cells k a = false := by
     rw [hb, show decide (0 ≤ a.size ∧ a.size ≤ 1024) = decide (0 < a.size ∧ a.size ≤ 1024) from decide_eq_decide.2 (by omega), ← hpw, hw]; rfl
    rw [hw] at d1
    simp [la, la1, t3, t4, t5, c1, d3, d1]
    exact H1 hb' _ _ (by simp) (c2.trans d2)
   | true =>
    have hs : 0 < a.size ∧ a.size ≤ 1024 := by
     have := hpw; rw [hw] at this
     have := this.symm
     simp only [qak, decide_eq_true_eq] at this
     exact this.1
    have hb' : plB true cells k a = (decide (0 ≤ a.base ∧ a.base ≤ cells - a.size) && (if a.size = 0 then decide (a.ixs.length = 0) else qD k a.ixs)) := by
     rw [hb, show decide (0 ≤ a.size ∧ a.size ≤ 1024) = decide (0 < a.size ∧ a.size ≤ 1024) from decide_eq_decide.2 (by omega), ← hpw, hw, Bool.true_and, show max 1 a.size = a.size by omega]
    rw [hb'] at H1 H2
    rw [hw] at d1
    simp [la, la1, t3, t4, t5, c1, d3, d1, -Qb]
    exact rb2 st2 ⟨by simp [t3], by simp [t4], by simp [t5]⟩ hk (ha1.sees (st1.sees.self.ext d2)) hc0 hc1 (n7 := a.size) (by omega) (fun _ => hs.1) (by simp) (fun h t' m' x e => H1 h t' m' x ((c2.trans d2).trans e)) (fun h t' m' x e => H2 h t' m' x ((c2.trans d2).trans e))
end
end Go.Sx
namespace Go.Sx
open Go.Dx Go.Proofs
set_option maxRecDepth 10000
section
variable {m0 m : M} {A3 A4 A5 : Nat} {a : Ac} {cells : Int} {tv av : Value} {k na : Nat} {t : Tm}
theorem rb4 (hst : St m0 m (rwS A3 A4 A5 a cells tv k av)) (hT : WR t A3 A4 A5) (hop : 1 ≤ a.op ∧ a.op ≤ 10) {x : Ex} {kn kr : K} {ke : Nat → K} {Q : Option Out → Prop}
  (H : ∀ t', Tm.get 8 t' = .bool (pE a.op) → WR t' A3 A4 A5 → Q (Jf x kn ke kr t' m)) : Q (Jm x kn ke kr t m) := by
 have la : ∀ o s, load1 m ⟨A3, o, s⟩ = (qe a)[o]? := fun o s => (hst.get 2 rfl).2.2.load1 o s
 obtain ⟨t3, t4, t5⟩ := hT
 simp only [qe] at la
 by_cases h2 : a.op = 2
 ·have d2 : decide (a.op = 2) = true := decide_eq_true h2
  have hp : pE a.op = false := by unfold pE; exact decide_eq_false (by omega)
  rw [hp] at H
  simp [la, t3, d2, -vY]
  exact H _ (by simp) ⟨by simp [t3], by simp [t4], by simp [t5]⟩
 have d2 : decide (a.op = 2) = false := decide_eq_false h2
 by_cases h7 : a.op = 7
 ·have d7 : decide (a.op = 7) = true := decide_eq_true h7
  have hp : pE a.op = false := by unfold pE; exact decide_eq_false (by omega)
  rw [hp] at H
  simp [la, t3, d2, d7, -vY]
  exact H _ (by simp) ⟨by simp [t3], by simp [t4], by simp [t5]⟩
 have d7 : decide (a.op = 7) = false := decide_eq_false h7
 by_cases h9 : a.op = 9
 ·have d9 : decide (a.op = 9) = true := decide_eq_true h9
  have hp : pE a.op = false := by unfold pE; exact decide_eq_false (by omega)
  rw [hp] at H
  simp [la, t3, d2, d7, d9, -vY]
  exact H _ (by simp) ⟨by simp [t3], by simp [t4], by simp [t5]⟩
 have d9 : decide (a.op = 9) = false := decide_eq_false h9
 have hp : pE a.op = true := by unfold pE; exact decide_eq_true (by omega)
 rw [hp] at H
 simp [la, t3, d2, d7, d9, -vY]
 exact H _ (by simp) ⟨by simp [t3], by simp [t4], by simp [t5]⟩
theorem rb5 (hst : St m0 m (rwS A3 A4 A5 a cells tv k av)) (hT : WR t A3 A4 A5) (hk : k < 1000000) (ha : AcOK m a) {e : Bool} (t8 : Tm.get 8 t = .bool e) {N : Nat} {kn kr : K} {ke : Nat → K} {Q : Option Out → Prop}
  (H1 : eB e k a.es = false → ∀ t' m', Tm.get 6 t' = .bool false → Ext m m' → Q (kr t' m'))
  (H2 : eB e k a.es = true → ∀ t' m', WR t' A3 A4 A5 → Ext m m' → Q (kn t' m')) : Q (ZW (ex Tryz.prog (N + 1)) kn ke kr t m) := by
 have la : ∀ o s, load1 m ⟨A3, o, s⟩ = (qe a)[o]? := fun o s => (hst.get 2 rfl).2.2.load1 o s
 have lt : ∀ o s, load1 m ⟨A5, o, s⟩ = [iv k, av][o]? := fun o s => (hst.get 0 rfl).2.2.load1 o s
 obtain ⟨t3, t4, t5⟩ := hT
 have hel : qL a.ev = some (.int .i64 (a.es.length : Int)) := ha.ev.len
 obtain ⟨v1, m1, c1, c2, rfl⟩ := xP k hk a.es a.ev ha.evl N m hst.sees.self.base ha.ev
 simp only [qe] at la
 cases e with
 | true =>
  have hb : eB true k a.es = qD k a.es := rfl
  rw [hb] at H1 H2
  cases hx : qD k a.es with
  | true =>
   rw [hx] at c1
   simp [la, lt, t3, t4, t5, t8, c1]
   exact H2 hx _ _ ⟨by simp [t3], by simp [t4], by simp [t5]⟩ c2
  | false =>
   rw [hx] at c1
   simp [la, lt, t3, t4, t5, t8, c1]
   exact H1 hx _ _ (by simp) c2
 | false =>
  have hb : eB false k a.es = decide (a.es.length = 0) := rfl
  rw [hb] at H1 H2
  obtain ⟨n, hn⟩ := qb8 (a.es.length)
  rw [← hn] at hel H1 H2
  by_cases h4 : n = 0
  ·have e4 : ((0 : Int) < (n : Int)) = False := eq_false (by omega)
   have e4' : (0 < n) = False := eq_false (by omega)
   simp [la, lt, t3, t4, t5, t8, hel, e4, e4']
   exact H2 (decide_eq_true h4) _ _ ⟨by simp [t3], by simp [t4], by simp [t5]⟩ (Ext.refl m)
  ·have e4 : ((0 : Int) < (n : Int)) = True := eq_true (by omega)
   have e4' : (0 < n) = True := eq_true (by omega)
   simp [la, lt, t3, t4, t5, t8, hel, e4, e4']
   exact H1 (decide_eq_false h4) _ _ (by simp) (Ext.refl m)
theorem rb6 (hst : St m0 m (rwS A3 A4 A5 a cells tv k av)) (hT : WR t A3 A4 A5) (hk : k < 1000000) (ha : AcOK m a) {N : Nat} {kn kr : K} {ke : Nat → K} {Q : Option Out → Prop}
  (H1 : eB (pF a.op) k a.fs = false → ∀ t' m', Tm.get 6 t' = .bool false → Ext m m' → Q (kr t' m'))
  (H2 : eB (pF a.op) k a.fs = true → ∀ t' m', WR t' A3 A4 A5 → Ext m m' → Q (kn t' m')) : Q (JO (ex Tryz.prog (N + 1)) kn ke kr t m) := by
 have la : ∀ o s, load1 m ⟨A3, o, s⟩ = (qe a)[o]? := fun o s => (hst.get 2 rfl).2.2.load1 o s
 have lt : ∀ o s, load1 m ⟨A5, o, s⟩ = [iv k, av][o]? := fun o s => (hst.get 0 rfl).2.2.load1 o s
 obtain ⟨t3, t4, t5⟩ := hT
 have hel : qL a.fv = some (.int .i64 (a.fs.length : Int)) := ha.fv.len
 obtain ⟨v1, m1, c1, c2, rfl⟩ := xP k hk a.fs a.fv ha.fvl N m hst.sees.self.base ha.fv
 have st1 := hst.step c2
 have la1 : ∀ o s, load1 m1 ⟨A3, o, s⟩ = (qe a)[o]? := fun o s => (st1.get 2 rfl).2.2.load1 o s
 simp only [qe] at la la1
 by_cases h6 : a.op = 6
 ·have d6 : decide (a.op = 6) = true := decide_eq_true h6
  have hb : eB (pF a.op) k a.fs = qD k a.fs := by unfold pF; rw [d6]; rfl
  rw [hb] at H1 H2
  cases hx : qD k a.fs with
  | true =>
   rw [hx] at c1
   simp [la, la1, lt, t3, t4, t5, d6, c1]
   exact H2 hx _ _ ⟨by simp [t3], by simp [t4], by simp [t5]⟩ c2
  | false =>
   rw [hx] at c1
   simp [la, la1, lt, t3, t4, t5, d6, c1]
   exact H1 hx _ _ (by simp) c2
 ·have d6 : decide (a.op = 6) = false := decide_eq_false h6
  have hb : eB (pF a.op) k a.fs = decide (a.fs.length = 0) := by unfold pF; rw [d6]; rfl
  rw [hb] at H1 H2
  obtain ⟨n, hn⟩ := qb8 (a.fs.length)
  rw [← hn] at hel H1 H2
  by_cases h4 : n = 0
  ·have e4 : ((0 : Int) < (n : Int)) = False := eq_false (by omega)
   have e4' : (0 < n) = False := eq_false (by omega)
   simp [la, lt, t3, t4, t5, d6, hel, e4, e4']
   exact H2 (decide_eq_true h4) _ _ ⟨by simp [t3], by simp [t4], by simp [t5]⟩ (Ext.refl m)
  ·have e4 : ((0 : Int) < (n : Int)) = True := eq_true (by omega)
   have e4' : (0 < n) = True := eq_true (by omega)
   simp [la, lt, t3, t4, t5, d6, hel, e4, e4']
   exact H1 (decide_eq_false h4) _ _ (by simp) (Ext.refl m)
theorem rb7 (hst : St m0 m (rwS A3 A4 A5 a cells tv k av)) (hT : WR t A3 A4 A5) (hav : qL av = some (.int .i64 (na : Int))) {x : Ex} {kn kr : K} {ke : Nat → K} {Q : Option Out → Prop}
  (H : ∀ t', Tm.get 6 t' = .bool (toB (pT a.op) na a.to) → Q (kr t' m)) : Q (JR x kn ke kr t m) := by
 have la : ∀ o s, load1 m ⟨A3, o, s⟩ = (qe a)[o]? := fun o s => (hst.get 2 rfl).2.2.load1 o s
 have lt : ∀ o s, load1 m ⟨A5, o, s⟩ = [iv k, av][o]? := fun o s => (hst.get 0 rfl).2.2.load1 o s
 obtain ⟨t3, t4, t5⟩ := hT
 simp only [qe] at la
 by_cases h9 : a.op = 9
 ·have d9 : decide (a.op = 9) = true := decide_eq_true h9
  have hb : toB (pT a.op) na a.to = decide (0 ≤ a.to ∧ a.to ≤ na) := by unfold pT; rw [decide_eq_true (.inl h9)]; rfl
  rw [hb] at H
  by_cases h1 : 0 ≤ a.to
  ·have e1 : ((0 : Int) ≤ a.to) = True := eq_true h1
   by_cases h2 : a.to ≤ na
   ·have e2 : (a.to ≤ (na : Int)) = True := eq_true h2
    rw [decide_eq_true ⟨h1, h2⟩] at H
    simp [la, lt, t3, t4, t5, d9, e1, e2, hav]
    exact H _ (by simp)
   ·have e2 : (a.to ≤ (na : Int)) = False := eq_false h2
    rw [decide_eq_false (fun h => h2 h.2)] at H
    simp [la, lt, t3, t4, t5, d9, e1, e2, hav]
    exact H _ (by simp)
  ·have e1 : ((0 : Int) ≤ a.to) = False := eq_false h1
   rw [decide_eq_false (fun h => h1 h.1)] at H
   simp [la, lt, t3, t4, t5, d9, e1, hav]
   exact H _ (by simp)
 have d9 : decide (a.op = 9) = false := decide_eq_false h9
 by_cases h10 : a.op = 10
 ·have d10 : decide (a.op = 10) = true := decide_eq_true h10
  have hb : toB (pT a.op) na a.to = decide (0 ≤ a.to ∧ a.to ≤ na) := by unfold pT; rw [decide_eq_true (.inr h10)]; rfl
  rw [hb] at H
  by_cases h1 : 0 ≤ a.to
  ·have e1 : ((0 : Int) ≤ a.to) = True := eq_true h1
   by_cases h2 : a.to ≤ na
   ·have e2 : (a.to ≤ (na : Int)) = True := eq_true h2
    rw [decide_eq_true ⟨h1, h2⟩] at H
    simp [la, lt, t3, t4, t5, d9, d10, e1, e2, hav]
    exact H _ (by simp)
   ·have e2 : (a.to ≤ (na : Int)) = False := eq_false h2
    rw [decide_eq_false (fun h => h2 h.2)] at H
    simp [la, lt, t3, t4, t5, d9, d10, e1, e2, hav]
    exact H _ (by simp)
  ·have e1 : ((0 : Int) ≤ a.to) = False := eq_false h1
   rw [decide_eq_false (fun h => h1 h.1)] at H
   simp [la, lt, t3, t4, t5, d9, d10, e1, hav]
   exact H _ (by simp)
 have d10 : decide (a.op = 10) = false := decide_eq_false h10
 have hb : toB (pT a.op) na a.to = decide (a.to = 0) := by unfold pT; rw [decide_eq_false (by omega)]; rfl
 rw [hb] at H
 simp [la, lt, t3, t4, t5, d9, d10]
 exact H _ (by simp)
end
theorem eB_es (e f : Bool) (k : Nat) (a : Ac) : (eB e k a.es && eB f k a.fs) = esB e f k a := by
 have hx : ∀ es : List Nd, qD k es = true → 0 < es.length := fun es h => (wR h).1
 have h0 : ∀ es : List Nd, decide (es.length = 0) = !decide (0 < es.length) := fun es => by
  by_cases h : 0 < es.length
  ·rw [decide_eq_true h, decide_eq_false (by omega)]; rfl
  ·rw [decide_eq_false h, decide_eq_true (by omega)]; rfl
 have hh : ∀ (e : Bool) (es : List Nd), eB e k es = (decide (e = decide (0 < es.length)) && (!e || qD k es)) := fun e es => by
  cases e with
  | true =>
   show qD k es = _
   cases hc : qD k es with
   | true => rw [decide_eq_true (hx es hc)]; rfl
   | false => simp
  | false =>
   show decide (es.length = 0) = _
   rw [h0]
   cases decide (0 < es.length) <;> rfl
 rw [hh, hh]
 unfold esB
 cases decide (e = decide (0 < a.es.length)) <;> cases decide (f = decide (0 < a.fs.length)) <;> cases (!e || qD k a.es) <;> cases (!f || qD k a.fs) <;> rfl
theorem BX (k : Nat) (hk : k < 1000000) (cells : Int) (tv : Value) (hc0 : 0 ≤ cells) (hc1 : cells ≤ 4096) (av : Value) (na : Nat) (hav : qL av = some (.int .i64 (na : Int))) (a : Ac) (N : Nat) (m : M) (hm : m.base ≤ m.n) (ha : AcOK m a) :
  CallV (ex Tryz.prog (N + 3)) 37 [.agg ⟨qe a⟩, .agg ⟨[iv cells, tv]⟩, .agg ⟨[iv k, av]⟩] m (.bool (vl cells k na a)) := by
 refine qp dc1_ok (by simp) ?_
 have st0 : St m m [] := St.nil hm (Ext.refl m)
 have st1 := st0.row (qe a)
 obtain ⟨m1, hm1⟩ := qb8 (Dx.newRow m (qe a))
 rw [← hm1] at st1
 have st2 := st1.row [iv cells, tv]
 obtain ⟨m2, hm2⟩ := qb8 (Dx.newRow m1 [iv cells, tv])
 rw [← hm2] at st2
 have st3 := st2.row [iv k, av]
 obtain ⟨m3, hm3⟩ := qb8 (Dx.newRow m2 [iv k, av])
 rw [← hm3] at st3
 have la : ∀ o s, load1 m3 ⟨m.n, o, s⟩ = (qe a)[o]? := fun o s => (st3.get 2 rfl).2.2.load1 o s
 simp only [qe] at la
 have hA : vl cells k na a = (decide (1 ≤ a.op ∧ a.op ≤ 10) && (ky a.op a.mode && (zT (pD a.op) k a.dst && (plB (pP a.op) cells k a && (esB (pE a.op) (pF a.op) k a && toB (pT a.op) na a.to))))) := rfl
 rw [hA]
 by_cases h1 : a.op < 1
 ·have e1 : (a.op < 1) = True := eq_true h1
  rw [decide_eq_false (show ¬ (1 ≤ a.op ∧ a.op ≤ 10) by omega)]
  simp [← hm1, ← hm2, ← hm3, la, e1]
  exact qh st3.ext (by simp)
 have e1 : (a.op < 1) = False := eq_false h1
 by_cases h2 : 10 < a.op
 ·have e2 : (10 < a.op) = True := eq_true h2
  rw [decide_eq_false (show ¬ (1 ≤ a.op ∧ a.op ≤ 10) by omega)]
  simp [← hm1, ← hm2, ← hm3, la, e1, e2]
  exact qh st3.ext (by simp)
 have e2 : (10 < a.op) = False := eq_false h2
 rw [decide_eq_true (show (1 ≤ a.op ∧ a.op ≤ 10) by omega), Bool.true_and]
 obtain ⟨v4, m4, c1, c2, rfl⟩ := May_c (N + 1) a.op a.mode m3
 have st4 := st3.step c2
 cases hmay : ky a.op a.mode with
 | false =>
  rw [hmay] at c1
  simp [← hm1, ← hm2, ← hm3, la, e1, e2, c1]
  exact qh st4.ext (by simp)
 | true =>
 rw [hmay] at c1
 rw [Bool.true_and]
 simp [← hm1, ← hm2, ← hm3, la, e1, e2, c1, -Gb]
 have st4' : St m m4 (rwS m.n m1.n m2.n a cells tv k av) := st4
 refine rb1 (A3 := m.n) (A4 := m1.n) (A5 := m2.n) st4' ⟨by simp, by simp, by simp⟩ (fun hd t' m' h6 E => ?_) (fun hd t' m5 T1 E5 => ?_)
 ·rw [hd]; exact qh (st4'.step E).ext (by simp [h6])
 have st5 := st4'.step E5
 rw [hd, Bool.true_and]
 simp [-Vk]
 refine rb3 st5 T1 hk (ha.sees st5.sees) hc0 hc1 (fun hd t' m' h6 E => ?_) (fun hd t' m6 T2 E6 => ?_)
 ·rw [hd]; exact qh (st5.step E).ext (by simp [h6])
 have st6 := st5.step E6
 rw [hd, Bool.true_and]
 refine rb4 st6 T2 (by omega) (fun t' t8 T3 => ?_)
 rw [← eB_es]
 simp [-VU]
 refine rb5 st6 T3 hk (ha.sees st6.sees) t8 (fun hd t' m' h6 E => ?_) (fun hd t' m7 T4 E7 => ?_)
 ·rw [hd]; exact qh (st6.step E).ext (by simp [h6])
 have st7 := st6.step E7
 rw [hd, Bool.true_and]
 simp [-Vd]
 refine rb6 st7 T4 hk (ha.sees st7.sees) (fun hd t' m' h6 E => ?_) (fun hd t' m8 T5 E8 => ?_)
 ·rw [hd]; exact qh (st7.step E).ext (by simp [h6])
 have st8 := st7.step E8
 rw [hd, Bool.true_and]
 exact rb7 st8 T5 hav (fun t' h6 => qh st8.ext (by simp [h6]))
end Go.Sx
namespace Go.Sx
open Go.Dx Go.Proofs
set_option maxRecDepth 10000
theorem Jx (p : Pg) (N : Nat) (m : M) (hm : m.base ≤ m.n) (hp : PgOK m p) : CallV (ex Tryz.prog (N + 4)) 19 [pgV p] m (.bool (pgB p)) := by
 refine qp db0_ok (by simp) ?_
 obtain ⟨cells, tv, ths⟩ := p
 have st1 := (St.nil hm (Ext.refl m)).row [iv cells, tv]
 obtain ⟨m1, hm1⟩ := qb8 (Dx.newRow m [iv cells, tv])
 rw [← hm1] at st1
 have lp : ∀ o s, load1 m1 ⟨m.n, o, s⟩ = [iv cells, tv][o]? := fun o s => (st1.get 0 rfl).2.2.load1 o s
 obtain ⟨n, hn⟩ := qb8 (ths.length)
 have hll : qL tv = some (.int .i64 (n : Int)) := by rw [hn]; exact hp.tv.len
 have hB : pgB ⟨cells, tv, ths⟩ = (decide (0 ≤ cells ∧ cells ≤ 4096) && (decide (n ≤ 64) && ths.all (thB cells))) := by rw [hn]; rfl
 rw [hB]
 unfold pgV
 by_cases h1 : cells < 0
 ·have e1 : (cells < 0) = True := eq_true h1
  rw [decide_eq_false (show ¬ (0 ≤ cells ∧ cells ≤ 4096) by omega)]
  simp [← hm1, lp, e1]
  exact qh st1.ext (by simp)
 have e1 : (cells < 0) = False := eq_false h1
 by_cases h2 : 4096 < cells
 ·have e2 : (4096 < cells) = True := eq_true h2
  rw [decide_eq_false (show ¬ (0 ≤ cells ∧ cells ≤ 4096) by omega)]
  simp [← hm1, lp, e1, e2]
  exact qh st1.ext (by simp)
 have e2 : (4096 < cells) = False := eq_false h2
 rw [decide_eq_true (show (0 ≤ cells ∧ cells ≤ 4096) by omega), Bool.true_and]
 by_cases h3 : 64 < n
 ·have e3 : ((64 : Int) < (n : Int)) = True := eq_true (by omega)
  have e3' : (64 < n) = True := eq_true (by omega)
  rw [decide_eq_false (show ¬ (n ≤ 64) by omega)]
  simp [← hm1, lp, e1, e2, hll, e3, e3']
  exact qh st1.ext (by simp)
 have e3 : ((64 : Int) < (n : Int)) = False := eq_false (by omega)
 have e3' : (64 < n) = False := eq_false (by omega)
 rw [decide_eq_true (show (n ≤ 64) by omega), Bool.true_and]
 simp [← hm1, lp, e1, e2, hll, e3, e3']
 refine qq (c := BJ) rfl (Ret m _) (fun i t m' => St m m' [(m.n, [iv cells, tv])] ∧ (∀ (j : Nat) x, j < i → ths[j]? = some x → thB cells x = true) ∧ Tm.get 1 t = .pointer (some ⟨m.n, 0, none⟩) ∧ Tm.get 3 t = iv i) n (by omega)
  ⟨st1, fun j nd hj => absurd hj (qb7 _), by simp, by simp⟩ (fun i t m' k' hi hI hk' => ?_)
 obtain ⟨st, hok, t1, t3⟩ := hI
 have lq : ∀ o s, load1 m' ⟨m.n, o, s⟩ = [iv cells, tv][o]? := fun o s => (st.get 0 rfl).2.2.load1 o s
 by_cases hil : i < n
 ·have hd := dlt hil
  have hd' : (i < n) = True := eq_true hil
  obtain ⟨th, hth⟩ : ∃ r, ths[i]? = some r := ⟨_, qae (by omega)⟩
  have ⟨a1, a2, _⟩ := hp.tv.at hth
  have a2' := a2 m' st.sees
  have hthok := hp.ths th (qaf hth)
  have ni := wj (i := i) (by omega)
  obtain ⟨loc, av, acts⟩ := th
  simp only [qE] at a2'
  have st1 := st.row [.int .i64 0, .slice none 0 0]
  obtain ⟨m1, hm1⟩ := qb8 (Dx.newRow m' [.int .i64 0, .slice none 0 0])
  rw [← hm1] at st1
  have okav : okC av = true := hthok.av.okV
  obtain ⟨m2, s1, s2, s3, s4⟩ := st1.fill 0 rfl (n := 2) (l' := [iv loc, av]) rfl rfl (by simp [okC]; exact okav)
  have s2' : St m m2 [(m'.n, [iv loc, av]), (m.n, [iv cells, tv])] := s2
  have l2 : ∀ o s, load1 m2 ⟨m'.n, o, s⟩ = [iv loc, av][o]? := fun o s => (s2'.get 0 rfl).2.2.load1 o s
  obtain ⟨na, hna⟩ := qb8 (acts.length)
  have hal : qL av = some (.int .i64 (na : Int)) := by rw [hna]; exact hthok.av.len
  have hnal : na ≤ 9223372036854775807 := by rw [hna]; exact hthok.len
  have hT : thB cells ⟨loc, av, acts⟩ = (decide (0 ≤ loc ∧ loc ≤ 24) && (decide (na ≤ 65536) && acts.all (vl cells loc.toNat na))) := by rw [hna]; rfl
  have bad : thB cells ⟨loc, av, acts⟩ = false → ths.all (thB cells) = false := fun h => xE hth h
  by_cases h4 : loc < 0
  ·have e4 : (loc < 0) = True := eq_true h4
   rw [bad (by rw [hT, decide_eq_false (show ¬ (0 ≤ loc ∧ loc ≤ 24) by omega)]; rfl)]
   simp [t1, t3, lq, hll, hd, hd', a1, a2', qf, ← hm1, s1, l2, e4]
   exact qh s2'.ext (by simp)
  have e4 : (loc < 0) = False := eq_false h4
  by_cases h5 : 24 < loc
  ·have e5 : (24 < loc) = True := eq_true h5
   rw [bad (by rw [hT, decide_eq_false (show ¬ (0 ≤ loc ∧ loc ≤ 24) by omega)]; rfl)]
   simp [t1, t3, lq, hll, hd, hd', a1, a2', qf, ← hm1, s1, l2, e4, e5]
   exact qh s2'.ext (by simp)
  have e5 : (24 < loc) = False := eq_false h5
  rw [decide_eq_true (show (0 ≤ loc ∧ loc ≤ 24) by omega), Bool.true_and] at hT
  by_cases h6 : 65536 < na
  ·have e6 : ((65536 : Int) < (na : Int)) = True := eq_true (by omega)
   have e6' : (65536 < na) = True := eq_true (by omega)
   rw [bad (by rw [hT, decide_eq_false (show ¬ (na ≤ 65536) by omega)]; rfl)]
   simp [t1, t3, lq, hll, hd, hd', a1, a2', qf, ← hm1, s1, l2, e4, e5, hal, e6, e6']
   exact qh s2'.ext (by simp)
  have e6 : ((65536 : Int) < (na : Int)) = False := eq_false (by omega)
  have e6' : (65536 < na) = False := eq_false (by omega)
  rw [decide_eq_true (show (na ≤ 65536) by omega), Bool.true_and] at hT
  obtain ⟨q, rfl⟩ : ∃ q : Nat, loc = q := ⟨loc.toNat, by omega⟩
  rw [qat] at hT
  obtain ⟨z, hz⟩ : ∃ z : Int, z = (q : Int) := ⟨_, rfl⟩
  rw [← hz] at a2' s1 s2' l2 e4 e5
  simp [t1, t3, lq, hll, hd, hd', a1, a2', qf, ← hm1, s1, l2, e4, e5, hal, e6, e6']
  refine qq (c := Gr) rfl (Ret m _) (fun j t m3 => St m m3 [(m'.n, [iv q, av]), (m.n, [iv cells, tv])] ∧ (∀ (j' : Nat) x, j' < j → acts[j']? = some x → vl cells q na x = true) ∧ Tm.get 1 t = .pointer (some ⟨m.n, 0, none⟩) ∧ Tm.get 4 t = .pointer (some ⟨m'.n, 0, none⟩) ∧ Tm.get 3 t = iv i ∧ Tm.get 5 t = iv j) na (by omega)
   ⟨by rw [hz] at s2'; exact s2', fun j nd hj => absurd hj (qb7 _), by simp [t1], by simp, by simp [t3], by simp⟩ (fun j t m3 k3 hj hJ hk3 => ?_)
  obtain ⟨st3, hok3, t1, t4, t3, t5⟩ := hJ
  have l3t : ∀ o s, load1 m3 ⟨m'.n, o, s⟩ = [iv q, av][o]? := fun o s => (st3.get 0 rfl).2.2.load1 o s
  by_cases hjl : j < na
  ·have hd := dlt hjl
   have hd' : (j < na) = True := eq_true hjl
   obtain ⟨a, hac⟩ : ∃ r, acts[j]? = some r := ⟨_, qae (by omega)⟩
   have ⟨b1, b2, _⟩ := hthok.av.at hac
   have b2' := b2 m3 st3.sees
   have haok := hthok.acts a (qaf hac)
   have nj := wj (i := j) (by omega)
   have l5t : loads m3 ⟨m'.n, 0, none⟩ 2 = some [iv q, av] := (st3.get 0 rfl).2.2.loads (n := 2) (by simp)
   have l5p : loads m3 ⟨m.n, 0, none⟩ 2 = some [iv cells, tv] := (st3.get 1 rfl).2.2.loads (n := 2) (by simp)
   obtain ⟨v6, m6', c1, c2, c3, rfl⟩ := xJ (BX q (by omega) cells tv (by omega) (by omega) av na hal a N (qn m3) (KB st3.sees).base (haok.sees (KB st3.sees)))
   obtain ⟨m6, hm6⟩ := qb8 (behind m3 m6')
   rw [← hm6] at c3
   have st6 := st3.step c3
   cases hab : vl cells q na a with
   | true =>
    rw [hab] at c1
    simp [t1, t4, t3, t5, l3t, hal, hd, hd', b1, b2', qf, l5t, l5p, c1, c2, ← hm6, nj]
    exact hk3 hjl _ _ ⟨st6, fun j' x hj' hx => by
     by_cases hjj : j' = j
     ·subst hjj; rw [hac] at hx; cases hx; exact hab
     ·exact hok3 j' x (by omega) hx, by simp [t1], by simp [t4], by simp [t3], by simp⟩
   | false =>
    rw [hab] at c1
    rw [bad (by rw [hT]; exact xE hac hab)]
    simp [t1, t4, t3, t5, l3t, hal, hd, hd', b1, b2', qf, l5t, l5p, c1, c2, ← hm6]
    exact qh st6.ext (by simp)
  ·obtain rfl : j = na := by omega
   have hd : ((j : Int) < (j : Int)) = False := eq_false (by omega)
   have hth1 : thB cells ⟨(q : Int), av, acts⟩ = true := by rw [hT]; exact vo fun i' x hi' hx => hok3 i' x (by omega) hx
   simp [t1, t4, t3, t5, l3t, hal, hd, ni]
   exact hk' hil _ _ ⟨st3.sub (by simp) (by have := st3.nd; simp at this ⊢), fun j' x hj' hx => by
    by_cases hjj : j' = i
    ·subst hjj; rw [hth] at hx; cases hx; exact hth1
    ·exact hok j' x (by omega) hx, by simp [t1], by simp⟩
 ·obtain rfl : i = n := by omega
  have hd : ((i : Int) < (i : Int)) = False := eq_false (by omega)
  rw [vo (f := thB cells) (l := ths) fun i' x hi' hx => hok i' x (by omega) hx]
  simp [t1, t3, lq, hll, hd]
  exact qh st.ext (by simp)
end Go.Sx
namespace Go.Sx
open Go.Dx Go.Proofs
set_option maxRecDepth 10000
abbrev Z11 : List Value := [.int .i64 0, .int .i64 0, .int .i64 0, .int .i64 0, .slice none 0 0, .slice none 0 0, .slice none 0 0, .int .i64 0, .int .i64 0, .int .i64 0, .int .i64 0]
structure ThEq (a b : Th) : Prop where
 loc : a.loc = b.loc
 len : a.acts.length = b.acts.length
 acts : ∀ (j : Nat) x, b.acts[j]? = some x → ∃ y, a.acts[j]? = some y ∧ AcEq y x
structure PgEq (p q : Pg) : Prop where
 cells : p.cells = q.cells
 len : p.ths.length = q.ths.length
 ths : ∀ (j : Nat) x, q.ths[j]? = some x → ∃ y, p.ths[j]? = some y ∧ ThEq y x
end Go.Sx
namespace Go.Sx
open Go.Dx Go.Proofs
set_option maxRecDepth 10000
theorem LEq.theq {a b : Th} (hl : a.loc = b.loc) (h : LEq a.acts b.acts) : ThEq a b := ⟨hl, h.len, fun j x hx => by
 obtain ⟨y, hy⟩ := kL h.len.symm hx
 exact ⟨y, hy, h.get j y x hy hx⟩⟩
theorem OpQ.again {m m' m2 : M} {p q r : Pg} {n : Nat} (hp : pgB p = true) (h : OpQ m p n q m') : Stop q 0 ∧ (PgK q 1 r → PgEq q r) := by
 have key : ∀ u ∈ q.ths, LEq (rdA u.acts) u.acts := fun u hu => by
  obtain ⟨w, hw, e1, e2⟩ := h.k.mem hu
  have hf := h.stop.fix hp w hw
  have : LEq (rdA u.acts) (rdA (rdN (n + 1) w.acts)) := bc e2
  rw [hf] at this
  exact this.trans e2.symm
 refine ⟨fun u hu => (LEq.al (LEq.refl _) (key u hu)).2 (AlL.refl _), fun k => ⟨k.cells.symm, k.len.symm, fun j x hx => ?_⟩⟩
 obtain ⟨y, hy⟩ := kL k.len hx
 refine ⟨y, hy, LEq.theq (k.ths j x y hx hy).1.symm ?_⟩
 have := (k.ths j x y hx hy).2
 exact (this.trans (key y (qaf hy))).symm
end Go.Sx
namespace Go.Sx
open Go.Dx Go.Proofs
set_option maxRecDepth 10000
theorem vH (ls rs : List Nd) (a b : Value) (hl : ls.length ≤ 9223372036854775807) (hr : rs.length ≤ 9223372036854775807) (N : Nat) (m : M) (hm : m.base ≤ m.n) (ha : Rd m a 4 qg ls) (hb : Rd m b 4 qg rs) : CallV (ex Tryz.prog (N + 1)) 36 [a, b] m (.bool (eqB ls rs)) := by
 refine qp dc0_ok (by simp) ?_
 obtain ⟨n, hn⟩ := qb8 (ls.length)
 obtain ⟨n', hn'⟩ := qb8 (rs.length)
 have la : qL a = some (.int .i64 (n : Int)) := by rw [hn]; exact ha.len
 have lb : qL b = some (.int .i64 (n' : Int)) := by rw [hn']; exact hb.len
 have S := Sees.refl hm
 by_cases hne : n = n'
 ·subst hne
  simp [la, lb]
  refine qq (c := YV) rfl (Ret m _) (fun i t m' => m' = m ∧ Tm.get 0 t = a ∧ Tm.get 1 t = b ∧ Tm.get 5 t = iv i ∧ ∀ j, j < i → ls[j]? = rs[j]?) n (by omega)
   ⟨rfl, by simp, by simp, by simp, fun j hj => absurd hj (qb7 _)⟩ (fun i t m' k hi hI hk => ?_)
  obtain ⟨rfl, t0, t1, t5, hpre⟩ := hI
  by_cases hil : i < n
  ·have hd := dlt hil
   have hd' : (i < n) = True := eq_true hil
   have ni := wj (i := i) (by omega)
   obtain ⟨u, hu⟩ : ∃ r, ls[i]? = some r := ⟨_, qae (by omega)⟩
   obtain ⟨w, hw⟩ : ∃ r, rs[i]? = some r := ⟨_, qae (by omega)⟩
   obtain ⟨a1, a2, _⟩ := ha.at hu
   obtain ⟨b1, b2, _⟩ := hb.at hw
   have a2' := a2 m' S
   have b2' := b2 m' S
   have hc := GW u w
   by_cases he : u = w
   ·rw [bH he] at hc
    simp [t0, t1, t5, la, hd, hd', a1, a2', b1, b2', qf, hc, ni]
    refine hk hil _ _ ⟨rfl, by simp [t0], by simp [t1], by simp, fun j hj => ?_⟩
    by_cases hji : j < i
    ·exact hpre j hji
    ·obtain rfl : j = i := by omega
     rw [hu, hw, he]
   ·rw [yB he] at hc
    have : ls ≠ rs := by rintro rfl; rw [hu] at hw; cases hw; exact he rfl
    simp [t0, t1, t5, la, hd, hd', a1, a2', b1, b2', qf, hc]
    exact qh (Ext.refl m') (by simp [yB this])
  ·obtain rfl : i = n := by omega
   have : ls = rs := List.ext_getElem? fun j => by
    by_cases hj : j < i
    ·exact hpre j hj
    ·rw [qb3 (by omega), qb3 (by omega)]
   have hd : ((i : Int) < (i : Int)) = False := eq_false (by omega)
   simp [t0, t1, t5, la, hd]
   exact qh (Ext.refl m') (by simp [bH this])
 ·have dn : ((n : Int) = (n' : Int)) = False := eq_false (by omega)
  have : ls ≠ rs := by rintro rfl; omega
  simp [la, lb, dn, hne]
  exact qh (Ext.refl m) (by simp [yB this])
theorem YJ {a b : Ac} : AcEq a b ↔ a.op = b.op ∧ a.dst = b.dst ∧ a.base = b.base ∧ a.size = b.size ∧ a.mode = b.mode ∧ a.to = b.to ∧ a.line = b.line ∧ a.col = b.col ∧ a.ixs = b.ixs ∧ a.es = b.es ∧ a.fs = b.fs := by
 constructor
 ·rintro ⟨x, y, z, rfl⟩; exact ⟨rfl, rfl, rfl, rfl, rfl, rfl, rfl, rfl, rfl, rfl, rfl⟩
 ·obtain ⟨a1, a2, a3, a4, a5, a6, a7, a8, a9, a10, a11, a12, a13, a14⟩ := a
  obtain ⟨b1, b2, b3, b4, b5, b6, b7, b8, b9, b10, b11, b12, b13, b14⟩ := b
  rintro ⟨h1, h2, h3, h4, h5, h6, h7, h8, h9, h10, h11⟩
  simp only at h1 h2 h3 h4 h5 h6 h7 h8 h9 h10 h11
  subst h1 h2 h3 h4 h5 h6 h7 h8 h9 h10 h11
  exact ⟨a5, a6, a7, rfl⟩
set_option maxHeartbeats 4000000 in
theorem WI (p q : Pg) (N : Nat) (m : M) (hm : m.base ≤ m.n) (hp : PgOK m p) (hq : PgOK m q) : CallV (ex Tryz.prog (N + 2)) 17 [pgV p, pgV q] m (.bool (deB (PgEq p q))) := by
 refine qp da8_ok (by simp) ?_
 obtain ⟨cells, tv, ths⟩ := p
 obtain ⟨cells', tv', ths'⟩ := q
 have st1 := (St.nil hm (Ext.refl m)).row [iv cells, tv]
 obtain ⟨m1, hm1⟩ := qb8 (Dx.newRow m [iv cells, tv])
 rw [← hm1] at st1
 have st2 := st1.row [iv cells', tv']
 obtain ⟨m2, hm2⟩ := qb8 (Dx.newRow m1 [iv cells', tv'])
 rw [← hm2] at st2
 have l1 : ∀ o s, load1 m2 ⟨m.n, o, s⟩ = [iv cells, tv][o]? := fun o s => (st2.get 1 rfl).2.2.load1 o s
 have l2 : ∀ o s, load1 m2 ⟨m1.n, o, s⟩ = [iv cells', tv'][o]? := fun o s => (st2.get 0 rfl).2.2.load1 o s
 obtain ⟨n, hn⟩ := qb8 (ths.length)
 obtain ⟨n', hn'⟩ := qb8 (ths'.length)
 have h1l : qL tv = some (.int .i64 (n : Int)) := by rw [hn]; exact hp.tv.len
 have h2l : qL tv' = some (.int .i64 (n' : Int)) := by rw [hn']; exact hq.tv.len
 have hnl : n ≤ 9223372036854775807 := by rw [hn]; exact hp.len
 unfold pgV
 cases hc : decide (cells = cells') with
 | false =>
  simp [← hm1, ← hm2, l1, l2, h1l, h2l, hc]
  exact qh st2.ext (by simp; exact vJ fun e => absurd e.cells (of_decide_eq_false hc))
 | true =>
 by_cases hln : n = n'
 case neg =>
  have dn : ((n : Int) = (n' : Int)) = False := eq_false (by omega)
  simp [← hm1, ← hm2, l1, l2, h1l, h2l, hc, dn, hln]
  exact qh st2.ext (by simp; exact vJ fun e => by have := e.len; simp only at this; omega)
 subst hln
 simp [← hm1, ← hm2, l1, l2, h1l, h2l, hc]
 refine qq (c := Bo) rfl (Ret m _) (fun i t m' => St m m' [(m1.n, [iv cells', tv']), (m.n, [iv cells, tv])] ∧ Tm.get 2 t = .pointer (some ⟨m.n, 0, none⟩) ∧ Tm.get 3 t = .pointer (some ⟨m1.n, 0, none⟩) ∧ Tm.get 5 t = iv i ∧ ∀ j, j < i → ∀ x, ths'[j]? = some x → ∃ y, ths[j]? = some y ∧ ThEq y x) n hnl
  ⟨st2, by simp, by simp, by simp, fun j hj => absurd hj (qb7 _)⟩ (fun i t m' k' hi hI hk' => ?_)
 obtain ⟨st, t2, t3, t5, hpre⟩ := hI
 have la : ∀ o s, load1 m' ⟨m.n, o, s⟩ = [iv cells, tv][o]? := fun o s => (st.get 1 rfl).2.2.load1 o s
 have lb : ∀ o s, load1 m' ⟨m1.n, o, s⟩ = [iv cells', tv'][o]? := fun o s => (st.get 0 rfl).2.2.load1 o s
 by_cases hil : i < n
 ·have hd := dlt hil
  have hd' : (i < n) = True := eq_true hil
  obtain ⟨u, hu⟩ : ∃ r, ths'[i]? = some r := ⟨_, qae (by omega)⟩
  obtain ⟨t', ht'⟩ : ∃ r, ths[i]? = some r := ⟨_, qae (by omega)⟩
  have hno : ¬ ThEq t' u → ¬ PgEq ⟨cells, tv, ths⟩ ⟨cells', tv', ths'⟩ := fun hne e => by
   obtain ⟨y, hy, h⟩ := e.ths i u hu
   rw [ht'] at hy; cases hy; exact hne h
  obtain ⟨loc, av, acts⟩ := t'
  obtain ⟨loc', av', acts'⟩ := u
  have ⟨x1, x2, _⟩ := hp.tv.at ht'
  have ⟨y1, y2, _⟩ := hq.tv.at hu
  have x2' := x2 m' st.sees
  have hpt := hp.ths _ (qaf ht')
  have hqt := hq.ths _ (qaf hu)
  have ni := wj (i := i) (by omega)
  have ok1 : okC av = true := hpt.av.okV
  have ok2 : okC av' = true := hqt.av.okV
  have s3 := st.row [.int .i64 0, .slice none 0 0]
  obtain ⟨m3, hm3⟩ := qb8 (Dx.newRow m' [.int .i64 0, .slice none 0 0])
  rw [← hm3] at s3
  obtain ⟨m4, f1, f2, f3, f4⟩ := s3.fill 0 rfl (n := 2) (l' := [iv loc, av]) rfl rfl (by simp [okC]; exact ok1)
  have s4 : St m m4 [(m'.n, [iv loc, av]), (m1.n, [iv cells', tv']), (m.n, [iv cells, tv])] := f2
  have lb4 : ∀ o s, load1 m4 ⟨m1.n, o, s⟩ = [iv cells', tv'][o]? := fun o s => (s4.get 1 rfl).2.2.load1 o s
  have y2' := y2 m4 s4.sees
  have s5 := s4.row [.int .i64 0, .slice none 0 0]
  obtain ⟨m5, hm5⟩ := qb8 (Dx.newRow m4 [.int .i64 0, .slice none 0 0])
  rw [← hm5] at s5
  obtain ⟨m6, g1, g2, g3, g4⟩ := s5.fill 0 rfl (n := 2) (l' := [iv loc', av']) rfl rfl (by simp [okC]; exact ok2)
  have s6 : St m m6 [(m4.n, [iv loc', av']), (m'.n, [iv loc, av]), (m1.n, [iv cells', tv']), (m.n, [iv cells, tv])] := g2
  have l61 : ∀ o s, load1 m6 ⟨m'.n, o, s⟩ = [iv loc, av][o]? := fun o s => (s6.get 1 rfl).2.2.load1 o s
  have l62 : ∀ o s, load1 m6 ⟨m4.n, o, s⟩ = [iv loc', av'][o]? := fun o s => (s6.get 0 rfl).2.2.load1 o s
  obtain ⟨na, hna⟩ := qb8 (acts.length)
  obtain ⟨nb, hnb⟩ := qb8 (acts'.length)
  have a1l : qL av = some (.int .i64 (na : Int)) := by rw [hna]; exact hpt.av.len
  have a2l : qL av' = some (.int .i64 (nb : Int)) := by rw [hnb]; exact hqt.av.len
  have hnal : na ≤ 9223372036854775807 := by rw [hna]; exact hpt.len
  simp only [qE] at x2' y2'
  cases hlo : decide (loc = loc') with
  | false =>
   simp [t2, t3, t5, la, lb, h1l, hd, hd', x1, x2', qf, ← hm3, f1, lb4, y1, y2', ← hm5, g1, l61, l62, a1l, a2l, hlo]
   exact qh s6.ext (by simp; exact vJ (hno fun e => absurd e.loc (of_decide_eq_false hlo)))
  | true =>
  by_cases hab : na = nb
  case neg =>
   have dn : ((na : Int) = (nb : Int)) = False := eq_false (by omega)
   simp [t2, t3, t5, la, lb, h1l, hd, hd', x1, x2', qf, ← hm3, f1, lb4, y1, y2', ← hm5, g1, l61, l62, a1l, a2l, hlo, dn, hab]
   exact qh s6.ext (by simp; exact vJ (hno fun e => by have := e.len; simp only at this; omega))
  subst hab
  simp [t2, t3, t5, la, lb, h1l, hd, hd', x1, x2', qf, ← hm3, f1, lb4, y1, y2', ← hm5, g1, l61, l62, a1l, a2l, hlo]
  refine qq (c := BE) rfl (Ret m _) (fun j t m3 => St m m3 [(m4.n, [iv loc', av']), (m'.n, [iv loc, av]), (m1.n, [iv cells', tv']), (m.n, [iv cells, tv])] ∧ Tm.get 2 t = .pointer (some ⟨m.n, 0, none⟩) ∧ Tm.get 3 t = .pointer (some ⟨m1.n, 0, none⟩) ∧ Tm.get 5 t = iv i ∧ Tm.get 6 t = .pointer (some ⟨m'.n, 0, none⟩) ∧ Tm.get 7 t = .pointer (some ⟨m4.n, 0, none⟩) ∧ Tm.get 8 t = iv j ∧ ∀ k, k < j → ∀ x, acts'[k]? = some x → ∃ y, acts[k]? = some y ∧ AcEq y x) na hnal
   ⟨s6, by simp [t2], by simp [t3], by simp [t5], by simp, by simp, by simp, fun j hj => absurd hj (qb7 _)⟩ (fun j t n0 k3 hj hJ hk3 => ?_)
  obtain ⟨u0', t2, t3, t5, t6, t7, t8, hpr⟩ := hJ
  have q1 : ∀ o s, load1 n0 ⟨m'.n, o, s⟩ = [iv loc, av][o]? := fun o s => (u0'.get 1 rfl).2.2.load1 o s
  by_cases hjl : j < na
  ·have hd := dlt hjl
   have hd' : (j < na) = True := eq_true hjl
   have nj := wj (i := j) (by omega)
   obtain ⟨b, hb⟩ : ∃ r, acts'[j]? = some r := ⟨_, qae (by omega)⟩
   obtain ⟨a, ha⟩ : ∃ r, acts[j]? = some r := ⟨_, qae (by omega)⟩
   have hnoA : ¬ AcEq a b → deB (PgEq ⟨cells, tv, ths⟩ ⟨cells', tv', ths'⟩) = false := fun hne => vJ (hno fun e => by
    obtain ⟨y, hy, h⟩ := e.acts j b hb
    rw [ha] at hy; cases hy; exact hne h)
   have ⟨v1, v2, _⟩ := hpt.av.at ha
   have ⟨w1, w2, _⟩ := hqt.av.at hb
   have v2' := v2 n0 u0'.sees
   have oka := hpt.acts _ (qaf ha)
   have okb := hqt.acts _ (qaf hb)
   have u1 := u0'.row Z11
   obtain ⟨n1, hn1⟩ := qb8 (Dx.newRow n0 Z11)
   rw [← hn1] at u1
   obtain ⟨n2, i1, i2, i3, i4⟩ := u1.fill 0 rfl (n := 11) (l' := qe a) rfl rfl (qM oka)
   have u2 : St m n2 [(n0.n, qe a), (m4.n, [iv loc', av']), (m'.n, [iv loc, av]), (m1.n, [iv cells', tv']), (m.n, [iv cells, tv])] := i2
   have q2 : ∀ o s, load1 n2 ⟨m4.n, o, s⟩ = [iv loc', av'][o]? := fun o s => (u2.get 1 rfl).2.2.load1 o s
   have w2' := w2 n2 u2.sees
   have u3 := u2.row Z11
   obtain ⟨n3, hn3⟩ := qb8 (Dx.newRow n2 Z11)
   rw [← hn3] at u3
   obtain ⟨n4, j1, j2, j3, j4⟩ := u3.fill 0 rfl (n := 11) (l' := qe b) rfl rfl (qM okb)
   have u4 : St m n4 [(n2.n, qe b), (n0.n, qe a), (m4.n, [iv loc', av']), (m'.n, [iv loc, av]), (m1.n, [iv cells', tv']), (m.n, [iv cells, tv])] := j2
   have r1 : ∀ o s, load1 n4 ⟨n0.n, o, s⟩ = (qe a)[o]? := fun o s => (u4.get 1 rfl).2.2.load1 o s
   have r2 : ∀ o s, load1 n4 ⟨n2.n, o, s⟩ = (qe b)[o]? := fun o s => (u4.get 0 rfl).2.2.load1 o s
   obtain ⟨z1, n5, c1, c2, rfl⟩ := vH a.ixs b.ixs a.ix b.ix oka.ixl okb.ixl N n4 u4.sees.base (oka.ix.sees u4.sees) (okb.ix.sees u4.sees)
   have u5 := u4.step c2
   have r15 : ∀ o s, load1 n5 ⟨n0.n, o, s⟩ = (qe a)[o]? := fun o s => (u5.get 1 rfl).2.2.load1 o s
   have r25 : ∀ o s, load1 n5 ⟨n2.n, o, s⟩ = (qe b)[o]? := fun o s => (u5.get 0 rfl).2.2.load1 o s
   obtain ⟨z2, n6, d1, d2, rfl⟩ := vH a.es b.es a.ev b.ev oka.evl okb.evl N n5 u5.sees.base (oka.ev.sees u5.sees) (okb.ev.sees u5.sees)
   have u6 := u5.step d2
   have r16 : ∀ o s, load1 n6 ⟨n0.n, o, s⟩ = (qe a)[o]? := fun o s => (u6.get 1 rfl).2.2.load1 o s
   have r26 : ∀ o s, load1 n6 ⟨n2.n, o, s⟩ = (qe b)[o]? := fun o s => (u6.get 0 rfl).2.2.load1 o s
   obtain ⟨z3, n7, e1, e2, rfl⟩ := vH a.fs b.fs a.fv b.fv oka.fvl okb.fvl N n6 u6.sees.base (oka.fv.sees u6.sees) (okb.fv.sees u6.sees)
   have u7 := u6.step e2
   simp only [qe] at v2' w2' r1 r2 r15 r25 r16 r26 i1 j1
   obtain ⟨x0, g0⟩ : ∃ x, decide (a.op = b.op) = x := ⟨_, rfl⟩
   obtain ⟨x1', g1'⟩ : ∃ x, decide (a.dst = b.dst) = x := ⟨_, rfl⟩
   obtain ⟨x2, g2'⟩ : ∃ x, decide (a.base = b.base) = x := ⟨_, rfl⟩
   obtain ⟨x3, g3'⟩ : ∃ x, decide (a.size = b.size) = x := ⟨_, rfl⟩
   obtain ⟨x4, g4'⟩ : ∃ x, decide (a.mode = b.mode) = x := ⟨_, rfl⟩
   obtain ⟨x5, g5⟩ : ∃ x, decide (a.to = b.to) = x := ⟨_, rfl⟩
   obtain ⟨x6, g6⟩ : ∃ x, decide (a.line = b.line) = x := ⟨_, rfl⟩
   obtain ⟨x7, g7⟩ : ∃ x, decide (a.col = b.col) = x := ⟨_, rfl⟩
   obtain ⟨x8, g8⟩ : ∃ x, eqB a.ixs b.ixs = x := ⟨_, rfl⟩
   obtain ⟨x9, g9⟩ : ∃ x, eqB a.es b.es = x := ⟨_, rfl⟩
   obtain ⟨xa, ga⟩ : ∃ x, eqB a.fs b.fs = x := ⟨_, rfl⟩
   rw [g8] at c1
   rw [g9] at d1
   rw [ga] at e1
   have hall : AcEq a b ↔ x0 = true ∧ x1' = true ∧ x2 = true ∧ x3 = true ∧ x4 = true ∧ x5 = true ∧ x6 = true ∧ x7 = true ∧ x8 = true ∧ x9 = true ∧ xa = true := by
    rw [YJ, ← g0, ← g1', ← g2', ← g3', ← g4', ← g5, ← g6, ← g7, ← g8, ← g9, ← ga]
    simp only [decide_eq_true_eq, vO]
   have hcs : x0 = false ∨ x0 = true ∧ (x1' = false ∨ x1' = true ∧ (x2 = false ∨ x2 = true ∧ (x3 = false ∨ x3 = true ∧ (x4 = false ∨ x4 = true ∧ (x5 = false ∨ x5 = true ∧ (x6 = false ∨ x6 = true ∧ (x7 = false ∨ x7 = true ∧ (x8 = false ∨ x8 = true ∧ (x9 = false ∨ x9 = true ∧ (xa = false ∨ xa = true)))))))))) := by
    cases x0 <;> cases x1' <;> cases x2 <;> cases x3 <;> cases x4 <;> cases x5 <;> cases x6 <;> cases x7 <;> cases x8 <;> cases x9 <;> cases xa <;> simp
   rcases hcs with rfl | ⟨rfl, rfl | ⟨rfl, rfl | ⟨rfl, rfl | ⟨rfl, rfl | ⟨rfl, rfl | ⟨rfl, rfl | ⟨rfl, rfl | ⟨rfl, rfl | ⟨rfl, rfl | ⟨rfl, rfl | rfl⟩⟩⟩⟩⟩⟩⟩⟩⟩⟩
   all_goals simp [t2, t3, t5, t6, t7, t8, q1, a1l, hd, hd', v1, v2', qf, ← hn1, i1, q2, w1, w2', ← hn3, j1, r1, r2, g0, g1', g2', g3', g4', g5, g6, g7, c1, r15, r25, d1, r16, r26, e1, nj]
   iterate 8 exact qh u4.ext (by simp; exact hnoA (by rw [hall]; simp))
   ·exact qh u5.ext (by simp; exact hnoA (by rw [hall]; simp))
   ·exact qh u6.ext (by simp; exact hnoA (by rw [hall]; simp))
   ·exact qh u7.ext (by simp; exact hnoA (by rw [hall]; simp))
   ·refine hk3 hjl _ _ ⟨u7.sub (fun p hp => qap _ (qap _ hp)) (by have := u7.nd; simp at this ⊢; omega), by simp [t2], by simp [t3], by simp [t5], by simp [t6], by simp [t7], by simp, fun k hk x hx => ?_⟩
    by_cases hkj : k < j
    ·exact hpr k hkj x hx
    ·obtain rfl : k = j := by omega
     rw [hb] at hx; cases hx
     exact ⟨a, ha, hall.2 (by simp)⟩
  ·obtain rfl : j = na := by omega
   have hd : ((j : Int) < (j : Int)) = False := eq_false (by omega)
   simp [t2, t3, t5, t6, t7, t8, q1, a1l, hd, ni]
   refine hk' hil _ _ ⟨u0'.sub (fun p hp => qap _ (qap _ hp)) (by have := u0'.nd; simp at this ⊢; omega), by simp [t2], by simp [t3], by simp, fun j' hj' x hx => ?_⟩
   by_cases hji : j' < i
   ·exact hpre j' hji x hx
   ·obtain rfl : j' = i := by omega
    rw [hu] at hx; cases hx
    exact ⟨_, ht', of_decide_eq_true hlo, by show acts.length = acts'.length; omega, fun k x hx => hpr k (by have : k < acts'.length := (qag.1 hx).1; omega) x hx⟩
 ·obtain rfl : i = n := by omega
  have hd : ((i : Int) < (i : Int)) = False := eq_false (by omega)
  simp [t2, t3, t5, la, h1l, hd]
  exact qh st.ext (by simp; exact (yY ⟨of_decide_eq_true hc, by simp only; omega, fun j x hx => hpre j (by have : j < ths'.length := (qag.1 hx).1; omega) x hx⟩))
end Go.Sx
