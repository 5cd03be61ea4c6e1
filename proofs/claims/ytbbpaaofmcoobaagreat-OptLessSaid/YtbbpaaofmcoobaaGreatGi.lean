/- Contracts. -/
import Derived.Test.YtbbpaaofmcoobaaGreatGh
import Derived.Test.YtbbpaaofmcoobaaGreatGe
import Derived.Test.YtbbpaaofmcoobaaGreatGb1
import Derived.Test.YtbbpaaofmcoobaaGreatGc
set_option linter.unusedVariables false
set_option linter.unusedSimpArgs false
set_option linter.defProp false
/- Are two programs alike? -/
namespace Go.Sx
open Go.Dx Go.Proofs
set_option maxRecDepth 10000
open Classical in
noncomputable def eqB {α : Type} (a b : α) : Bool := decide (a = b)
theorem eqB_iff {α : Type} {a b : α} : eqB a b = true ↔ a = b := by unfold eqB; simp
theorem eqB_of {α : Type} {a b : α} (h : a = b) : eqB a b = true := eqB_iff.2 h
theorem eqB_ne {α : Type} {a b : α} (h : a ≠ b) : eqB a b = false := by
  cases hc : eqB a b with
  | false => rfl
  | true => exact absurd (eqB_iff.1 hc) h
theorem eqFlat_int2 (ks : List Nat) (k : IntKind) (x y : Int) (l r : List Value) : eqFlat (1 :: ks) (.int k x :: l) (.int k y :: r) = if x = y then eqFlat ks l r else some false := by
  have h : eqK 1 (.int k x) (.int k y) = some (decide (x = y)) := by
    show (bif Nat.beq (ik k) (ik k) then some (eqI x y) else none) = _
    rw [Nat.beq_refl, eqI_eq]; simp
    by_cases h : x = y <;> simp [h]
  show ob (eqK 1 (.int k x) (.int k y)) _ = _
  rw [h]
  by_cases h : x = y
  · rw [if_pos h, decide_eq_true h]; rfl
  · rw [if_neg h, decide_eq_false h]; rfl
theorem nd_cmp (a b : Nd) : eqFlat [1, 1, 1, 1] (nodeRow a) (nodeRow b) = some (eqB a b) := by
  unfold nodeRow
  rw [eqFlat_int2, eqFlat_int2, eqFlat_int2, eqFlat_int2]
  have key : (a.op = b.op ∧ (a.val.1 : Int) = b.val.1 ∧ a.a = b.a ∧ a.b = b.b) ↔ a = b := by
    obtain ⟨o, v, x, y⟩ := a
    obtain ⟨o', v', x', y'⟩ := b
    simp only [Nd.mk.injEq, Subtype.ext_iff]
    constructor
    · rintro ⟨h1, h2, h3, h4⟩; exact ⟨h1, by omega, h3, h4⟩
    · rintro ⟨h1, h2, h3, h4⟩; exact ⟨h1, by omega, h3, h4⟩
  by_cases h : a = b
  · obtain ⟨h1, h2, h3, h4⟩ := key.2 h
    rw [if_pos h1, if_pos h2, if_pos h3, if_pos h4, eqB_of h]; rfl
  · rw [eqB_ne h]
    by_cases h1 : a.op = b.op
    · rw [if_pos h1]
      by_cases h2 : (a.val.1 : Int) = b.val.1
      · rw [if_pos h2]
        by_cases h3 : a.a = b.a
        · rw [if_pos h3]
          by_cases h4 : a.b = b.b
          · exact absurd (key.1 ⟨h1, h2, h3, h4⟩) h
          · rw [if_neg h4]
        · rw [if_neg h3]
      · rw [if_neg h2]
    · rw [if_neg h1]
theorem Equal_c (ls rs : List Nd) (a b : Value) (hl : ls.length ≤ 9223372036854775807) (hr : rs.length ≤ 9223372036854775807) (N : Nat) (m : M) (hm : m.base ≤ m.n) (ha : Rd m a 4 nodeRow ls) (hb : Rd m b 4 nodeRow rs) : CallV (ex Tryz.prog (N + 1)) 68 [a, b] m (.bool (eqB ls rs)) := by
  refine call_ret dc7_ok (by simp) ?_
  obtain ⟨n, hn⟩ : ∃ n, n = ls.length := ⟨_, rfl⟩
  obtain ⟨n', hn'⟩ : ∃ n, n = rs.length := ⟨_, rfl⟩
  have la : lenS a = some (.int .i64 (n : Int)) := by rw [hn]; exact ha.len
  have lb : lenS b = some (.int .i64 (n' : Int)) := by rw [hn']; exact hb.len
  have S := Sees.refl hm
  by_cases hne : n = n'
  · subst hne
    simp [la, lb]
    refine loop_run (c := cc7_13) rfl (Ret m _) (fun i t m' => m' = m ∧ Tm.get 0 t = a ∧ Tm.get 1 t = b ∧ Tm.get 12 t = iv n ∧ Tm.get 13 t = iv i ∧ ∀ j, j < i → ls[j]? = rs[j]?) n (by omega)
      ⟨rfl, by simp, by simp, by simp, by simp, fun j hj => absurd hj (Nat.not_lt_zero _)⟩ (fun i t m' k hi hI hk => ?_)
    obtain ⟨rfl, t0, t1, t12, t13, hpre⟩ := hI
    by_cases hil : i < n
    · have eI : ((i : Int) < (n : Int)) = True := eq_true (by omega)
      obtain ⟨i1, hi1⟩ : ∃ x, x = i + 1 := ⟨_, rfl⟩
      have w1 : IntKind.i64.wrap ((i : Int) + 1) = (i1 : Int) := by rw [wrap64 _ (by omega) (by omega)]; omega
      obtain ⟨u, hu⟩ : ∃ r, ls[i]? = some r := ⟨_, List.getElem?_eq_getElem (by omega)⟩
      obtain ⟨w, hw⟩ : ∃ r, rs[i]? = some r := ⟨_, List.getElem?_eq_getElem (by omega)⟩
      obtain ⟨a1, a2, _⟩ := ha.at hu
      obtain ⟨b1, b2, _⟩ := hb.at hw
      have a2' := a2 m' S
      have b2' := b2 m' S
      have hc := nd_cmp u w
      rw [← hi1] at hk
      by_cases he : u = w
      · rw [eqB_of he] at hc
        simp [t0, t1, t12, t13, eI, a1, a2', b1, b2', loadNS_ptr, hc, w1]
        refine hk hil _ _ ⟨rfl, by simp [t0], by simp [t1], by simp [t12], by simp, fun j hj => ?_⟩
        by_cases hji : j < i
        · exact hpre j hji
        · obtain rfl : j = i := by omega
          rw [hu, hw, he]
      · rw [eqB_ne he] at hc
        have : ls ≠ rs := by rintro rfl; rw [hu] at hw; cases hw; exact he rfl
        simp [t0, t1, t12, t13, eI, a1, a2', b1, b2', loadNS_ptr, hc]
        exact ret_1 (Ext.refl m') (by simp [eqB_ne this])
    · obtain rfl : i = n := by omega
      have : ls = rs := List.ext_getElem? fun j => by
        by_cases hj : j < i
        · exact hpre j hj
        · rw [List.getElem?_eq_none (by omega), List.getElem?_eq_none (by omega)]
      simp [t0, t1, t12, t13]
      exact ret_1 (Ext.refl m') (by simp [eqB_of this])
  · have dn : ((n : Int) = (n' : Int)) = False := eq_false (by omega)
    have : ls ≠ rs := by rintro rfl; omega
    simp [la, lb, dn, hne]
    exact ret_1 (Ext.refl m) (by simp [eqB_ne this])
noncomputable def alaB (a b : Ac) : Bool := decide (a.op = b.op) && (decide (a.dst = b.dst) && (decide (a.to = b.to) && (eqB a.es b.es && (eqB a.fs b.fs && eqB a.ixs b.ixs))))
theorem alaB_iff {a b : Ac} : alaB a b = true ↔ AlA a b := by
  unfold alaB AlA
  simp only [Bool.and_eq_true, decide_eq_true_eq, eqB_iff]
theorem alike2_c (a b : Ac) (N : Nat) (m : M) (hm : m.base ≤ m.n) (ha : AcOK m a) (hb : AcOK m b) : CallV (ex Tryz.prog (N + 2)) 67 [.agg ⟨acRow a⟩, .agg ⟨acRow b⟩] m (.bool (alaB a b)) := by
  refine call_ret dc6_ok (by simp) ?_
  have st1 := (St.nil hm (Ext.refl m)).row (acRow a)
  obtain ⟨m1, hm1⟩ : ∃ m1, m1 = Dx.newRow m (acRow a) := ⟨_, rfl⟩
  rw [← hm1] at st1
  have st2 := st1.row (acRow b)
  obtain ⟨m2, hm2⟩ : ∃ m2, m2 = Dx.newRow m1 (acRow b) := ⟨_, rfl⟩
  rw [← hm2] at st2
  have la : ∀ m', Sees m2 m' → ∀ o s, load1 m' ⟨m.n, o, s⟩ = (acRow a)[o]? := fun m' k o s => ((st2.get 1 rfl).2.2.congr (k.obj _ (st2.get 1 rfl).2.1)).load1 o s
  have lb : ∀ m', Sees m2 m' → ∀ o s, load1 m' ⟨m1.n, o, s⟩ = (acRow b)[o]? := fun m' k o s => ((st2.get 0 rfl).2.2.congr (k.obj _ (st2.get 0 rfl).2.1)).load1 o s
  have S2 : Sees m2 m2 := st2.sees.self
  have la2 := la m2 S2
  have lb2 := lb m2 S2
  have a2 := ha.sees st2.sees
  have b2 := hb.sees st2.sees
  simp only [acRow] at la2 lb2 la lb hm1 hm2
  obtain ⟨v3, m3, c1, c2, rfl⟩ := Equal_c a.es b.es a.ev b.ev a2.evl b2.evl N m2 S2.base a2.ev b2.ev
  have S3 : Sees m2 m3 := S2.ext c2
  obtain ⟨v4, m4, d1, d2, rfl⟩ := Equal_c a.fs b.fs a.fv b.fv a2.fvl b2.fvl N m3 S3.self.base (a2.fv.sees S3) (b2.fv.sees S3)
  have S4 : Sees m2 m4 := S3.ext d2
  obtain ⟨v5, m5, e1, e2, rfl⟩ := Equal_c a.ixs b.ixs a.ix b.ix a2.ixl b2.ixl N m4 S4.self.base (a2.ix.sees S4) (b2.ix.sees S4)
  have la3 := la m3 S3
  have lb3 := lb m3 S3
  have la4 := la m4 S4
  have lb4 := lb m4 S4
  have hA : alaB a b = (decide (a.op = b.op) && (decide (a.dst = b.dst) && (decide (a.to = b.to) && (eqB a.es b.es && (eqB a.fs b.fs && eqB a.ixs b.ixs))))) := rfl
  rw [hA]
  cases h1 : decide (a.op = b.op) with
  | true =>
    cases h2 : decide (a.dst = b.dst) with
    | true =>
      cases h3 : decide (a.to = b.to) with
      | true =>
        cases h4 : eqB a.es b.es with
        | false =>
          rw [h4] at c1
          simp [acRow, ← hm1, ← hm2, la2, lb2, h1, h2, h3, c1]
          exact ret_1 (st2.ext.trans c2) (by simp)
        | true =>
          rw [h4] at c1
          cases h5 : eqB a.fs b.fs with
          | false =>
            rw [h5] at d1
            simp [acRow, ← hm1, ← hm2, la2, lb2, la3, lb3, h1, h2, h3, c1, d1]
            exact ret_1 ((st2.ext.trans c2).trans d2) (by simp)
          | true =>
            rw [h5] at d1
            simp [acRow, ← hm1, ← hm2, la2, lb2, la3, lb3, la4, lb4, h1, h2, h3, c1, d1, e1]
            exact ret_1 (((st2.ext.trans c2).trans d2).trans e2) (by simp)
      | false =>
        simp [acRow, ← hm1, ← hm2, la2, lb2, h1, h2, h3]
        exact ret_1 st2.ext (by simp)
    | false =>
      simp [acRow, ← hm1, ← hm2, la2, lb2, h1, h2]
      exact ret_1 st2.ext (by simp)
  | false =>
    simp [acRow, ← hm1, ← hm2, la2, lb2, h1]
    exact ret_1 st2.ext (by simp)
end Go.Sx
/- Are two programs alike? Their acts, their threads. -/
namespace Go.Sx
open Go.Dx Go.Proofs
set_option maxRecDepth 10000
open Classical in
noncomputable def deB (p : Prop) : Bool := decide p
theorem deB_t {p : Prop} (h : p) : deB p = true := by unfold deB; simp [h]
theorem deB_f {p : Prop} (h : ¬ p) : deB p = false := by unfold deB; simp [h]
theorem deB_iff {p : Prop} : deB p = true ↔ p := by unfold deB; simp
theorem EqFuncA_c (ls rs : List Ac) (a b : Value) (hl : ls.length ≤ 9223372036854775807) (hr : rs.length ≤ 9223372036854775807) (N : Nat) (m : M) (hm : m.base ≤ m.n) (ha : Rd m a 11 acRow ls) (hb : Rd m b 11 acRow rs) (hla : ∀ x ∈ ls, AcOK m x) (hra : ∀ x ∈ rs, AcOK m x) :
    CallV (ex Tryz.prog (N + 3)) 66 [a, b, fnG 67] m (.bool (deB (AlL ls rs))) := by
  refine call_ret dc5_ok (by simp) ?_
  obtain ⟨n, hn⟩ : ∃ n, n = ls.length := ⟨_, rfl⟩
  obtain ⟨n', hn'⟩ : ∃ n, n = rs.length := ⟨_, rfl⟩
  have la : lenS a = some (.int .i64 (n : Int)) := by rw [hn]; exact ha.len
  have lb : lenS b = some (.int .i64 (n' : Int)) := by rw [hn']; exact hb.len
  by_cases hne : n = n'
  · subst hne
    simp [la, lb]
    refine loop_run (c := cc5_14) rfl (Ret m _) (fun i t m' => Ext m m' ∧ Tm.get 0 t = a ∧ Tm.get 1 t = b ∧ Tm.get 2 t = fnG 67 ∧ Tm.get 15 t = a ∧ Tm.get 16 t = iv n ∧ Tm.get 17 t = iv i ∧ ∀ (j : Nat) u w, j < i → ls[j]? = some u → rs[j]? = some w → AlA u w) n (by omega)
      ⟨Ext.refl m, by simp, by simp, by simp, by simp, by simp, by simp, fun j u w hj => absurd hj (Nat.not_lt_zero _)⟩ (fun i t m' k hi hI hk => ?_)
    obtain ⟨hE, t0, t1, t2, t15, t16, t17, hpre⟩ := hI
    by_cases hil : i < n
    · have eI : ((i : Int) < (n : Int)) = True := eq_true (by omega)
      obtain ⟨i1, hi1⟩ : ∃ x, x = i + 1 := ⟨_, rfl⟩
      have w1 : IntKind.i64.wrap ((i : Int) + 1) = (i1 : Int) := by rw [wrap64 _ (by omega) (by omega)]; omega
      obtain ⟨u, hu⟩ : ∃ r, ls[i]? = some r := ⟨_, List.getElem?_eq_getElem (by omega)⟩
      obtain ⟨w, hw⟩ : ∃ r, rs[i]? = some r := ⟨_, List.getElem?_eq_getElem (by omega)⟩
      have um := hla u (List.mem_of_getElem? hu)
      have wm := hra w (List.mem_of_getElem? hw)
      obtain ⟨a1, a2, _⟩ := ha.at hu
      obtain ⟨b1, b2, _⟩ := hb.at hw
      have S := (Sees.refl hm).ext hE
      have a2' := a2 m' S
      have st1 := (St.nil hm hE).row zAc
      obtain ⟨m1, hm1⟩ : ∃ m1, m1 = Dx.newRow m' zAc := ⟨_, rfl⟩
      rw [← hm1] at st1
      obtain ⟨m2, s1, s2, s3, s4⟩ := st1.fill 0 rfl (n := 11) (l' := acRow u) rfl rfl (acRow_ok um)
      have st2 : St m m2 [(m'.n, acRow u)] := s2
      have b2' := b2 m2 st2.sees
      have st3 := st2.row zAc
      obtain ⟨m3, hm3⟩ : ∃ m3, m3 = Dx.newRow m2 zAc := ⟨_, rfl⟩
      rw [← hm3] at st3
      obtain ⟨m4, r1, r2, r3, r4⟩ := st3.fill 0 rfl (n := 11) (l' := acRow w) rfl rfl (acRow_ok wm)
      have st4 : St m m4 [(m2.n, acRow w), (m'.n, acRow u)] := r2
      have lu : loads m4 ⟨m'.n, 0, none⟩ 11 = some (acRow u) := (st4.get 1 rfl).2.2.loads (by simp [acRow])
      have lw : loads m4 ⟨m2.n, 0, none⟩ 11 = some (acRow w) := (st4.get 0 rfl).2.2.loads (by simp [acRow])
      obtain ⟨v5, m5, c1, c2, rfl⟩ := alike2_c u w N m4 st4.sees.self.base (um.sees st4.sees) (wm.sees st4.sees)
      rw [← hi1] at hk
      cases hc : alaB u w with
      | true =>
        rw [hc] at c1
        simp [t0, t1, t2, t15, t16, t17, eI, a1, a2', b1, b2', loadNS_ptr, ← hm1, s1, ← hm3, r1, lu, lw, c1, w1]
        refine hk hil _ _ ⟨st4.ext.trans c2, by simp [t0], by simp [t1], by simp [t2], by simp [t15], by simp [t16], by simp, fun j x y hj hx hy => ?_⟩
        by_cases hji : j < i
        · exact hpre j x y hji hx hy
        · obtain rfl : j = i := by omega
          rw [hu] at hx; rw [hw] at hy
          cases hx; cases hy
          exact alaB_iff.1 hc
      | false =>
        rw [hc] at c1
        have hno : ¬ AlL ls rs := fun h => by have := alaB_iff.2 (h.2 i u w hu hw); rw [hc] at this; cases this
        simp [t0, t1, t2, t15, t16, t17, eI, a1, a2', b1, b2', loadNS_ptr, ← hm1, s1, ← hm3, r1, lu, lw, c1]
        exact ret_1 (st4.ext.trans c2) (by simp [deB_f hno])
    · obtain rfl : i = n := by omega
      have : AlL ls rs := ⟨by omega, fun j u w hu hw => hpre j u w (by have := (List.getElem?_eq_some_iff.1 hu).1; omega) hu hw⟩
      simp [t0, t1, t15, t16, t17]
      exact ret_1 hE (by simp [deB_t this])
  · have dn : ((n : Int) = (n' : Int)) = False := eq_false (by omega)
    have : ¬ AlL ls rs := fun h => by have := h.1; omega
    simp [la, lb, dn, hne]
    exact ret_1 (Ext.refl m) (by simp [deB_f this])
/-- threads -/
theorem alike1_c (p q : Th) (N : Nat) (m : M) (hm : m.base ≤ m.n) (hp : ThOK m p) (hq : ThOK m q) : CallV (ex Tryz.prog (N + 4)) 65 [.agg ⟨thRow p⟩, .agg ⟨thRow q⟩] m (.bool (deB (AlL p.acts q.acts))) := by
  refine call_ret dc4_ok (by simp) ?_
  have st1 := (St.nil hm (Ext.refl m)).row (thRow p)
  obtain ⟨m1, hm1⟩ : ∃ m1, m1 = Dx.newRow m (thRow p) := ⟨_, rfl⟩
  rw [← hm1] at st1
  have st2 := st1.row (thRow q)
  obtain ⟨m2, hm2⟩ : ∃ m2, m2 = Dx.newRow m1 (thRow q) := ⟨_, rfl⟩
  rw [← hm2] at st2
  have la : ∀ o s, load1 m2 ⟨m.n, o, s⟩ = (thRow p)[o]? := fun o s => (st2.get 1 rfl).2.2.load1 o s
  have lb : ∀ o s, load1 m2 ⟨m1.n, o, s⟩ = (thRow q)[o]? := fun o s => (st2.get 0 rfl).2.2.load1 o s
  simp only [thRow] at la lb hm1 hm2
  have p2 := hp.sees st2.sees
  have q2 := hq.sees st2.sees
  obtain ⟨v3, m3, c1, c2, rfl⟩ := EqFuncA_c p.acts q.acts p.av q.av hp.len hq.len N m2 st2.sees.self.base p2.av q2.av p2.acts q2.acts
  simp [thRow, ← hm1, ← hm2, la, lb, c1]
  exact ret_1 (st2.ext.trans c2) (by simp)
def PgAl (p q : Pg) : Prop := p.ths.length = q.ths.length ∧ ∀ (j : Nat) u w, p.ths[j]? = some u → q.ths[j]? = some w → AlL u.acts w.acts
theorem thRow_ok {m : M} {t : Th} (h : ThOK m t) : ∀ v ∈ thRow t, Dx.okC v = true := fun v hv => by
  simp [thRow] at hv
  rcases hv with rfl | rfl
  · rfl
  · exact okC_len h.av.len
theorem EqFuncT_c (ls rs : List Th) (a b : Value) (hl : ls.length ≤ 9223372036854775807) (hr : rs.length ≤ 9223372036854775807) (N : Nat) (m : M) (hm : m.base ≤ m.n) (ha : Rd m a 2 thRow ls) (hb : Rd m b 2 thRow rs) (hla : ∀ x ∈ ls, ThOK m x) (hra : ∀ x ∈ rs, ThOK m x) :
    CallV (ex Tryz.prog (N + 5)) 64 [a, b, fnG 65] m (.bool (deB (ls.length = rs.length ∧ ∀ (j : Nat) u w, ls[j]? = some u → rs[j]? = some w → AlL u.acts w.acts))) := by
  refine call_ret dc3_ok (by simp) ?_
  obtain ⟨n, hn⟩ : ∃ n, n = ls.length := ⟨_, rfl⟩
  obtain ⟨n', hn'⟩ : ∃ n, n = rs.length := ⟨_, rfl⟩
  have la : lenS a = some (.int .i64 (n : Int)) := by rw [hn]; exact ha.len
  have lb : lenS b = some (.int .i64 (n' : Int)) := by rw [hn']; exact hb.len
  by_cases hne : n = n'
  · subst hne
    simp [la, lb]
    refine loop_run (c := cc3_14) rfl (Ret m _) (fun i t m' => Ext m m' ∧ Tm.get 0 t = a ∧ Tm.get 1 t = b ∧ Tm.get 2 t = fnG 65 ∧ Tm.get 15 t = a ∧ Tm.get 16 t = iv n ∧ Tm.get 17 t = iv i ∧ ∀ (j : Nat) (u w : Th), j < i → ls[j]? = some u → rs[j]? = some w → AlL u.acts w.acts) n (by omega)
      ⟨Ext.refl m, by simp, by simp, by simp, by simp, by simp, by simp, fun j u w hj => absurd hj (Nat.not_lt_zero _)⟩ (fun i t m' k hi hI hk => ?_)
    obtain ⟨hE, t0, t1, t2, t15, t16, t17, hpre⟩ := hI
    by_cases hil : i < n
    · have eI : ((i : Int) < (n : Int)) = True := eq_true (by omega)
      obtain ⟨i1, hi1⟩ : ∃ x, x = i + 1 := ⟨_, rfl⟩
      have w1 : IntKind.i64.wrap ((i : Int) + 1) = (i1 : Int) := by rw [wrap64 _ (by omega) (by omega)]; omega
      obtain ⟨u, hu⟩ : ∃ r, ls[i]? = some r := ⟨_, List.getElem?_eq_getElem (by omega)⟩
      obtain ⟨w, hw⟩ : ∃ r, rs[i]? = some r := ⟨_, List.getElem?_eq_getElem (by omega)⟩
      have um := hla u (List.mem_of_getElem? hu)
      have wm := hra w (List.mem_of_getElem? hw)
      obtain ⟨a1, a2, _⟩ := ha.at hu
      obtain ⟨b1, b2, _⟩ := hb.at hw
      have S := (Sees.refl hm).ext hE
      have a2' := a2 m' S
      have st1 := (St.nil hm hE).row zTh
      obtain ⟨m1, hm1⟩ : ∃ m1, m1 = Dx.newRow m' zTh := ⟨_, rfl⟩
      rw [← hm1] at st1
      obtain ⟨m2, s1, s2, s3, s4⟩ := st1.fill 0 rfl (n := 2) (l' := thRow u) rfl rfl (thRow_ok um)
      have st2 : St m m2 [(m'.n, thRow u)] := s2
      have b2' := b2 m2 st2.sees
      have st3 := st2.row zTh
      obtain ⟨m3, hm3⟩ : ∃ m3, m3 = Dx.newRow m2 zTh := ⟨_, rfl⟩
      rw [← hm3] at st3
      obtain ⟨m4, r1, r2, r3, r4⟩ := st3.fill 0 rfl (n := 2) (l' := thRow w) rfl rfl (thRow_ok wm)
      have st4 : St m m4 [(m2.n, thRow w), (m'.n, thRow u)] := r2
      have lu : loads m4 ⟨m'.n, 0, none⟩ 2 = some (thRow u) := (st4.get 1 rfl).2.2.loads (by simp [thRow])
      have lw : loads m4 ⟨m2.n, 0, none⟩ 2 = some (thRow w) := (st4.get 0 rfl).2.2.loads (by simp [thRow])
      obtain ⟨v5, m5, c1, c2, rfl⟩ := alike1_c u w N m4 st4.sees.self.base (um.sees st4.sees) (wm.sees st4.sees)
      rw [← hi1] at hk
      cases hc : deB (AlL u.acts w.acts) with
      | true =>
        rw [hc] at c1
        simp [t0, t1, t2, t15, t16, t17, eI, a1, a2', b1, b2', loadNS_ptr, ← hm1, s1, ← hm3, r1, lu, lw, c1, w1]
        refine hk hil _ _ ⟨st4.ext.trans c2, by simp [t0], by simp [t1], by simp [t2], by simp [t15], by simp [t16], by simp, fun j x y hj hx hy => ?_⟩
        by_cases hji : j < i
        · exact hpre j x y hji hx hy
        · obtain rfl : j = i := by omega
          rw [hu] at hx; rw [hw] at hy
          cases hx; cases hy
          exact deB_iff.1 hc
      | false =>
        rw [hc] at c1
        have hno : ¬ (ls.length = rs.length ∧ ∀ (j : Nat) u w, ls[j]? = some u → rs[j]? = some w → AlL u.acts w.acts) := fun h => by have := deB_t (h.2 i u w hu hw); rw [hc] at this; cases this
        simp [t0, t1, t2, t15, t16, t17, eI, a1, a2', b1, b2', loadNS_ptr, ← hm1, s1, ← hm3, r1, lu, lw, c1]
        exact ret_1 (st4.ext.trans c2) (by simp [deB_f hno])
    · obtain rfl : i = n := by omega
      have : (ls.length = rs.length ∧ ∀ (j : Nat) u w, ls[j]? = some u → rs[j]? = some w → AlL u.acts w.acts) := ⟨by omega, fun j u w hu hw => hpre j u w (by have := (List.getElem?_eq_some_iff.1 hu).1; omega) hu hw⟩
      rw [deB_t this]
      simp [t0, t1, t15, t16, t17]
      exact ret_1 hE (by simp)
  · have dn : ((n : Int) = (n' : Int)) = False := eq_false (by omega)
    have : ¬ (ls.length = rs.length ∧ ∀ (j : Nat) u w, ls[j]? = some u → rs[j]? = some w → AlL u.acts w.acts) := fun h => by have := h.1; omega
    rw [deB_f this]
    simp [la, lb, dn, hne]
    exact ret_1 (Ext.refl m) (by simp)
theorem alike_c (p q : Pg) (N : Nat) (m : M) (hm : m.base ≤ m.n) (hp : PgOK m p) (hq : PgOK m q) : CallV (ex Tryz.prog (N + 6)) 35 [pgV p, pgV q] m (.bool (deB (PgAl p q))) := by
  refine call_ret db3_ok (by simp) ?_
  have st1 := (St.nil hm (Ext.refl m)).row [iv p.cells, p.tv]
  obtain ⟨m1, hm1⟩ : ∃ m1, m1 = Dx.newRow m [iv p.cells, p.tv] := ⟨_, rfl⟩
  rw [← hm1] at st1
  have st2 := st1.row [iv q.cells, q.tv]
  obtain ⟨m2, hm2⟩ : ∃ m2, m2 = Dx.newRow m1 [iv q.cells, q.tv] := ⟨_, rfl⟩
  rw [← hm2] at st2
  have la : ∀ o s, load1 m2 ⟨m.n, o, s⟩ = [iv p.cells, p.tv][o]? := fun o s => (st2.get 1 rfl).2.2.load1 o s
  have lb : ∀ o s, load1 m2 ⟨m1.n, o, s⟩ = [iv q.cells, q.tv][o]? := fun o s => (st2.get 0 rfl).2.2.load1 o s
  have p2 := hp.sees st2.sees
  have q2 := hq.sees st2.sees
  obtain ⟨v3, m3, c1, c2, c3⟩ := EqFuncT_c p.ths q.ths p.tv q.tv hp.len hq.len N m2 st2.sees.self.base p2.tv q2.tv p2.ths q2.ths
  have c3' : v3 = .bool (deB (PgAl p q)) := c3
  subst c3'
  have bx : boxS (pgV p) m = some (.pointer (some ⟨m.n, 0, none⟩), m1) := by rw [hm1]; rfl
  have by' : boxS (pgV q) m1 = some (.pointer (some ⟨m1.n, 0, none⟩), m2) := by rw [hm2]; rfl
  simp [bx, by', la, lb, c1]
  exact ret_1 (st2.ext.trans c2) (by simp)
end Go.Sx
/- Rounds, in plain terms. -/
namespace Go.Sx
open Go.Dx Go.Proofs
/-- acts that may be a thread's -/
structure WH (cells : Int) (k : Nat) (acs : List Ac) : Prop where
  len : acs.length ≤ 65536
  qa : ∀ a ∈ acs, QA cells k a
  to : ∀ a ∈ acs, (a.op = 9 ∨ a.op = 10) → 0 ≤ a.to ∧ a.to ≤ acs.length
theorem thB_wh {cells : Int} {t : Th} : thB cells t = true ↔ (0 ≤ t.loc ∧ t.loc ≤ 24) ∧ WH cells t.loc.toNat t.acts := by
  unfold thB
  simp only [Bool.and_eq_true, decide_eq_true_eq, List.all_eq_true, actB_qa]
  constructor
  · rintro ⟨h1, h2, h3⟩
    exact ⟨h1, h2, fun a ha => (h3 a ha).1, fun a ha => (h3 a ha).2⟩
  · rintro ⟨h1, h2, h3, h4⟩
    exact ⟨h1, h2, fun a ha => ⟨h3 a ha, h4 a ha⟩⟩
section
variable {cells : Int} {k : Nat} {acs : List Ac}
theorem WH.ai (h : WH cells k acs) (hk : k ≤ 24) : AI acs := by
  refine ⟨h.to, fun a ha hop => ?_, fun a ha => ?_, fun a ha hop => ?_⟩
  · have q := h.qa a ha
    obtain ⟨e1, _, e3, _⟩ := esB_iff.1 q.es
    have hpe : pE a.op = true := by rcases hop with h | h <;> rw [h] <;> rfl
    rw [hpe] at e1
    intro e0
    rw [e0] at e1; simp at e1
  · exact ((h.qa a ha).exs.2.1.to24 hk).len
  · have := (h.qa a ha).dst
    unfold dstB pD at this; rw [hop] at this
    simp at this
    omega
theorem WH.ex (h : WH cells k acs) (hk : k ≤ 24) : ∀ a ∈ acs, Ex24 a.ixs ∧ Ex24 a.es ∧ Ex24 a.fs := fun a ha => by
  obtain ⟨x1, x2, x3⟩ := (h.qa a ha).exs
  exact ⟨x1.to24 hk, x2.to24 hk, x3.to24 hk⟩
theorem prF_to {aim : Nat → Bool} {acs : List Ac} {n : Nat} (hto : ∀ a ∈ acs, (a.op = 9 ∨ a.op = 10) → 0 ≤ a.to ∧ a.to ≤ n) : ∀ i, ∀ a ∈ (prF aim acs i).1, (a.op = 9 ∨ a.op = 10) → 0 ≤ a.to ∧ a.to ≤ n := by
  intro i
  induction i with
  | zero => exact hto
  | succ i ih =>
    intro x hx hop
    have hx' : x ∈ (prStep aim i (prF aim acs i)).1 := hx
    rcases prStep_cases aim i (prF aim acs i) with e | ⟨a, b, h1, h2, h3, ⟨h4, e⟩ | ⟨h4, e⟩⟩
    · rw [e] at hx'; exact ih x hx' hop
    · rw [e] at hx'
      rcases List.mem_or_eq_of_mem_set hx' with hx' | rfl
      · exact ih x hx' hop
      · simp [setAc] at hop
    · rw [e] at hx'
      rcases List.mem_or_eq_of_mem_set hx' with hx' | rfl
      · exact ih x hx' hop
      · simp [setAc] at hop
theorem wo_to {o : Nat → Bool} {acs : List Ac} (h : ∀ a ∈ acs, (a.op = 9 ∨ a.op = 10) → 0 ≤ a.to ∧ a.to ≤ acs.length) : ∀ a ∈ wo o acs, (a.op = 9 ∨ a.op = 10) → 0 ≤ a.to ∧ a.to ≤ (wo o acs).length := by
  have hl : (wo o acs).length = kb o acs.length := by unfold wo; rw [List.length_map, keepT_len (Nat.le_refl _)]
  intro a ha hop
  obtain ⟨b, hb, rfl⟩ := wo_from ha
  obtain ⟨e1, e2, e3, e4⟩ := fixTo_at o b
  rw [e1] at hop
  rw [e4 hop, hl]
  have := h b hb hop
  have := kb_mono o (show b.to.toNat ≤ acs.length by omega)
  omega
theorem rdA_len (acs : List Ac) : (rdA acs).length ≤ acs.length := by
  unfold rdA prs stps rea brs chn
  refine Nat.le_trans (wo_len _ _) ?_
  rw [prF_len]
  refine Nat.le_trans (wo_len _ _) ?_
  refine Nat.le_trans (wo_len _ _) ?_
  rw [List.length_map]
  refine Nat.le_trans (wo_len _ _) ?_
  rw [List.length_map, List.length_map]
  exact Nat.le_refl _
theorem WH.rd (h : WH cells k acs) (hk : k ≤ 24) : WH cells k (rdA acs) ∧ ∀ a ∈ rdA acs, Fo a := by
  have ai := h.ai hk
  have a5 := ai.ps (h.ex hk) 5 (Nat.le_refl _)
  refine ⟨⟨Nat.le_trans (rdA_len acs) h.len, (QA.cl hk).rd fun a ha => (h.qa a ha).fold, ?_⟩, Fo.cl.rd fun a ha => ?_⟩
  · show ∀ a ∈ prs (psA acs 5), _
    unfold prs
    exact wo_to (by rw [prF_len]; exact prF_to a5.to _)
  · obtain ⟨x1, x2, x3⟩ := (h.qa a ha).exs
    exact ⟨x1.fld.2.1, x2.fld.2.1, x3.fld.2.1⟩
theorem WH.leq {acs' : List Ac} (h : WH cells k acs) (e : LEq acs' acs) : WH cells k acs' := by
  have key : ∀ a ∈ acs', ∃ b ∈ acs, AcEq a b := fun a ha => by
    obtain ⟨j, hj⟩ := List.getElem?_of_mem ha
    rcases e.atI j with ⟨e1, _⟩ | ⟨a', b, e1, e2, e3⟩
    · rw [e1] at hj; cases hj
    · rw [e1] at hj; cases hj; exact ⟨b, List.mem_of_getElem? e2, e3⟩
  refine ⟨by rw [e.len]; exact h.len, fun a ha => ?_, fun a ha => ?_⟩
  · obtain ⟨b, hb, x, y, z, rfl⟩ := key a ha
    have q := h.qa b hb
    exact ⟨q.op, q.may, q.dst, q.pl, q.es, q.to⟩
  · obtain ⟨b, hb, x, y, z, rfl⟩ := key a ha
    rw [e.len]; exact h.to b hb
theorem WH.tx {t : Th} (h : WH cells k t.acts) (hk : k ≤ 24) : TX t := ⟨h.ai hk, h.ex hk, h.len⟩
end
theorem fold_leq {ps qs : List Ac} (h : LEq ps qs) : LEq (ps.map foldAc) (qs.map foldAc) := h.mapL fun a b hab => by
  obtain ⟨x, y, z, rfl⟩ := hab; exact ⟨x, y, z, rfl⟩
theorem rdA_leq {ps qs : List Ac} (h : LEq ps qs) : LEq (rdA ps) (rdA qs) := prs_leq (stps_leq (rea_leq (chn_leq (brs_leq (fold_leq h)))))
/-- so many rounds -/
noncomputable def rdN : Nat → List Ac → List Ac
  | 0, acs => acs
  | i + 1, acs => rdA (rdN i acs)
theorem WH.rdN {cells : Int} {k : Nat} {acs : List Ac} (h : WH cells k acs) (hk : k ≤ 24) : ∀ i, WH cells k (rdN i acs)
  | 0 => h
  | i + 1 => ((WH.rdN h hk i).rd hk).1
theorem rdN_len (acs : List Ac) : ∀ i, (rdN i acs).length ≤ acs.length
  | 0 => Nat.le_refl _
  | i + 1 => Nat.le_trans (rdA_len _) (rdN_len acs i)
/-- a program after so many rounds -/
structure PgK (p : Pg) (i : Nat) (q : Pg) : Prop where
  cells : q.cells = p.cells
  len : q.ths.length = p.ths.length
  ths : ∀ (j : Nat) u w, q.ths[j]? = some u → p.ths[j]? = some w → u.loc = w.loc ∧ LEq u.acts (rdN i w.acts)
theorem PgK.zero (p : Pg) : PgK p 0 p := ⟨rfl, rfl, fun j u w hu hw => by rw [hu] at hw; cases hw; exact ⟨rfl, LEq.refl _⟩⟩
theorem nth_of {α β : Type} {l : List α} {r : List β} (h : l.length = r.length) {j : Nat} {u : α} (hu : l[j]? = some u) : ∃ w, r[j]? = some w :=
  ⟨_, List.getElem?_eq_getElem (by rw [← h]; exact (List.getElem?_eq_some_iff.1 hu).1)⟩
theorem PgK.next {p q r : Pg} {i : Nat} (h : PgK p i q) (k : PgR r q) : PgK p (i + 1) r := by
  refine ⟨k.cells.trans h.cells, k.len.trans h.len, fun j u w hu hw => ?_⟩
  obtain ⟨v, hv⟩ := nth_of k.len hu
  have e1 := k.ths j u v hu hv
  obtain ⟨e2, e3⟩ := h.ths j v w hv hw
  exact ⟨e1.loc.trans e2, e1.acts.trans (rdA_leq e3)⟩
theorem pgB_iff {p : Pg} : pgB p = true ↔ (0 ≤ p.cells ∧ p.cells ≤ 4096) ∧ p.ths.length ≤ 64 ∧ ∀ t ∈ p.ths, (0 ≤ t.loc ∧ t.loc ≤ 24) ∧ WH p.cells t.loc.toNat t.acts := by
  unfold pgB
  simp only [Bool.and_eq_true, decide_eq_true_eq, List.all_eq_true, thB_wh]
theorem PgK.mem {p q : Pg} {i : Nat} (h : PgK p i q) {t : Th} (ht : t ∈ q.ths) : ∃ w ∈ p.ths, t.loc = w.loc ∧ LEq t.acts (rdN i w.acts) := by
  obtain ⟨j, hj⟩ := List.getElem?_of_mem ht
  obtain ⟨w, hw⟩ := nth_of h.len hj
  exact ⟨w, List.mem_of_getElem? hw, h.ths j t w hj hw⟩
theorem PgK.whole {p q : Pg} {i : Nat} (hp : pgB p = true) (h : PgK p i q) : pgB q = true ∧ (∀ t ∈ q.ths, TX t) ∧ q.ths.length ≤ 64 := by
  obtain ⟨h1, h2, h3⟩ := pgB_iff.1 hp
  have key : ∀ t ∈ q.ths, (0 ≤ t.loc ∧ t.loc ≤ 24) ∧ WH p.cells t.loc.toNat t.acts := fun t ht => by
    obtain ⟨w, hw, e1, e2⟩ := h.mem ht
    obtain ⟨g1, g2⟩ := h3 w hw
    rw [e1]
    exact ⟨g1, (g2.rdN (by omega) i).leq e2⟩
  exact ⟨pgB_iff.2 ⟨by rw [h.cells]; exact h1, by rw [h.len]; exact h2, fun t ht => by rw [h.cells]; exact key t ht⟩, fun t ht => (key t ht).2.tx (by have := (key t ht).1; omega), by rw [h.len]; exact h2⟩
/-- nothing changes any more -/
def Stop (p : Pg) (i : Nat) : Prop := ∀ w ∈ p.ths, AlL (rdN i w.acts) (rdN (i + 1) w.acts)
theorem PgK.al {p q r : Pg} {i : Nat} (h : PgK p i q) (k : PgK p (i + 1) r) : PgAl q r ↔ Stop p i := by
  constructor
  · rintro ⟨_, h2⟩ w hw
    obtain ⟨j, hj⟩ := List.getElem?_of_mem hw
    obtain ⟨u, hu⟩ := nth_of h.len.symm hj
    obtain ⟨v, hv⟩ := nth_of k.len.symm hj
    exact (LEq.al (h.ths j u w hu hj).2 (k.ths j v w hv hj).2).1 (h2 j u v hu hv)
  · intro hs
    refine ⟨by rw [h.len, k.len], fun j u v hu hv => ?_⟩
    obtain ⟨w, hw⟩ := nth_of h.len hu
    exact (LEq.al (h.ths j u w hu hw).2 (k.ths j v w hv hw).2).2 (hs w (List.mem_of_getElem? hw))
/-- how much there may be taken away yet -/
noncomputable def PH (p : Pg) (i : Nat) : Nat := (p.ths.map fun t => phi (rdN i t.acts)).sum
theorem sum_dec {α : Type} {f g : α → Nat} : ∀ (l : List α), (∀ a ∈ l, f a ≤ g a) → (l.map f).sum ≤ (l.map g).sum ∧ ((∃ a ∈ l, f a < g a) → (l.map f).sum < (l.map g).sum)
  | [], _ => ⟨Nat.le_refl _, fun ⟨a, h, _⟩ => by cases h⟩
  | a :: l, h => by
    obtain ⟨h1, h2⟩ := sum_dec l fun b hb => h b (List.mem_cons_of_mem _ hb)
    have h3 := h a (List.mem_cons_self ..)
    simp only [List.map_cons, List.sum_cons]
    refine ⟨by omega, ?_⟩
    rintro ⟨b, hb, hlt⟩
    rcases List.mem_cons.1 hb with rfl | hb
    · omega
    · have := h2 ⟨b, hb, hlt⟩; omega
theorem PH_step {p : Pg} (hp : pgB p = true) {i : Nat} (hi : 1 ≤ i) (hs : ¬ Stop p i) : PH p (i + 1) < PH p i := by
  obtain ⟨h1, h2, h3⟩ := pgB_iff.1 hp
  have key : ∀ t ∈ p.ths, phi (rdN (i + 1) t.acts) < phi (rdN i t.acts) ∨ rdN (i + 1) t.acts = rdN i t.acts := fun t ht => by
    obtain ⟨g1, g2⟩ := h3 t ht
    have hk : t.loc.toNat ≤ 24 := by omega
    have wi := g2.rdN hk i
    obtain ⟨j, rfl⟩ : ∃ j, i = j + 1 := ⟨i - 1, by omega⟩
    have hf : ∀ a ∈ rdN (j + 1) t.acts, Fo a := ((g2.rdN hk j).rd hk).2
    exact rd_phi (wi.ai hk) hf (wi.rd hk).1.len
  refine (sum_dec p.ths fun t ht => ?_).2 ?_
  · rcases key t ht with h | h
    · omega
    · rw [h]; exact Nat.le_refl _
  · obtain ⟨t, ht⟩ := Classical.not_forall.1 hs
    obtain ⟨ht, hne⟩ := Classical.not_imp.1 ht
    refine ⟨t, ht, (key t ht).resolve_right fun e => hne ?_⟩
    rw [e]; exact AlL.refl _
theorem phi_le {acs : List Ac} (h : acs.length ≤ 65536) : phi acs ≤ 8590131200 := by
  have h1 : wt acs ≤ 131072 := by have := (wt_len acs).2; omega
  have h2 : nj acs ≤ 65536 := Nat.le_trans (nj_le acs) h
  have h3 : wt acs * 65537 ≤ 131072 * 65537 := Nat.mul_le_mul_right _ h1
  exact Nat.le_trans (Nat.add_le_add h3 h2) (by decide)
theorem PH_le {p : Pg} (hp : pgB p = true) (i : Nat) : PH p i ≤ 549768396800 := by
  obtain ⟨h1, h2, h3⟩ := pgB_iff.1 hp
  have key : ∀ l : List Th, (∀ t ∈ l, t ∈ p.ths) → (l.map fun t => phi (rdN i t.acts)).sum ≤ l.length * 8590131200 := by
    intro l
    induction l with
    | nil => intro _; exact Nat.zero_le _
    | cons t l ih =>
      intro h
      have a := ih fun b hb => h b (List.mem_cons_of_mem _ hb)
      have b := phi_le (Nat.le_trans (rdN_len t.acts i) (h3 t (h t (List.mem_cons_self ..))).2.len)
      simp only [List.map_cons, List.sum_cons, List.length_cons]
      rw [Nat.add_mul, Nat.one_mul, Nat.add_comm]
      exact Nat.add_le_add a b
  exact Nat.le_trans (key p.ths fun t h => h) (Nat.le_trans (Nat.mul_le_mul_right _ h2) (by decide))
/-- where it stops, it stays -/
theorem Stop.fix {p : Pg} (hp : pgB p = true) {i : Nat} (h : Stop p i) : ∀ w ∈ p.ths, rdN (i + 1) w.acts = rdN i w.acts := fun w hw => by
  obtain ⟨g1, g2⟩ := (pgB_iff.1 hp).2.2 w hw
  have hk : w.loc.toNat ≤ 24 := by omega
  have wi := g2.rdN hk i
  exact al_rd ((wi.ai hk).fo (wi.ex hk)) (h w hw)
end Go.Sx
/- opt.Round, opt.Opt: what they tell. -/
namespace Go.Sx
open Go.Dx Go.Proofs
set_option maxRecDepth 10000
theorem ret_ct {m0 m : M} {Q : Value → M → Prop} {t : Tm} {c p : Nat} {a : Addr} {l : List Value} (h1 : Tm.get c t = .pointer (some a)) (h2 : loads m a 2 = some l) (he : Ext m0 m) (hq : Q (.tuple #[.agg ⟨l⟩, Tm.get p t]) m) : Ret m0 Q (resK [.cell c 2, .t p] t m) := by
  refine ret_of (l := [.agg ⟨l⟩, Tm.get p t]) ?_ he hq
  simp only [resV, resOne, h1, vPtr_ptr, ob_some', h2]
theorem ret_ctt {m0 m : M} {Q : Value → M → Prop} {t : Tm} {c p q : Nat} {a : Addr} {l : List Value} (h1 : Tm.get c t = .pointer (some a)) (h2 : loads m a 2 = some l) (he : Ext m0 m) (hq : Q (.tuple #[.agg ⟨l⟩, Tm.get p t, Tm.get q t]) m) : Ret m0 Q (resK [.cell c 2, .t p, .t q] t m) := by
  refine ret_of (l := [.agg ⟨l⟩, Tm.get p t, Tm.get q t]) ?_ he hq
  simp only [resV, resOne, h1, vPtr_ptr, ob_some', h2]
def PgIn (q : Pg) (X : Nat) : Prop := blk q.tv = some X ∨ ∃ t ∈ q.ths, ThIn t X
theorem PgOK.congr {m m' : M} {q : Pg} (h : PgOK m q) (hn : m.n ≤ m'.n) (k : ∀ X, PgIn q X → m'.obj X = m.obj X) : PgOK m' q :=
  ⟨h.tv.congr hn fun B hB => k B (.inl hB), fun t ht => (h.ths t ht).congr hn fun X hX => k X (.inr ⟨t, ht, hX⟩), h.len⟩
theorem PgOK.lt {m : M} {q : Pg} (h : PgOK m q) {X : Nat} (hX : PgIn q X) : X < m.n := by
  rcases hX with hX | ⟨t, ht, hX⟩
  · exact h.tv.lt X hX
  · exact (h.ths t ht).lt hX
/-- what a round leaves -/
structure RdQ (m : M) (p : Pg) (q : Pg) (m' : M) : Prop where
  ok : PgOK m' q
  r : PgR q p
  new : ∀ X, PgIn q X → m.n ≤ X
theorem round_q (N : Nat) (hN : 65560 ≤ N) (m : M) (hm : m.base ≤ m.n) (p : Pg) (hp : PgOK m p) (hx : ∀ t ∈ p.ths, TX t) (hl : p.ths.length ≤ 64) :
    Dx.Call (ex Tryz.prog (N + 4)) 34 [pgV p] m fun v m' => ∃ q : Pg, v = pgV q ∧ RdQ m p q m' := by
  refine (round_c N hN m hm p hp hx hl).mono fun v m' e ⟨q, h1, h2, h3, h4, h5⟩ => ⟨q, h1, h2, h3, fun X hX => ?_⟩
  rcases hX with hX | ⟨t, ht, hX⟩
  · exact h4 X hX
  · exact h5 t ht X hX
def nilPg : Pg := ⟨0, .slice none 0 0, []⟩
theorem pgV_ok {m : M} {p : Pg} (h : PgOK m p) : ∀ v ∈ [iv p.cells, p.tv], Dx.okC v = true := fun v hv => by
  simp at hv
  rcases hv with rfl | rfl
  · rfl
  · exact okC_len h.tv.len
theorem Round_c (N : Nat) (hN : 65560 ≤ N) (m : M) (hm : m.base ≤ m.n) (p : Pg) (hp : PgOK m p) :
    Dx.Call (ex Tryz.prog (N + 5)) 15 [pgV p] m fun v m' => (pgB p = false ∧ v = .tuple #[pgV nilPg, iv 1]) ∨ (pgB p = true ∧ ∃ q : Pg, v = .tuple #[pgV q, iv 0] ∧ RdQ m p q m') := by
  refine call_ret da2_ok (by simp) ?_
  obtain ⟨m1, hm1⟩ : ∃ m1, m1 = Dx.newRow m [iv p.cells, p.tv] := ⟨_, rfl⟩
  obtain ⟨m2, hm2⟩ : ∃ m2, m2 = Dx.newRow m1 zTh := ⟨_, rfl⟩
  have n1 : m1.n = m.n + 1 := by rw [hm1, newRow_n]
  have n2 : m2.n = m.n + 2 := by rw [hm2, newRow_n, n1]
  have st1 := (St.nil hm (Ext.refl m)).row [iv p.cells, p.tv]
  rw [← hm1] at st1
  have st2 := st1.row zTh
  rw [← hm2, n1] at st2
  have bx : boxS (pgV p) m = some (.pointer (some ⟨m.n, 0, none⟩), m1) := by rw [hm1]; rfl
  have l2 : loads m2 ⟨m.n, 0, none⟩ 2 = some [iv p.cells, p.tv] := (st2.get 1 rfl).2.2.loads (by simp)
  have p2 := hp.sees st2.sees
  obtain ⟨v3, m3, c1, c2, rfl⟩ := Whole_c p (N - 1) m2 st2.sees.self.base p2
  rw [show N - 1 + 5 = N + 4 by omega] at c1
  have st3 := st2.step c2
  have pv : (.agg ⟨[iv p.cells, p.tv]⟩ : Value) = pgV p := rfl
  cases hB : pgB p with
  | false =>
    rw [hB] at c1
    obtain ⟨m4, s1, s2, s3, s4⟩ := st3.fill 0 rfl (n := 2) (l' := zTh) rfl rfl (by simp; exact ⟨rfl, rfl⟩)
    have l4 : loads m4 ⟨m.n + 1, 0, none⟩ 2 = some zTh := (s2.get 0 rfl).2.2.loads (by simp)
    have bz : buildV zTh [] = some (.agg ⟨zTh⟩) := rfl
    simp [bx, ← hm2, n1, l2, loadNS_ptr, pv, c1, bz, s1]
    exact ret_ct (a := ⟨m.n + 1, 0, none⟩) (l := zTh) (by simp) l4 s2.ext (by simp; rfl)
  | true =>
    rw [hB] at c1
    obtain ⟨hw, htx, hlen⟩ := (PgK.zero p).whole hB
    have l3 : loads m3 ⟨m.n, 0, none⟩ 2 = some [iv p.cells, p.tv] := (st3.get 1 rfl).2.2.loads (by simp)
    obtain ⟨v4, m4, d1, d2, q, rfl, d3⟩ := round_q N hN m3 st3.sees.self.base p (hp.sees st3.sees) htx hlen
    have st4 := st3.step d2
    obtain ⟨m5, s1, s2, s3, s4⟩ := st4.fill 0 rfl (n := 2) (l' := [iv q.cells, q.tv]) rfl rfl (pgV_ok d3.ok)
    have l5 : loads m5 ⟨m.n + 1, 0, none⟩ 2 = some [iv q.cells, q.tv] := (s2.get 0 rfl).2.2.loads (by simp)
    have s1' : storeS 2 (.pointer (some ⟨m.n + 1, 0, none⟩)) (pgV q) m4 = some (undef, m5) := s1
    have n3 := c2.n
    simp [bx, ← hm2, n1, l2, loadNS_ptr, pv, c1, l3, d1, s1']
    refine ret_ct (a := ⟨m.n + 1, 0, none⟩) (l := [iv q.cells, q.tv]) (by simp) l5 s2.ext ⟨q, by simp; rfl, ?_, d3.r, fun X hX => by have := d3.new X hX; omega⟩
    exact d3.ok.congr (by omega) fun X hX => s4 X (by have := d3.new X hX; omega)
/-- what all rounds leave: so many, and where it stops -/
structure OpQ (m : M) (p : Pg) (n : Nat) (q : Pg) (m' : M) : Prop where
  ok : PgOK m' q
  k : PgK p (n + 1) q
  stop : Stop p n
  first : ∀ i, i < n → ¬ Stop p i
  new : ∀ X, PgIn q X → m.n ≤ X
structure OI (m : M) (p : Pg) (B5 i : Nat) (m' : M) (a q : Pg) : Prop where
  st : St m m' [(B5, [iv q.cells, q.tv]), (m.n + 1, zTh), (m.n, [iv a.cells, a.tv])]
  b5 : m.n + 2 ≤ B5
  pa : PgOK m' a
  pq : PgOK m' q
  ka : PgK p i a
  kq : PgK p (i + 1) q
  na : ∀ X, PgIn a X → X ≠ m.n ∧ X ≠ B5
  nq : ∀ X, PgIn q X → m.n + 2 ≤ X ∧ X ≠ B5
  first : ∀ j, j < i → ¬ Stop p j
  bnd : i = 0 ∨ i + PH p i ≤ 1 + PH p 1
theorem Opt_c (N : Nat) (hN : 65560 ≤ N) (m : M) (hm : m.base ≤ m.n) (p : Pg) (hp : PgOK m p) :
    Dx.Call (ex Tryz.prog (N + 7)) 16 [pgV p] m fun v m' => (pgB p = false ∧ v = .tuple #[pgV nilPg, iv 0, iv 1]) ∨ (pgB p = true ∧ ∃ (n : Nat) (q : Pg), v = .tuple #[pgV q, iv n, iv 0] ∧ OpQ m p n q m') := by
  refine call_ret da3_ok (by simp) ?_
  obtain ⟨m1, hm1⟩ : ∃ m1, m1 = Dx.newRow m [iv p.cells, p.tv] := ⟨_, rfl⟩
  obtain ⟨m2, hm2⟩ : ∃ m2, m2 = Dx.newRow m1 zTh := ⟨_, rfl⟩
  have n1 : m1.n = m.n + 1 := by rw [hm1, newRow_n]
  have n2 : m2.n = m.n + 2 := by rw [hm2, newRow_n, n1]
  have st1 := (St.nil hm (Ext.refl m)).row [iv p.cells, p.tv]
  rw [← hm1] at st1
  have st2 := st1.row zTh
  rw [← hm2, n1] at st2
  have bx : boxS (pgV p) m = some (.pointer (some ⟨m.n, 0, none⟩), m1) := by rw [hm1]; rfl
  have l2 : loads m2 ⟨m.n, 0, none⟩ 2 = some [iv p.cells, p.tv] := (st2.get 1 rfl).2.2.loads (by simp)
  have p2 := hp.sees st2.sees
  have pv : ∀ q : Pg, (.agg ⟨[iv q.cells, q.tv]⟩ : Value) = pgV q := fun q => rfl
  obtain ⟨v3, m3, c1, c2, c3⟩ := Round_c (N + 1) (by omega) m2 st2.sees.self.base p p2
  have st3 := st2.step c2
  obtain ⟨B5, hB5⟩ : ∃ B5, B5 = m3.n := ⟨_, rfl⟩
  have n3 := c2.n
  have st4 := st3.row zTh
  obtain ⟨m4, hm4⟩ : ∃ m4, m4 = Dx.newRow m3 zTh := ⟨_, rfl⟩
  rw [← hm4, ← hB5] at st4
  have e4 : Ext m3 m4 := by rw [hm4]; exact Ext.row _ _
  have n4 : m4.n = B5 + 1 := by rw [hm4, newRow_n, hB5]
  rcases c3 with ⟨hB, rfl⟩ | ⟨hB, q, rfl, c3⟩
  · obtain ⟨m5, s1, s2, s3, s4⟩ := st4.fill 0 rfl (n := 2) (l' := zTh) rfl rfl (by simp; exact ⟨rfl, rfl⟩)
    have st5 : St m m5 [(B5, zTh), (m.n + 1, zTh), (m.n, [iv p.cells, p.tv])] := s2
    have l5 : loads m5 ⟨B5, 0, none⟩ 2 = some zTh := (st5.get 0 rfl).2.2.loads (by simp)
    obtain ⟨m6, r1, r2, r3, r4⟩ := st5.fill 1 rfl (n := 2) (l' := zTh) rfl rfl (by simp; exact ⟨rfl, rfl⟩)
    have l6 : loads m6 ⟨m.n + 1, 0, none⟩ 2 = some zTh := (r2.get 1 rfl).2.2.loads (by simp)
    have s1' : storeS 2 (.pointer (some ⟨B5, 0, none⟩)) (pgV nilPg) m4 = some (undef, m5) := s1
    simp [bx, ← hm2, n1, l2, loadNS_ptr, pv, c1, ← hm4, ← hB5, s1', l5, r1]
    exact ret_ctt (a := ⟨m.n + 1, 0, none⟩) (l := zTh) (by simp) l6 r2.ext (.inl ⟨hB, by simp; rfl⟩)
  · obtain ⟨m5, s1, s2, s3, s4⟩ := st4.fill 0 rfl (n := 2) (l' := [iv q.cells, q.tv]) rfl rfl (pgV_ok c3.ok)
    have st5 : St m m5 [(B5, [iv q.cells, q.tv]), (m.n + 1, zTh), (m.n, [iv p.cells, p.tv])] := s2
    have s1' : storeS 2 (.pointer (some ⟨B5, 0, none⟩)) (pgV q) m4 = some (undef, m5) := s1
    have hlen := PH_le hB 1
    have q5 : PgOK m5 q := (c3.ok.congr e4.n fun X hX => e4.obj X (c3.ok.lt hX)).congr (by omega) fun X hX => s4 X (by have := c3.ok.lt hX; omega)
    have h0 : OI m p B5 0 m5 p q := ⟨st5, by omega, hp.sees st5.sees, q5, PgK.zero p, (PgK.zero p).next c3.r, fun X hX => by have := hp.lt hX; omega, fun X hX => ⟨by have := c3.new X hX; omega, by have := c3.ok.lt hX; omega⟩, fun j hj => absurd hj (Nat.not_lt_zero _), .inl rfl⟩
    simp [bx, ← hm2, n1, l2, loadNS_ptr, pv, c1, ← hm4, ← hB5, s1']
    refine loop_run (c := ca3_9) rfl (Ret m _) (fun i t m' => Tm.get 1 t = .pointer (some ⟨m.n, 0, none⟩) ∧ Tm.get 2 t = .pointer (some ⟨m.n + 1, 0, none⟩) ∧ Tm.get 5 t = .pointer (some ⟨B5, 0, none⟩) ∧ Tm.get 7 t = iv i ∧ ∃ a q, OI m p B5 i m' a q) (2 + PH p 1) (by omega) ?_ (fun i t m' k hi hI hk => ?_)
    · exact ⟨by simp, by simp, by simp, by simp, p, q, h0⟩
    clear h0 q5 s1' st5 s2 s1 c3 c1 q
    obtain ⟨t1, t2, t5, t7, a, q, hI⟩ := hI
    have la : loads m' ⟨m.n, 0, none⟩ 2 = some [iv a.cells, a.tv] := (hI.st.get 2 rfl).2.2.loads (by simp)
    have lq : loads m' ⟨B5, 0, none⟩ 2 = some [iv q.cells, q.tv] := (hI.st.get 0 rfl).2.2.loads (by simp)
    obtain ⟨v6, m6, d1, d2, rfl⟩ := alike_c a q N m' hI.st.sees.self.base hI.pa hI.pq
    have st6 := hI.st.step d2
    have lq6 : loads m6 ⟨B5, 0, none⟩ 2 = some [iv q.cells, q.tv] := (st6.get 0 rfl).2.2.loads (by simp)
    have a6 : PgOK m6 a := hI.pa.congr d2.n fun X hX => d2.obj X (hI.pa.lt hX)
    have q6 : PgOK m6 q := hI.pq.congr d2.n fun X hX => d2.obj X (hI.pq.lt hX)
    by_cases hs : Stop p i
    · rw [deB_t ((hI.ka.al hI.kq).2 hs)] at d1
      obtain ⟨m7, r1, r2, r3, r4⟩ := st6.fill 1 rfl (n := 2) (l' := [iv q.cells, q.tv]) rfl rfl (pgV_ok q6)
      have l7 : loads m7 ⟨m.n + 1, 0, none⟩ 2 = some [iv q.cells, q.tv] := (r2.get 1 rfl).2.2.loads (by simp)
      have r1' : storeS 2 (.pointer (some ⟨m.n + 1, 0, none⟩)) (pgV q) m6 = some (undef, m7) := r1
      simp [t1, t2, t5, t7, la, lq, loadNS_ptr, pv, d1, lq6, r1']
      refine ret_ctt (a := ⟨m.n + 1, 0, none⟩) (l := [iv q.cells, q.tv]) (by simp [t2]) l7 r2.ext (.inr ⟨hB, i, q, by simp; rfl, ?_, hI.kq, hs, hI.first, fun X hX => by have := (hI.nq X hX).1; omega⟩)
      exact q6.congr (by omega) fun X hX => r4 X (by have := (hI.nq X hX).1; omega)
    · rw [deB_f fun h => hs ((hI.ka.al hI.kq).1 h)] at d1
      obtain ⟨hw, htx, hlq⟩ := hI.kq.whole hB
      have q6' : PgOK (forAny m6) q := q6.congr (by rw [forAny_n]; exact Nat.le_refl _) fun X _ => forAny_obj m6 X
      obtain ⟨v7, m7', f1, f2, f3, r, hvr, f4⟩ := any_call (round_q (N + 2) (by omega) (forAny m6) (by rw [forAny_n, forAny_base]; exact Nat.le_refl _) q q6' htx hlq)
      subst hvr
      obtain ⟨m7, hm7⟩ : ∃ m7, m7 = Dx.behind m6 m7' := ⟨_, rfl⟩
      rw [← hm7] at f3
      have st7 := st6.step f3
      have r7 : PgOK m7 r := by rw [hm7]; exact f4.ok.congr (by rw [behind_n]; exact Nat.le_refl _) fun X _ => behind_obj _ _ _
      have rn : ∀ X, PgIn r X → m6.n ≤ X := fun X hX => by have := f4.new X hX; rwa [forAny_n] at this
      obtain ⟨m8', g1, g2, g3, g4, g5⟩ := st7.fillAny 2 rfl (n := 2) (l' := [iv q.cells, q.tv]) (by omega) rfl rfl (pgV_ok q6)
      obtain ⟨m8, hm8⟩ : ∃ m8, m8 = Dx.behind m7 m8' := ⟨_, rfl⟩
      rw [← hm8] at g3 g4 g5
      have st8 : St m m8 [(B5, [iv q.cells, q.tv]), (m.n + 1, zTh), (m.n, [iv q.cells, q.tv])] := g3
      obtain ⟨m9', j1, j2, j3, j4, j5⟩ := st8.fillAny 0 rfl (n := 2) (l' := [iv r.cells, r.tv]) (by omega) rfl rfl (pgV_ok r7)
      obtain ⟨m9, hm9⟩ : ∃ m9, m9 = Dx.behind m8 m9' := ⟨_, rfl⟩
      rw [← hm9] at j3 j4 j5
      have g1' : storeS 2 (.pointer (some ⟨m.n, 0, none⟩)) (pgV q) (forAny m7) = some (undef, m8') := g1
      have j1' : storeS 2 (.pointer (some ⟨B5, 0, none⟩)) (pgV r) (forAny m8) = some (undef, m9') := j1
      obtain ⟨i1, hi1⟩ : ∃ x, x = i + 1 := ⟨_, rfl⟩
      have w1 : IntKind.i64.wrap ((i : Int) + 1) = (i1 : Int) := by rw [wrap64 _ (by omega) (by omega)]; omega
      have hd : i < 2 + PH p 1 := by
        rcases hI.bnd with h | h <;> omega
      have hkr : PgK p (i + 1 + 1) r := hI.kq.next f4.r
      have hbn : i + 1 + PH p (i + 1) ≤ 1 + PH p 1 := by
        rcases hI.bnd with h | h
        · subst h; show 0 + 1 + PH p 1 ≤ 1 + PH p 1; omega
        · by_cases h0 : i = 0
          · subst h0; show 0 + 1 + PH p 1 ≤ 1 + PH p 1; omega
          · have := PH_step hB (show 1 ≤ i by omega) hs; omega
      have hb5 := (st6.get 0 rfl).2.1
      have m69 : ∀ X, X ≠ m.n → X ≠ B5 → X < m6.n → m9.obj X = m6.obj X := fun X h1 h2 h3 => by rw [j5 X h2, g5 X h1, f3.obj X h3]
      have n67 := f3.n
      have hnext : OI m p B5 (i + 1) m9 q r := by
        refine ⟨j3, hI.b5, q6.congr (by omega) fun X hX => m69 X (by have := (hI.nq X hX).1; omega) (hI.nq X hX).2 (q6.lt hX), r7.congr (by omega) fun X hX => ?_, hI.kq, hkr, fun X hX => ⟨by have := (hI.nq X hX).1; omega, (hI.nq X hX).2⟩, fun X hX => ?_, fun j hj => ?_, .inr hbn⟩
        · have := rn X hX
          have := hI.b5
          rw [j5 X (by omega), g5 X (by omega)]
        · have := rn X hX
          have := hI.b5
          exact ⟨by omega, by omega⟩
        · by_cases hji : j < i
          · exact hI.first j hji
          · obtain rfl : j = i := by omega
            exact hs
      rw [← hi1] at hk hnext
      simp [t1, t2, t5, t7, la, lq, loadNS_ptr, pv, d1, lq6, f1, f2, ← hm7, g1', ← hm8, j1', ← hm9, w1]
      exact hk hd _ _ ⟨by simp [t1], by simp [t2], by simp [t5], by simp, q, r, hnext⟩
end Go.Sx
/- The reference's answer whether a program is whole: its small functions. -/
namespace Go.Sx
open Go.Dx Go.Proofs
set_option maxRecDepth 10000
theorem May_c (n : Nat) (op mode : Int) (m : M) : CallV (ex Tryz.prog (n + 1)) 69 [iv op, iv mode] m (.bool (mayB op mode)) := by
  refine call_ret dc8_ok (by simp) ?_
  have E := Ext.refl m
  by_cases h2 : op = 2
  · subst h2
    by_cases q1 : mode = 1
    · subst q1; simp; exact ret_1 E (by simp [mayB])
    by_cases q2 : mode = 2
    · subst q2; simp; exact ret_1 E (by simp [mayB])
    simp [q1, q2]; exact ret_1 E (by simp [mayB, q1, q2])
  by_cases h3 : op = 3
  · subst h3
    by_cases q1 : mode = 1
    · subst q1; simp; exact ret_1 E (by simp [mayB])
    by_cases q2 : mode = 3
    · subst q2; simp; exact ret_1 E (by simp [mayB])
    simp [q1, q2]; exact ret_1 E (by simp [mayB, q1, q2])
  by_cases h4 : op = 4
  · subst h4
    by_cases q1 : 1 ≤ mode
    · have q1' : (1 ≤ mode) = True := eq_true q1
      simp [q1']; exact ret_1 E (by simp [mayB, q1'])
    · have q1' : (1 ≤ mode) = False := eq_false q1
      simp [q1']; exact ret_1 E (by simp [mayB, q1'])
  by_cases h5 : op = 5
  · subst h5
    by_cases q1 : 1 ≤ mode
    · have q1' : (1 ≤ mode) = True := eq_true q1
      simp [q1']; exact ret_1 E (by simp [mayB, q1'])
    · have q1' : (1 ≤ mode) = False := eq_false q1
      simp [q1']; exact ret_1 E (by simp [mayB, q1'])
  by_cases h6 : op = 6
  · subst h6
    by_cases q1 : 1 ≤ mode
    · have q1' : (1 ≤ mode) = True := eq_true q1
      simp [q1']; exact ret_1 E (by simp [mayB, q1'])
    · have q1' : (1 ≤ mode) = False := eq_false q1
      simp [q1']; exact ret_1 E (by simp [mayB, q1'])
  by_cases h7 : op = 7
  · subst h7
    by_cases q1 : 2 ≤ mode
    · have q1' : (2 ≤ mode) = True := eq_true q1
      simp [q1']; exact ret_1 E (by simp [mayB, q1'])
    · have q1' : (2 ≤ mode) = False := eq_false q1
      simp [q1']; exact ret_1 E (by simp [mayB, q1'])
  simp [h2, h3, h4, h5, h6, h7]; exact ret_1 E (by simp [mayB, h2, h3, h4, h5, h6, h7])
theorem sets_c (n : Nat) (op : Int) (m : M) : CallV (ex Tryz.prog (n + 1)) 70 [iv op] m (.bool (pD op)) := by
  refine call_ret dc9_ok (by simp) ?_
  have E := Ext.refl m
  by_cases h1 : op = 1
  · subst h1; simp; exact ret_1 E (by simp [pD])
  by_cases h2 : op = 2
  · subst h2; simp; exact ret_1 E (by simp [pD])
  by_cases h3 : op = 4
  · subst h3; simp; exact ret_1 E (by simp [pD])
  by_cases h4 : op = 5
  · subst h4; simp; exact ret_1 E (by simp [pD])
  have d1 : decide (op = 1) = false := decide_eq_false h1
  have d2 : decide (op = 2) = false := decide_eq_false h2
  have d3 : decide (op = 4) = false := decide_eq_false h3
  have d4 : decide (op = 5) = false := decide_eq_false h4
  simp [d1, d2, d3, d4]
  exact ret_1 E (by simp [pD, h1, h2, h3, h4])
theorem placed_c (n : Nat) (op : Int) (m : M) : CallV (ex Tryz.prog (n + 1)) 71 [iv op] m (.bool (pP op)) := by
  refine call_ret dd0_ok (by simp) ?_
  have E := Ext.refl m
  by_cases h1 : op = 2
  · subst h1; simp; exact ret_1 E (by simp [pP])
  by_cases h2 : op = 3
  · subst h2; simp; exact ret_1 E (by simp [pP])
  by_cases h3 : op = 4
  · subst h3; simp; exact ret_1 E (by simp [pP])
  by_cases h4 : op = 5
  · subst h4; simp; exact ret_1 E (by simp [pP])
  have d1 : decide (op = 2) = false := decide_eq_false h1
  have d2 : decide (op = 3) = false := decide_eq_false h2
  have d3 : decide (op = 4) = false := decide_eq_false h3
  have d4 : decide (op = 5) = false := decide_eq_false h4
  simp [d1, d2, d3, d4]
  exact ret_1 E (by simp [pP, h1, h2, h3, h4])
/-- is it a power of two, at most 1024? -/
def powB (n : Int) : Bool := decide (0 < n ∧ n ≤ 1024) && decide (n.toNat &&& (n.toNat - 1) = 0)
theorem pow_all : ∀ n : Nat, n < 1025 → (0 < n ∧ n &&& (n - 1) = 0 ↔ ∃ i, i < 11 ∧ n = 2 ^ i) := by decide +kernel
theorem powB_iff (n : Int) : powB n = true ↔ ∃ i : Nat, i < 11 ∧ n = ((2 ^ i : Nat) : Int) := by
  unfold powB
  simp only [Bool.and_eq_true, decide_eq_true_eq]
  constructor
  · rintro ⟨⟨h1, h2⟩, h3⟩
    obtain ⟨i, hi, he⟩ := (pow_all n.toNat (by omega)).1 ⟨by omega, h3⟩
    exact ⟨i, hi, by omega⟩
  · rintro ⟨i, hi, he⟩
    have hp : 2 ^ i ≤ 2 ^ 10 := Nat.pow_le_pow_right (by omega) (by omega)
    have hp0 : 0 < 2 ^ i := Nat.pow_pos (by omega)
    have hn : n.toNat = 2 ^ i := by omega
    have := (pow_all n.toNat (by omega)).2 ⟨i, hi, hn⟩
    exact ⟨⟨by omega, by omega⟩, this.2⟩
theorem Power_c (N : Nat) (n : Int) (m : M) : CallV (ex Tryz.prog (N + 1)) 72 [iv n] m (.bool (powB n)) := by
  refine call_ret dd1_ok (by simp) ?_
  simp
  refine loop_run (c := cd1_9) rfl (Ret m _) (fun i t m3 => m3 = m ∧ Tm.get 0 t = iv n ∧ Tm.get 3 t = iv ((2 ^ i : Nat) : Int) ∧ ∀ j, j < i → n ≠ ((2 ^ j : Nat) : Int)) 11 (by omega)
    ⟨rfl, by simp, by simp, fun j hj => by omega⟩ (fun i t m3 kk hi hI hk => ?_)
  obtain ⟨rfl, t0, t3, hne⟩ := hI
  obtain ⟨p, hp⟩ : ∃ p : Nat, p = 2 ^ i := ⟨_, rfl⟩
  rw [← hp] at t3
  have hpl : p ≤ 2 ^ 11 := by rw [hp]; exact Nat.pow_le_pow_right (by omega) hi
  by_cases hil : i < 11
  · have hpl : p ≤ 2 ^ 10 := by rw [hp]; exact Nat.pow_le_pow_right (by omega) (by omega)
    have e1 : ((p : Int) ≤ 1024) = True := eq_true (by omega)
    have e1' : (p ≤ 1024) = True := eq_true (by omega)
    by_cases hq : (p : Int) = n
    · have dq : decide ((p : Int) = n) = true := decide_eq_true hq
      have hB : powB n = true := (powB_iff n).2 ⟨i, hil, by rw [← hq, hp]⟩
      rw [hB]
      simp [t0, t3, e1, e1', dq]
      exact ret_1 (Ext.refl _) (by simp)
    · have dq : decide ((p : Int) = n) = false := decide_eq_false hq
      obtain ⟨q, hqq⟩ : ∃ q : Nat, q = 2 ^ (i + 1) := ⟨_, rfl⟩
      have w : wrapF .i64 ((p : Int) * 2) = (q : Int) := by rw [wrapF_eq, wrap64 _ (by omega) (by omega), hqq, Nat.pow_succ, ← hp]; omega
      simp [t0, t3, e1, e1', dq, w]
      refine hk hil _ _ ⟨rfl, by simp [t0], by rw [← hqq]; simp; exact w, fun j hj => ?_⟩
      rcases Nat.lt_or_ge j i with h | h
      · exact hne j h
      · obtain rfl : j = i := by omega
        rw [← hp]; exact fun h => hq h.symm
  · obtain rfl : i = 11 := by omega
    have hB : powB n = false := by
      cases hc : powB n with
      | false => rfl
      | true => obtain ⟨j, hj, he⟩ := (powB_iff n).1 hc; exact absurd he (hne j hj)
    have hp' : p = 2048 := by rw [hp]
    subst hp'
    rw [hB]
    simp [t0, t3]
    exact ret_1 (Ext.refl _) (by simp)
end Go.Sx
namespace Go.Sx
open Go.Dx Go.Proofs
set_option maxRecDepth 10000
abbrev rwS (A3 A4 A5 : Nat) (a : Ac) (cells : Int) (tv : Value) (k : Nat) (av : Value) : List (Nat × List Value) := [(A5, [iv k, av]), (A4, [iv cells, tv]), (A3, acRow a)]
structure WR (t : Tm) (A3 A4 A5 : Nat) : Prop where
  t3 : Tm.get 3 t = .pointer (some ⟨A3, 0, none⟩)
  t4 : Tm.get 4 t = .pointer (some ⟨A4, 0, none⟩)
  t5 : Tm.get 5 t = .pointer (some ⟨A5, 0, none⟩)
def eB (e : Bool) (k : Nat) (es : List Nd) : Bool := if e then exprB k es else decide (es.length = 0)
section
variable {m0 m : M} {A3 A4 A5 : Nat} {a : Ac} {cells : Int} {tv av : Value} {k na : Nat} {t : Tm}
/-- the local that is set -/
theorem rb1 (hst : St m0 m (rwS A3 A4 A5 a cells tv k av)) (hT : WR t A3 A4 A5) {N : Nat} {kn kr : K} {ke : Nat → K} {Q : Option Out → Prop}
    (H1 : dstB (pD a.op) k a.dst = false → ∀ t' m', Tm.get 6 t' = .bool false → Ext m m' → Q (kr t' m'))
    (H2 : dstB (pD a.op) k a.dst = true → ∀ t' m', WR t' A3 A4 A5 → Ext m m' → Q (kn t' m')) : Q (cb5_6 (ex Tryz.prog (N + 2)) kn ke kr t m) := by
  have la : ∀ o s, load1 m ⟨A3, o, s⟩ = (acRow a)[o]? := fun o s => (hst.get 2 rfl).2.2.load1 o s
  have lt : ∀ o s, load1 m ⟨A5, o, s⟩ = [iv k, av][o]? := fun o s => (hst.get 0 rfl).2.2.load1 o s
  obtain ⟨t3, t4, t5⟩ := hT
  obtain ⟨v1, m1, c1, c2, rfl⟩ := sets_c (N + 1) a.op m
  have st1 := hst.step c2
  have la1 : ∀ o s, load1 m1 ⟨A3, o, s⟩ = (acRow a)[o]? := fun o s => (st1.get 2 rfl).2.2.load1 o s
  have lt1 : ∀ o s, load1 m1 ⟨A5, o, s⟩ = [iv k, av][o]? := fun o s => (st1.get 0 rfl).2.2.load1 o s
  obtain ⟨v2, m2, d1, d2, rfl⟩ := sets_c (N + 1) a.op m1
  have st2 := st1.step d2
  have la2 : ∀ o s, load1 m2 ⟨A3, o, s⟩ = (acRow a)[o]? := fun o s => (st2.get 2 rfl).2.2.load1 o s
  simp only [acRow] at la la1 la2
  cases hd : pD a.op with
  | true =>
    rw [hd] at c1 d1 H1 H2
    by_cases h1 : a.dst < 0
    · have e1 : (a.dst < 0) = True := eq_true h1
      have hb : dstB true k a.dst = false := decide_eq_false (by omega)
      simp [la, la1, lt1, t3, t4, t5, c1, e1]
      exact H1 hb _ _ (by simp) c2
    have e1 : (a.dst < 0) = False := eq_false h1
    by_cases h2 : (k : Int) ≤ a.dst
    · have e2 : ((k : Int) ≤ a.dst) = True := eq_true h2
      have hb : dstB true k a.dst = false := decide_eq_false (by omega)
      simp [la, la1, lt1, t3, t4, t5, c1, e1, e2]
      exact H1 hb _ _ (by simp) c2
    have e2 : ((k : Int) ≤ a.dst) = False := eq_false h2
    have hb : dstB true k a.dst = true := decide_eq_true (by omega)
    simp [la, la1, lt1, t3, t4, t5, c1, d1, e1, e2]
    exact H2 hb _ _ ⟨by simp [t3], by simp [t4], by simp [t5]⟩ (c2.trans d2)
  | false =>
    rw [hd] at c1 d1 H1 H2
    by_cases h1 : a.dst = 0
    · have e1 : decide (a.dst = 0) = true := decide_eq_true h1
      have hb : dstB false k a.dst = true := e1
      simp [la, la1, la2, lt1, t3, t4, t5, c1, d1, e1]
      exact H2 hb _ _ ⟨by simp [t3], by simp [t4], by simp [t5]⟩ (c2.trans d2)
    · have e1 : decide (a.dst = 0) = false := decide_eq_false h1
      have hb : dstB false k a.dst = false := e1
      simp [la, la1, la2, lt1, t3, t4, t5, c1, d1, e1]
      exact H1 hb _ _ (by simp) (c2.trans d2)
/-- the place, behind its size -/
theorem rb2 (hst : St m0 m (rwS A3 A4 A5 a cells tv k av)) (hT : WR t A3 A4 A5) (hk : k < 1000000) (ha : AcOK m a) (hc0 : 0 ≤ cells) (hc1 : cells ≤ 4096) {n7 : Int} (h7 : 1 ≤ n7 ∧ n7 ≤ 1024) (h70 : ¬ a.size = 0 → 0 < a.size) (t7 : Tm.get 7 t = iv n7) {N : Nat} {kn kr : K} {ke : Nat → K} {Q : Option Out → Prop}
    (H1 : (decide (0 ≤ a.base ∧ a.base ≤ cells - n7) && (if a.size = 0 then decide (a.ixs.length = 0) else exprB k a.ixs)) = false → ∀ t' m', Tm.get 6 t' = .bool false → Ext m m' → Q (kr t' m'))
    (H2 : (decide (0 ≤ a.base ∧ a.base ≤ cells - n7) && (if a.size = 0 then decide (a.ixs.length = 0) else exprB k a.ixs)) = true → ∀ t' m', WR t' A3 A4 A5 → Ext m m' → Q (kn t' m')) : Q (cb5_14 (ex Tryz.prog (N + 2)) kn ke kr t m) := by
  have la : ∀ o s, load1 m ⟨A3, o, s⟩ = (acRow a)[o]? := fun o s => (hst.get 2 rfl).2.2.load1 o s
  have lt : ∀ o s, load1 m ⟨A5, o, s⟩ = [iv k, av][o]? := fun o s => (hst.get 0 rfl).2.2.load1 o s
  have lp : ∀ o s, load1 m ⟨A4, o, s⟩ = [iv cells, tv][o]? := fun o s => (hst.get 1 rfl).2.2.load1 o s
  obtain ⟨t3, t4, t5⟩ := hT
  have hil : lenS a.ix = some (.int .i64 (a.ixs.length : Int)) := ha.ix.len
  obtain ⟨v1, m1, c1, c2, rfl⟩ := Expression_c k hk a.ixs a.ix ha.ixl (N + 1) m hst.sees.self.base ha.ix
  simp only [acRow] at la
  obtain ⟨q, hq⟩ : ∃ q, q = cells - n7 := ⟨_, rfl⟩
  have hw : IntKind.i64.wrap (cells - n7) = q := by rw [wrap64 _ (by omega) (by omega), hq]
  rw [← hq] at H1 H2
  by_cases h1 : a.base < 0
  · have e1 : (a.base < 0) = True := eq_true h1
    simp [la, lt, lp, t3, t4, t5, t7, e1]
    exact H1 (by rw [decide_eq_false (by omega)]; rfl) _ _ (by simp) (Ext.refl m)
  have e1 : (a.base < 0) = False := eq_false h1
  by_cases h2 : q < a.base
  · have e2 : (q < a.base) = True := eq_true h2
    simp [la, lt, lp, t3, t4, t5, t7, e1, hw, e2]
    exact H1 (by rw [decide_eq_false (by omega)]; rfl) _ _ (by simp) (Ext.refl m)
  have e2 : (q < a.base) = False := eq_false h2
  rw [decide_eq_true (show 0 ≤ a.base ∧ a.base ≤ q by omega), Bool.true_and] at H1 H2
  by_cases h3 : a.size = 0
  · have d3 : decide (a.size = 0) = true := decide_eq_true h3
    have e3 : (0 < a.size) = False := eq_false (by omega)
    rw [if_pos h3] at H1 H2
    obtain ⟨n, hn⟩ : ∃ n, n = a.ixs.length := ⟨_, rfl⟩
    rw [← hn] at hil H1 H2
    by_cases h4 : n = 0
    · have e4 : ((0 : Int) < (n : Int)) = False := eq_false (by omega)
      have e4' : (0 < n) = False := eq_false (by omega)
      simp [la, lt, lp, t3, t4, t5, t7, e1, hw, e2, d3, hil, e4, e4', e3]
      exact H2 (decide_eq_true h4) _ _ ⟨by simp [t3], by simp [t4], by simp [t5]⟩ (Ext.refl m)
    · have e4 : ((0 : Int) < (n : Int)) = True := eq_true (by omega)
      have e4' : (0 < n) = True := eq_true (by omega)
      simp [la, lt, lp, t3, t4, t5, t7, e1, hw, e2, d3, hil, e4, e4', e3]
      exact H1 (decide_eq_false h4) _ _ (by simp) (Ext.refl m)
  · have d3 : decide (a.size = 0) = false := decide_eq_false h3
    have e3 : (0 < a.size) = True := eq_true (h70 h3)
    rw [if_neg h3] at H1 H2
    cases hb : exprB k a.ixs with
    | true =>
      rw [hb] at c1 H1 H2
      simp [la, lt, lp, t3, t4, t5, t7, e1, hw, e2, d3, hil, e3, c1]
      exact H2 rfl _ _ ⟨by simp [t3], by simp [t4], by simp [t5]⟩ c2
    | false =>
      rw [hb] at c1 H1 H2
      simp [la, lt, lp, t3, t4, t5, t7, e1, hw, e2, d3, hil, e3, c1]
      exact H1 rfl _ _ (by simp) c2
/-- the place -/
theorem rb3 (hst : St m0 m (rwS A3 A4 A5 a cells tv k av)) (hT : WR t A3 A4 A5) (hk : k < 1000000) (ha : AcOK m a) (hc0 : 0 ≤ cells) (hc1 : cells ≤ 4096) {N : Nat} {kn kr : K} {ke : Nat → K} {Q : Option Out → Prop}
    (H1 : plB (pP a.op) cells k a = false → ∀ t' m', Tm.get 6 t' = .bool false → Ext m m' → Q (kr t' m'))
    (H2 : plB (pP a.op) cells k a = true → ∀ t' m', WR t' A3 A4 A5 → Ext m m' → Q (kn t' m')) : Q (cb5_21 (ex Tryz.prog (N + 2)) kn ke kr t m) := by
  have la : ∀ o s, load1 m ⟨A3, o, s⟩ = (acRow a)[o]? := fun o s => (hst.get 2 rfl).2.2.load1 o s
  obtain ⟨t3, t4, t5⟩ := hT
  obtain ⟨v1, m1, c1, c2, rfl⟩ := placed_c (N + 1) a.op m
  have st1 := hst.step c2
  have la1 : ∀ o s, load1 m1 ⟨A3, o, s⟩ = (acRow a)[o]? := fun o s => (st1.get 2 rfl).2.2.load1 o s
  have ha1 := ha.sees (hst.sees.self.ext c2)
  have hil : lenS a.ix = some (.int .i64 (a.ixs.length : Int)) := ha.ix.len
  simp only [acRow] at la la1
  cases hp : pP a.op with
  | false =>
    rw [hp] at c1 H1 H2
    have hb : plB false cells k a = decide (a.base = 0 ∧ a.size = 0 ∧ a.ixs.length = 0) := rfl
    rw [hb] at H1 H2
    obtain ⟨n, hn⟩ : ∃ n, n = a.ixs.length := ⟨_, rfl⟩
    rw [← hn] at hil H1 H2
    by_cases h1 : a.base = 0
    · have d1 : decide (a.base = 0) = true := decide_eq_true h1
      by_cases h2 : a.size = 0
      · have d2 : decide (a.size = 0) = true := decide_eq_true h2
        by_cases h4 : n = 0
        · have e4 : ((0 : Int) < (n : Int)) = False := eq_false (by omega)
          have e4' : (0 < n) = False := eq_false (by omega)
          simp [la, la1, t3, t4, t5, c1, d1, d2, hil, e4, e4']
          exact H2 (decide_eq_true ⟨h1, h2, h4⟩) _ _ ⟨by simp [t3], by simp [t4], by simp [t5]⟩ c2
        · have e4 : ((0 : Int) < (n : Int)) = True := eq_true (by omega)
          have e4' : (0 < n) = True := eq_true (by omega)
          simp [la, la1, t3, t4, t5, c1, d1, d2, hil, e4, e4']
          exact H1 (decide_eq_false fun h => h4 h.2.2) _ _ (by simp) c2
      · have d2 : decide (a.size = 0) = false := decide_eq_false h2
        simp [la, la1, t3, t4, t5, c1, d1, d2]
        exact H1 (decide_eq_false fun h => h2 h.2.1) _ _ (by simp) c2
    · have d1 : decide (a.base = 0) = false := decide_eq_false h1
      simp [la, la1, t3, t4, t5, c1, d1]
      exact H1 (decide_eq_false fun h => h1 h.1) _ _ (by simp) c2
  | true =>
    rw [hp] at c1 H1 H2
    have hb : plB true cells k a = (decide (0 ≤ a.size ∧ a.size ≤ 1024) && decide (a.size.toNat &&& (a.size.toNat - 1) = 0) && decide (0 ≤ a.base ∧ a.base ≤ cells - max 1 a.size) && (if a.size = 0 then decide (a.ixs.length = 0) else exprB k a.ixs)) := rfl
    by_cases h3 : a.size = 0
    · have d3 : decide (a.size = 0) = true := decide_eq_true h3
      have hb' : plB true cells k a = (decide (0 ≤ a.base ∧ a.base ≤ cells - 1) && (if a.size = 0 then decide (a.ixs.length = 0) else exprB k a.ixs)) := by
        rw [hb, decide_eq_true (show 0 ≤ a.size ∧ a.size ≤ 1024 by omega), show max 1 a.size = 1 by omega, show a.size.toNat = 0 by omega]; simp
      rw [hb'] at H1 H2
      simp [la, la1, t3, t4, t5, c1, d3, -cb5_14_ap]
      exact rb2 st1 ⟨by simp [t3], by simp [t4], by simp [t5]⟩ hk ha1 hc0 hc1 (n7 := 1) (by omega) (fun h => absurd h3 h) (by simp) (fun h t' m' x e => H1 h t' m' x (c2.trans e)) (fun h t' m' x e => H2 h t' m' x (c2.trans e))
    · have d3 : decide (a.size = 0) = false := decide_eq_false h3
      obtain ⟨v2, m2, d1, d2, rfl⟩ := Power_c (N + 1) a.size m1
      have st2 := st1.step d2
      have la2 : ∀ o s, load1 m2 ⟨A3, o, s⟩ = (acRow a)[o]? := fun o s => (st2.get 2 rfl).2.2.load1 o s
      have hpw : powB a.size = (decide (0 < a.size ∧ a.size ≤ 1024) && decide (a.size.toNat &&& (a.size.toNat - 1) = 0)) := rfl
      cases hw : powB a.size with
      | false =>
        have hb' : plB true cells k a = false := by
          rw [hb, show decide (0 ≤ a.size ∧ a.size ≤ 1024) = decide (0 < a.size ∧ a.size ≤ 1024) from decide_eq_decide.2 (by omega), ← hpw, hw]; rfl
        rw [hw] at d1
        simp [la, la1, t3, t4, t5, c1, d3, d1]
        exact H1 hb' _ _ (by simp) (c2.trans d2)
      | true =>
        have hs : 0 < a.size ∧ a.size ≤ 1024 := by
          have := hpw; rw [hw] at this
          have := this.symm
          simp only [Bool.and_eq_true, decide_eq_true_eq] at this
          exact this.1
        have hb' : plB true cells k a = (decide (0 ≤ a.base ∧ a.base ≤ cells - a.size) && (if a.size = 0 then decide (a.ixs.length = 0) else exprB k a.ixs)) := by
          rw [hb, show decide (0 ≤ a.size ∧ a.size ≤ 1024) = decide (0 < a.size ∧ a.size ≤ 1024) from decide_eq_decide.2 (by omega), ← hpw, hw, Bool.true_and, show max 1 a.size = a.size by omega]
        rw [hb'] at H1 H2
        rw [hw] at d1
        simp [la, la1, t3, t4, t5, c1, d3, d1, -cb5_14_ap]
        exact rb2 st2 ⟨by simp [t3], by simp [t4], by simp [t5]⟩ hk (ha1.sees (st1.sees.self.ext d2)) hc0 hc1 (n7 := a.size) (by omega) (fun _ => hs.1) (by simp) (fun h t' m' x e => H1 h t' m' x ((c2.trans d2).trans e)) (fun h t' m' x e => H2 h t' m' x ((c2.trans d2).trans e))
end
end Go.Sx
namespace Go.Sx
open Go.Dx Go.Proofs
set_option maxRecDepth 10000
section
variable {m0 m : M} {A3 A4 A5 : Nat} {a : Ac} {cells : Int} {tv av : Value} {k na : Nat} {t : Tm}
/-- does it have an expression? -/
theorem rb4 (hst : St m0 m (rwS A3 A4 A5 a cells tv k av)) (hT : WR t A3 A4 A5) (hop : 1 ≤ a.op ∧ a.op ≤ 10) {x : Ex} {kn kr : K} {ke : Nat → K} {Q : Option Out → Prop}
    (H : ∀ t', Tm.get 8 t' = .bool (pE a.op) → WR t' A3 A4 A5 → Q (cb5_34 x kn ke kr t' m)) : Q (cb5_35 x kn ke kr t m) := by
  have la : ∀ o s, load1 m ⟨A3, o, s⟩ = (acRow a)[o]? := fun o s => (hst.get 2 rfl).2.2.load1 o s
  obtain ⟨t3, t4, t5⟩ := hT
  simp only [acRow] at la
  by_cases h2 : a.op = 2
  · have d2 : decide (a.op = 2) = true := decide_eq_true h2
    have hp : pE a.op = false := by unfold pE; exact decide_eq_false (by omega)
    rw [hp] at H
    simp [la, t3, d2, -cb5_34_ap]
    exact H _ (by simp) ⟨by simp [t3], by simp [t4], by simp [t5]⟩
  have d2 : decide (a.op = 2) = false := decide_eq_false h2
  by_cases h7 : a.op = 7
  · have d7 : decide (a.op = 7) = true := decide_eq_true h7
    have hp : pE a.op = false := by unfold pE; exact decide_eq_false (by omega)
    rw [hp] at H
    simp [la, t3, d2, d7, -cb5_34_ap]
    exact H _ (by simp) ⟨by simp [t3], by simp [t4], by simp [t5]⟩
  have d7 : decide (a.op = 7) = false := decide_eq_false h7
  by_cases h9 : a.op = 9
  · have d9 : decide (a.op = 9) = true := decide_eq_true h9
    have hp : pE a.op = false := by unfold pE; exact decide_eq_false (by omega)
    rw [hp] at H
    simp [la, t3, d2, d7, d9, -cb5_34_ap]
    exact H _ (by simp) ⟨by simp [t3], by simp [t4], by simp [t5]⟩
  have d9 : decide (a.op = 9) = false := decide_eq_false h9
  have hp : pE a.op = true := by unfold pE; exact decide_eq_true (by omega)
  rw [hp] at H
  simp [la, t3, d2, d7, d9, -cb5_34_ap]
  exact H _ (by simp) ⟨by simp [t3], by simp [t4], by simp [t5]⟩
/-- its expression -/
theorem rb5 (hst : St m0 m (rwS A3 A4 A5 a cells tv k av)) (hT : WR t A3 A4 A5) (hk : k < 1000000) (ha : AcOK m a) {e : Bool} (t8 : Tm.get 8 t = .bool e) {N : Nat} {kn kr : K} {ke : Nat → K} {Q : Option Out → Prop}
    (H1 : eB e k a.es = false → ∀ t' m', Tm.get 6 t' = .bool false → Ext m m' → Q (kr t' m'))
    (H2 : eB e k a.es = true → ∀ t' m', WR t' A3 A4 A5 → Ext m m' → Q (kn t' m')) : Q (cb5_24 (ex Tryz.prog (N + 1)) kn ke kr t m) := by
  have la : ∀ o s, load1 m ⟨A3, o, s⟩ = (acRow a)[o]? := fun o s => (hst.get 2 rfl).2.2.load1 o s
  have lt : ∀ o s, load1 m ⟨A5, o, s⟩ = [iv k, av][o]? := fun o s => (hst.get 0 rfl).2.2.load1 o s
  obtain ⟨t3, t4, t5⟩ := hT
  have hel : lenS a.ev = some (.int .i64 (a.es.length : Int)) := ha.ev.len
  obtain ⟨v1, m1, c1, c2, rfl⟩ := Expression_c k hk a.es a.ev ha.evl N m hst.sees.self.base ha.ev
  simp only [acRow] at la
  cases e with
  | true =>
    have hb : eB true k a.es = exprB k a.es := rfl
    rw [hb] at H1 H2
    cases hx : exprB k a.es with
    | true =>
      rw [hx] at c1
      simp [la, lt, t3, t4, t5, t8, c1]
      exact H2 hx _ _ ⟨by simp [t3], by simp [t4], by simp [t5]⟩ c2
    | false =>
      rw [hx] at c1
      simp [la, lt, t3, t4, t5, t8, c1]
      exact H1 hx _ _ (by simp) c2
  | false =>
    have hb : eB false k a.es = decide (a.es.length = 0) := rfl
    rw [hb] at H1 H2
    obtain ⟨n, hn⟩ : ∃ n, n = a.es.length := ⟨_, rfl⟩
    rw [← hn] at hel H1 H2
    by_cases h4 : n = 0
    · have e4 : ((0 : Int) < (n : Int)) = False := eq_false (by omega)
      have e4' : (0 < n) = False := eq_false (by omega)
      simp [la, lt, t3, t4, t5, t8, hel, e4, e4']
      exact H2 (decide_eq_true h4) _ _ ⟨by simp [t3], by simp [t4], by simp [t5]⟩ (Ext.refl m)
    · have e4 : ((0 : Int) < (n : Int)) = True := eq_true (by omega)
      have e4' : (0 < n) = True := eq_true (by omega)
      simp [la, lt, t3, t4, t5, t8, hel, e4, e4']
      exact H1 (decide_eq_false h4) _ _ (by simp) (Ext.refl m)
/-- its second expression -/
theorem rb6 (hst : St m0 m (rwS A3 A4 A5 a cells tv k av)) (hT : WR t A3 A4 A5) (hk : k < 1000000) (ha : AcOK m a) {N : Nat} {kn kr : K} {ke : Nat → K} {Q : Option Out → Prop}
    (H1 : eB (pF a.op) k a.fs = false → ∀ t' m', Tm.get 6 t' = .bool false → Ext m m' → Q (kr t' m'))
    (H2 : eB (pF a.op) k a.fs = true → ∀ t' m', WR t' A3 A4 A5 → Ext m m' → Q (kn t' m')) : Q (cb5_27 (ex Tryz.prog (N + 1)) kn ke kr t m) := by
  have la : ∀ o s, load1 m ⟨A3, o, s⟩ = (acRow a)[o]? := fun o s => (hst.get 2 rfl).2.2.load1 o s
  have lt : ∀ o s, load1 m ⟨A5, o, s⟩ = [iv k, av][o]? := fun o s => (hst.get 0 rfl).2.2.load1 o s
  obtain ⟨t3, t4, t5⟩ := hT
  have hel : lenS a.fv = some (.int .i64 (a.fs.length : Int)) := ha.fv.len
  obtain ⟨v1, m1, c1, c2, rfl⟩ := Expression_c k hk a.fs a.fv ha.fvl N m hst.sees.self.base ha.fv
  have st1 := hst.step c2
  have la1 : ∀ o s, load1 m1 ⟨A3, o, s⟩ = (acRow a)[o]? := fun o s => (st1.get 2 rfl).2.2.load1 o s
  simp only [acRow] at la la1
  by_cases h6 : a.op = 6
  · have d6 : decide (a.op = 6) = true := decide_eq_true h6
    have hb : eB (pF a.op) k a.fs = exprB k a.fs := by unfold pF; rw [d6]; rfl
    rw [hb] at H1 H2
    cases hx : exprB k a.fs with
    | true =>
      rw [hx] at c1
      simp [la, la1, lt, t3, t4, t5, d6, c1]
      exact H2 hx _ _ ⟨by simp [t3], by simp [t4], by simp [t5]⟩ c2
    | false =>
      rw [hx] at c1
      simp [la, la1, lt, t3, t4, t5, d6, c1]
      exact H1 hx _ _ (by simp) c2
  · have d6 : decide (a.op = 6) = false := decide_eq_false h6
    have hb : eB (pF a.op) k a.fs = decide (a.fs.length = 0) := by unfold pF; rw [d6]; rfl
    rw [hb] at H1 H2
    obtain ⟨n, hn⟩ : ∃ n, n = a.fs.length := ⟨_, rfl⟩
    rw [← hn] at hel H1 H2
    by_cases h4 : n = 0
    · have e4 : ((0 : Int) < (n : Int)) = False := eq_false (by omega)
      have e4' : (0 < n) = False := eq_false (by omega)
      simp [la, lt, t3, t4, t5, d6, hel, e4, e4']
      exact H2 (decide_eq_true h4) _ _ ⟨by simp [t3], by simp [t4], by simp [t5]⟩ (Ext.refl m)
    · have e4 : ((0 : Int) < (n : Int)) = True := eq_true (by omega)
      have e4' : (0 < n) = True := eq_true (by omega)
      simp [la, lt, t3, t4, t5, d6, hel, e4, e4']
      exact H1 (decide_eq_false h4) _ _ (by simp) (Ext.refl m)
/-- where it leads -/
theorem rb7 (hst : St m0 m (rwS A3 A4 A5 a cells tv k av)) (hT : WR t A3 A4 A5) (hav : lenS av = some (.int .i64 (na : Int))) {x : Ex} {kn kr : K} {ke : Nat → K} {Q : Option Out → Prop}
    (H : ∀ t', Tm.get 6 t' = .bool (toB (pT a.op) na a.to) → Q (kr t' m)) : Q (cb5_32 x kn ke kr t m) := by
  have la : ∀ o s, load1 m ⟨A3, o, s⟩ = (acRow a)[o]? := fun o s => (hst.get 2 rfl).2.2.load1 o s
  have lt : ∀ o s, load1 m ⟨A5, o, s⟩ = [iv k, av][o]? := fun o s => (hst.get 0 rfl).2.2.load1 o s
  obtain ⟨t3, t4, t5⟩ := hT
  simp only [acRow] at la
  by_cases h9 : a.op = 9
  · have d9 : decide (a.op = 9) = true := decide_eq_true h9
    have hb : toB (pT a.op) na a.to = decide (0 ≤ a.to ∧ a.to ≤ na) := by unfold pT; rw [decide_eq_true (.inl h9)]; rfl
    rw [hb] at H
    by_cases h1 : 0 ≤ a.to
    · have e1 : ((0 : Int) ≤ a.to) = True := eq_true h1
      by_cases h2 : a.to ≤ na
      · have e2 : (a.to ≤ (na : Int)) = True := eq_true h2
        rw [decide_eq_true ⟨h1, h2⟩] at H
        simp [la, lt, t3, t4, t5, d9, e1, e2, hav]
        exact H _ (by simp)
      · have e2 : (a.to ≤ (na : Int)) = False := eq_false h2
        rw [decide_eq_false (fun h => h2 h.2)] at H
        simp [la, lt, t3, t4, t5, d9, e1, e2, hav]
        exact H _ (by simp)
    · have e1 : ((0 : Int) ≤ a.to) = False := eq_false h1
      rw [decide_eq_false (fun h => h1 h.1)] at H
      simp [la, lt, t3, t4, t5, d9, e1, hav]
      exact H _ (by simp)
  have d9 : decide (a.op = 9) = false := decide_eq_false h9
  by_cases h10 : a.op = 10
  · have d10 : decide (a.op = 10) = true := decide_eq_true h10
    have hb : toB (pT a.op) na a.to = decide (0 ≤ a.to ∧ a.to ≤ na) := by unfold pT; rw [decide_eq_true (.inr h10)]; rfl
    rw [hb] at H
    by_cases h1 : 0 ≤ a.to
    · have e1 : ((0 : Int) ≤ a.to) = True := eq_true h1
      by_cases h2 : a.to ≤ na
      · have e2 : (a.to ≤ (na : Int)) = True := eq_true h2
        rw [decide_eq_true ⟨h1, h2⟩] at H
        simp [la, lt, t3, t4, t5, d9, d10, e1, e2, hav]
        exact H _ (by simp)
      · have e2 : (a.to ≤ (na : Int)) = False := eq_false h2
        rw [decide_eq_false (fun h => h2 h.2)] at H
        simp [la, lt, t3, t4, t5, d9, d10, e1, e2, hav]
        exact H _ (by simp)
    · have e1 : ((0 : Int) ≤ a.to) = False := eq_false h1
      rw [decide_eq_false (fun h => h1 h.1)] at H
      simp [la, lt, t3, t4, t5, d9, d10, e1, hav]
      exact H _ (by simp)
  have d10 : decide (a.op = 10) = false := decide_eq_false h10
  have hb : toB (pT a.op) na a.to = decide (a.to = 0) := by unfold pT; rw [decide_eq_false (by omega)]; rfl
  rw [hb] at H
  simp [la, lt, t3, t4, t5, d9, d10]
  exact H _ (by simp)
end
theorem eB_es (e f : Bool) (k : Nat) (a : Ac) : (eB e k a.es && eB f k a.fs) = esB e f k a := by
  have hx : ∀ es : List Nd, exprB k es = true → 0 < es.length := fun es h => (exprB_oks h).1
  have h0 : ∀ es : List Nd, decide (es.length = 0) = !decide (0 < es.length) := fun es => by
    by_cases h : 0 < es.length
    · rw [decide_eq_true h, decide_eq_false (by omega)]; rfl
    · rw [decide_eq_false h, decide_eq_true (by omega)]; rfl
  have hh : ∀ (e : Bool) (es : List Nd), eB e k es = (decide (e = decide (0 < es.length)) && (!e || exprB k es)) := fun e es => by
    cases e with
    | true =>
      show exprB k es = _
      cases hc : exprB k es with
      | true => rw [decide_eq_true (hx es hc)]; rfl
      | false => simp
    | false =>
      show decide (es.length = 0) = _
      rw [h0]
      cases decide (0 < es.length) <;> rfl
  rw [hh, hh]
  unfold esB
  cases decide (e = decide (0 < a.es.length)) <;> cases decide (f = decide (0 < a.fs.length)) <;> cases (!e || exprB k a.es) <;> cases (!f || exprB k a.fs) <;> rfl
theorem whole_c (k : Nat) (hk : k < 1000000) (cells : Int) (tv : Value) (hc0 : 0 ≤ cells) (hc1 : cells ≤ 4096) (av : Value) (na : Nat) (hav : lenS av = some (.int .i64 (na : Int))) (a : Ac) (N : Nat) (m : M) (hm : m.base ≤ m.n) (ha : AcOK m a) :
    CallV (ex Tryz.prog (N + 3)) 37 [.agg ⟨acRow a⟩, .agg ⟨[iv cells, tv]⟩, .agg ⟨[iv k, av]⟩] m (.bool (actB cells k na a)) := by
  refine call_ret db5_ok (by simp) ?_
  have st0 : St m m [] := St.nil hm (Ext.refl m)
  have st1 := st0.row (acRow a)
  obtain ⟨m1, hm1⟩ : ∃ m1, m1 = Dx.newRow m (acRow a) := ⟨_, rfl⟩
  rw [← hm1] at st1
  have st2 := st1.row [iv cells, tv]
  obtain ⟨m2, hm2⟩ : ∃ m2, m2 = Dx.newRow m1 [iv cells, tv] := ⟨_, rfl⟩
  rw [← hm2] at st2
  have st3 := st2.row [iv k, av]
  obtain ⟨m3, hm3⟩ : ∃ m3, m3 = Dx.newRow m2 [iv k, av] := ⟨_, rfl⟩
  rw [← hm3] at st3
  have la : ∀ o s, load1 m3 ⟨m.n, o, s⟩ = (acRow a)[o]? := fun o s => (st3.get 2 rfl).2.2.load1 o s
  simp only [acRow] at la
  have hA : actB cells k na a = (decide (1 ≤ a.op ∧ a.op ≤ 10) && (mayB a.op a.mode && (dstB (pD a.op) k a.dst && (plB (pP a.op) cells k a && (esB (pE a.op) (pF a.op) k a && toB (pT a.op) na a.to))))) := rfl
  rw [hA]
  by_cases h1 : a.op < 1
  · have e1 : (a.op < 1) = True := eq_true h1
    rw [decide_eq_false (show ¬ (1 ≤ a.op ∧ a.op ≤ 10) by omega)]
    simp [← hm1, ← hm2, ← hm3, la, e1]
    exact ret_1 st3.ext (by simp)
  have e1 : (a.op < 1) = False := eq_false h1
  by_cases h2 : 10 < a.op
  · have e2 : (10 < a.op) = True := eq_true h2
    rw [decide_eq_false (show ¬ (1 ≤ a.op ∧ a.op ≤ 10) by omega)]
    simp [← hm1, ← hm2, ← hm3, la, e1, e2]
    exact ret_1 st3.ext (by simp)
  have e2 : (10 < a.op) = False := eq_false h2
  rw [decide_eq_true (show (1 ≤ a.op ∧ a.op ≤ 10) by omega), Bool.true_and]
  obtain ⟨v4, m4, c1, c2, rfl⟩ := May_c (N + 1) a.op a.mode m3
  have st4 := st3.step c2
  cases hmay : mayB a.op a.mode with
  | false =>
    rw [hmay] at c1
    simp [← hm1, ← hm2, ← hm3, la, e1, e2, c1]
    exact ret_1 st4.ext (by simp)
  | true =>
  rw [hmay] at c1
  rw [Bool.true_and]
  simp [← hm1, ← hm2, ← hm3, la, e1, e2, c1, -cb5_6_ap]
  have st4' : St m m4 (rwS m.n m1.n m2.n a cells tv k av) := st4
  refine rb1 (A3 := m.n) (A4 := m1.n) (A5 := m2.n) st4' ⟨by simp, by simp, by simp⟩ (fun hd t' m' h6 E => ?_) (fun hd t' m5 T1 E5 => ?_)
  · rw [hd]; exact ret_1 (st4'.step E).ext (by simp [h6])
  have st5 := st4'.step E5
  rw [hd, Bool.true_and]
  simp [-cb5_21_ap]
  refine rb3 st5 T1 hk (ha.sees st5.sees) hc0 hc1 (fun hd t' m' h6 E => ?_) (fun hd t' m6 T2 E6 => ?_)
  · rw [hd]; exact ret_1 (st5.step E).ext (by simp [h6])
  have st6 := st5.step E6
  rw [hd, Bool.true_and]
  refine rb4 st6 T2 (by omega) (fun t' t8 T3 => ?_)
  rw [← eB_es]
  simp [-cb5_24_ap]
  refine rb5 st6 T3 hk (ha.sees st6.sees) t8 (fun hd t' m' h6 E => ?_) (fun hd t' m7 T4 E7 => ?_)
  · rw [hd]; exact ret_1 (st6.step E).ext (by simp [h6])
  have st7 := st6.step E7
  rw [hd, Bool.true_and]
  simp [-cb5_27_ap]
  refine rb6 st7 T4 hk (ha.sees st7.sees) (fun hd t' m' h6 E => ?_) (fun hd t' m8 T5 E8 => ?_)
  · rw [hd]; exact ret_1 (st7.step E).ext (by simp [h6])
  have st8 := st7.step E8
  rw [hd, Bool.true_and]
  exact rb7 st8 T5 hav (fun t' h6 => ret_1 st8.ext (by simp [h6]))
end Go.Sx
namespace Go.Sx
open Go.Dx Go.Proofs
set_option maxRecDepth 10000
theorem refWhole_c (p : Pg) (N : Nat) (m : M) (hm : m.base ≤ m.n) (hp : PgOK m p) : CallV (ex Tryz.prog (N + 4)) 19 [pgV p] m (.bool (pgB p)) := by
  refine call_ret da5_ok (by simp) ?_
  obtain ⟨cells, tv, ths⟩ := p
  have st1 := (St.nil hm (Ext.refl m)).row [iv cells, tv]
  obtain ⟨m1, hm1⟩ : ∃ m1, m1 = Dx.newRow m [iv cells, tv] := ⟨_, rfl⟩
  rw [← hm1] at st1
  have lp : ∀ o s, load1 m1 ⟨m.n, o, s⟩ = [iv cells, tv][o]? := fun o s => (st1.get 0 rfl).2.2.load1 o s
  obtain ⟨n, hn⟩ : ∃ n, n = ths.length := ⟨_, rfl⟩
  have hll : lenS tv = some (.int .i64 (n : Int)) := by rw [hn]; exact hp.tv.len
  have hB : pgB ⟨cells, tv, ths⟩ = (decide (0 ≤ cells ∧ cells ≤ 4096) && (decide (n ≤ 64) && ths.all (thB cells))) := by rw [hn]; rfl
  rw [hB]
  unfold pgV
  by_cases h1 : cells < 0
  · have e1 : (cells < 0) = True := eq_true h1
    rw [decide_eq_false (show ¬ (0 ≤ cells ∧ cells ≤ 4096) by omega)]
    simp [← hm1, lp, e1]
    exact ret_1 st1.ext (by simp)
  have e1 : (cells < 0) = False := eq_false h1
  by_cases h2 : 4096 < cells
  · have e2 : (4096 < cells) = True := eq_true h2
    rw [decide_eq_false (show ¬ (0 ≤ cells ∧ cells ≤ 4096) by omega)]
    simp [← hm1, lp, e1, e2]
    exact ret_1 st1.ext (by simp)
  have e2 : (4096 < cells) = False := eq_false h2
  rw [decide_eq_true (show (0 ≤ cells ∧ cells ≤ 4096) by omega), Bool.true_and]
  by_cases h3 : 64 < n
  · have e3 : ((64 : Int) < (n : Int)) = True := eq_true (by omega)
    have e3' : (64 < n) = True := eq_true (by omega)
    rw [decide_eq_false (show ¬ (n ≤ 64) by omega)]
    simp [← hm1, lp, e1, e2, hll, e3, e3']
    exact ret_1 st1.ext (by simp)
  have e3 : ((64 : Int) < (n : Int)) = False := eq_false (by omega)
  have e3' : (64 < n) = False := eq_false (by omega)
  rw [decide_eq_true (show (n ≤ 64) by omega), Bool.true_and]
  simp [← hm1, lp, e1, e2, hll, e3, e3']
  refine loop_run (c := ca5_25) rfl (Ret m _) (fun i t m' => St m m' [(m.n, [iv cells, tv])] ∧ (∀ (j : Nat) x, j < i → ths[j]? = some x → thB cells x = true) ∧ Tm.get 1 t = .pointer (some ⟨m.n, 0, none⟩) ∧ Tm.get 3 t = iv i) n (by omega)
    ⟨st1, fun j nd hj => absurd hj (Nat.not_lt_zero _), by simp, by simp⟩ (fun i t m' k' hi hI hk' => ?_)
  obtain ⟨st, hok, t1, t3⟩ := hI
  have lq : ∀ o s, load1 m' ⟨m.n, o, s⟩ = [iv cells, tv][o]? := fun o s => (st.get 0 rfl).2.2.load1 o s
  by_cases hil : i < n
  · have hd := dlt hil
    have hd' : (i < n) = True := eq_true hil
    obtain ⟨th, hth⟩ : ∃ r, ths[i]? = some r := ⟨_, List.getElem?_eq_getElem (by omega)⟩
    have ⟨a1, a2, _⟩ := hp.tv.at hth
    have a2' := a2 m' st.sees
    have hthok := hp.ths th (List.mem_of_getElem? hth)
    have ni := nextI (i := i) (by omega)
    obtain ⟨loc, av, acts⟩ := th
    simp only [thRow] at a2'
    have st1 := st.row [.int .i64 0, .slice none 0 0]
    obtain ⟨m1, hm1⟩ : ∃ m1, m1 = Dx.newRow m' [.int .i64 0, .slice none 0 0] := ⟨_, rfl⟩
    rw [← hm1] at st1
    have okav : okC av = true := hthok.av.okV
    obtain ⟨m2, s1, s2, s3, s4⟩ := st1.fill 0 rfl (n := 2) (l' := [iv loc, av]) rfl rfl (by simp [okC]; exact okav)
    have s2' : St m m2 [(m'.n, [iv loc, av]), (m.n, [iv cells, tv])] := s2
    have l2 : ∀ o s, load1 m2 ⟨m'.n, o, s⟩ = [iv loc, av][o]? := fun o s => (s2'.get 0 rfl).2.2.load1 o s
    obtain ⟨na, hna⟩ : ∃ n, n = acts.length := ⟨_, rfl⟩
    have hal : lenS av = some (.int .i64 (na : Int)) := by rw [hna]; exact hthok.av.len
    have hnal : na ≤ 9223372036854775807 := by rw [hna]; exact hthok.len
    have hT : thB cells ⟨loc, av, acts⟩ = (decide (0 ≤ loc ∧ loc ≤ 24) && (decide (na ≤ 65536) && acts.all (actB cells loc.toNat na))) := by rw [hna]; rfl
    have bad : thB cells ⟨loc, av, acts⟩ = false → ths.all (thB cells) = false := fun h => all_false hth h
    by_cases h4 : loc < 0
    · have e4 : (loc < 0) = True := eq_true h4
      rw [bad (by rw [hT, decide_eq_false (show ¬ (0 ≤ loc ∧ loc ≤ 24) by omega)]; rfl)]
      simp [t1, t3, lq, hll, hd, hd', a1, a2', loadNS_ptr, ← hm1, s1, l2, e4]
      exact ret_1 s2'.ext (by simp)
    have e4 : (loc < 0) = False := eq_false h4
    by_cases h5 : 24 < loc
    · have e5 : (24 < loc) = True := eq_true h5
      rw [bad (by rw [hT, decide_eq_false (show ¬ (0 ≤ loc ∧ loc ≤ 24) by omega)]; rfl)]
      simp [t1, t3, lq, hll, hd, hd', a1, a2', loadNS_ptr, ← hm1, s1, l2, e4, e5]
      exact ret_1 s2'.ext (by simp)
    have e5 : (24 < loc) = False := eq_false h5
    rw [decide_eq_true (show (0 ≤ loc ∧ loc ≤ 24) by omega), Bool.true_and] at hT
    by_cases h6 : 65536 < na
    · have e6 : ((65536 : Int) < (na : Int)) = True := eq_true (by omega)
      have e6' : (65536 < na) = True := eq_true (by omega)
      rw [bad (by rw [hT, decide_eq_false (show ¬ (na ≤ 65536) by omega)]; rfl)]
      simp [t1, t3, lq, hll, hd, hd', a1, a2', loadNS_ptr, ← hm1, s1, l2, e4, e5, hal, e6, e6']
      exact ret_1 s2'.ext (by simp)
    have e6 : ((65536 : Int) < (na : Int)) = False := eq_false (by omega)
    have e6' : (65536 < na) = False := eq_false (by omega)
    rw [decide_eq_true (show (na ≤ 65536) by omega), Bool.true_and] at hT
    obtain ⟨q, rfl⟩ : ∃ q : Nat, loc = q := ⟨loc.toNat, by omega⟩
    rw [Int.toNat_natCast] at hT
    obtain ⟨z, hz⟩ : ∃ z : Int, z = (q : Int) := ⟨_, rfl⟩
    rw [← hz] at a2' s1 s2' l2 e4 e5
    simp [t1, t3, lq, hll, hd, hd', a1, a2', loadNS_ptr, ← hm1, s1, l2, e4, e5, hal, e6, e6']
    refine loop_run (c := ca5_17) rfl (Ret m _) (fun j t m3 => St m m3 [(m'.n, [iv q, av]), (m.n, [iv cells, tv])] ∧ (∀ (j' : Nat) x, j' < j → acts[j']? = some x → actB cells q na x = true) ∧ Tm.get 1 t = .pointer (some ⟨m.n, 0, none⟩) ∧ Tm.get 4 t = .pointer (some ⟨m'.n, 0, none⟩) ∧ Tm.get 3 t = iv i ∧ Tm.get 5 t = iv j) na (by omega)
      ⟨by rw [hz] at s2'; exact s2', fun j nd hj => absurd hj (Nat.not_lt_zero _), by simp [t1], by simp, by simp [t3], by simp⟩ (fun j t m3 k3 hj hJ hk3 => ?_)
    obtain ⟨st3, hok3, t1, t4, t3, t5⟩ := hJ
    have l3t : ∀ o s, load1 m3 ⟨m'.n, o, s⟩ = [iv q, av][o]? := fun o s => (st3.get 0 rfl).2.2.load1 o s
    by_cases hjl : j < na
    · have hd := dlt hjl
      have hd' : (j < na) = True := eq_true hjl
      obtain ⟨a, hac⟩ : ∃ r, acts[j]? = some r := ⟨_, List.getElem?_eq_getElem (by omega)⟩
      have ⟨b1, b2, _⟩ := hthok.av.at hac
      have b2' := b2 m3 st3.sees
      have haok := hthok.acts a (List.mem_of_getElem? hac)
      have nj := nextI (i := j) (by omega)
      have l5t : loads m3 ⟨m'.n, 0, none⟩ 2 = some [iv q, av] := (st3.get 0 rfl).2.2.loads (n := 2) (by simp)
      have l5p : loads m3 ⟨m.n, 0, none⟩ 2 = some [iv cells, tv] := (st3.get 1 rfl).2.2.loads (n := 2) (by simp)
      obtain ⟨v6, m6', c1, c2, c3, rfl⟩ := any_call (whole_c q (by omega) cells tv (by omega) (by omega) av na hal a N (forAny m3) (sees_any st3.sees).base (haok.sees (sees_any st3.sees)))
      obtain ⟨m6, hm6⟩ : ∃ m6, m6 = behind m3 m6' := ⟨_, rfl⟩
      rw [← hm6] at c3
      have st6 := st3.step c3
      cases hab : actB cells q na a with
      | true =>
        rw [hab] at c1
        simp [t1, t4, t3, t5, l3t, hal, hd, hd', b1, b2', loadNS_ptr, l5t, l5p, c1, c2, ← hm6, nj]
        exact hk3 hjl _ _ ⟨st6, fun j' x hj' hx => by
          by_cases hjj : j' = j
          · subst hjj; rw [hac] at hx; cases hx; exact hab
          · exact hok3 j' x (by omega) hx, by simp [t1], by simp [t4], by simp [t3], by simp⟩
      | false =>
        rw [hab] at c1
        rw [bad (by rw [hT]; exact all_false hac hab)]
        simp [t1, t4, t3, t5, l3t, hal, hd, hd', b1, b2', loadNS_ptr, l5t, l5p, c1, c2, ← hm6]
        exact ret_1 st6.ext (by simp)
    · obtain rfl : j = na := by omega
      have hd : ((j : Int) < (j : Int)) = False := eq_false (by omega)
      have hth1 : thB cells ⟨(q : Int), av, acts⟩ = true := by rw [hT]; exact all_true fun i' x hi' hx => hok3 i' x (by omega) hx
      simp [t1, t4, t3, t5, l3t, hal, hd, ni]
      exact hk' hil _ _ ⟨st3.sub (by simp) (by have := st3.nd; simp at this ⊢), fun j' x hj' hx => by
        by_cases hjj : j' = i
        · subst hjj; rw [hth] at hx; cases hx; exact hth1
        · exact hok j' x (by omega) hx, by simp [t1], by simp⟩
  · obtain rfl : i = n := by omega
    have hd : ((i : Int) < (i : Int)) = False := eq_false (by omega)
    rw [all_true (f := thB cells) (l := ths) fun i' x hi' hx => hok i' x (by omega) hx]
    simp [t1, t3, lq, hll, hd]
    exact ret_1 st.ext (by simp)
end Go.Sx
/- The reference's Same: of two programs that are alike it is true. -/
namespace Go.Sx
open Go.Dx Go.Proofs
set_option maxRecDepth 10000
abbrev Z11 : List Value := [.int .i64 0, .int .i64 0, .int .i64 0, .int .i64 0, .slice none 0 0, .slice none 0 0, .slice none 0 0, .int .i64 0, .int .i64 0, .int .i64 0, .int .i64 0]
theorem sameNodes_eq (ls : List Nd) (hl : ls.length ≤ 9223372036854775807) (a b : Value) (N : Nat) (m : M) (hm : m.base ≤ m.n) (ha : Rd m a 4 nodeRow ls) (hb : Rd m b 4 nodeRow ls) : CallV (ex Tryz.prog (N + 1)) 36 [a, b] m (.bool true) := by
  refine call_ret db4_ok (by simp) ?_
  have la := ha.len
  have lb := hb.len
  have S := Sees.refl hm
  simp [la, lb]
  refine loop_run (c := cb4_12) rfl (Ret m _) (fun i t m' => m' = m ∧ Tm.get 0 t = a ∧ Tm.get 1 t = b ∧ Tm.get 5 t = iv i) ls.length hl
    ⟨rfl, by simp, by simp, by simp⟩ (fun i t m' k hi hI hk => ?_)
  obtain ⟨rfl, t0, t1, t5⟩ := hI
  by_cases hil : i < ls.length
  · have hd := dlt hil
    have hd' : (i < ls.length) = True := eq_true hil
    have ni := nextI (i := i) (by omega)
    obtain ⟨u, hu⟩ : ∃ r, ls[i]? = some r := ⟨_, List.getElem?_eq_getElem hil⟩
    obtain ⟨a1, a2, _⟩ := ha.at hu
    obtain ⟨b1, b2, _⟩ := hb.at hu
    have a2' := a2 m' S
    have b2' := b2 m' S
    have he := nd_eq u
    simp [t0, t1, t5, la, hd, hd', a1, a2', b1, b2', loadNS_ptr, he, ni]
    exact hk hil _ _ ⟨rfl, by simp [t0], by simp [t1], by simp⟩
  · have hd : ((i : Int) < (ls.length : Int)) = False := eq_false (by omega)
    have hd' : (i < ls.length) = False := eq_false hil
    simp [t0, t1, t5, la, hd, hd']
    exact ret_1 (Ext.refl m') (by simp)
/-- two programs alike: but for where their lists lie -/
structure ThEq (a b : Th) : Prop where
  loc : a.loc = b.loc
  len : a.acts.length = b.acts.length
  acts : ∀ (j : Nat) x, b.acts[j]? = some x → ∃ y, a.acts[j]? = some y ∧ AcEq y x
structure PgEq (p q : Pg) : Prop where
  cells : p.cells = q.cells
  len : p.ths.length = q.ths.length
  ths : ∀ (j : Nat) x, q.ths[j]? = some x → ∃ y, p.ths[j]? = some y ∧ ThEq y x
theorem Same_eq (p q : Pg) (he : PgEq p q) (N : Nat) (m : M) (hm : m.base ≤ m.n) (hp : PgOK m p) (hq : PgOK m q) : CallV (ex Tryz.prog (N + 2)) 17 [pgV p, pgV q] m (.bool true) := by
  refine call_ret da4_ok (by simp) ?_
  obtain ⟨cells, tv, ths⟩ := p
  obtain ⟨cells', tv', ths'⟩ := q
  obtain ⟨rfl, hlen, hths⟩ := he
  simp only at hlen hths
  have st1 := (St.nil hm (Ext.refl m)).row [iv cells, tv]
  obtain ⟨m1, hm1⟩ : ∃ m1, m1 = Dx.newRow m [iv cells, tv] := ⟨_, rfl⟩
  rw [← hm1] at st1
  have st2 := st1.row [iv cells, tv']
  obtain ⟨m2, hm2⟩ : ∃ m2, m2 = Dx.newRow m1 [iv cells, tv'] := ⟨_, rfl⟩
  rw [← hm2] at st2
  have l1 : ∀ o s, load1 m2 ⟨m.n, o, s⟩ = [iv cells, tv][o]? := fun o s => (st2.get 1 rfl).2.2.load1 o s
  have l2 : ∀ o s, load1 m2 ⟨m1.n, o, s⟩ = [iv cells, tv'][o]? := fun o s => (st2.get 0 rfl).2.2.load1 o s
  obtain ⟨n, hn⟩ : ∃ n, n = ths.length := ⟨_, rfl⟩
  have h1l : lenS tv = some (.int .i64 (n : Int)) := by rw [hn]; exact hp.tv.len
  have h2l : lenS tv' = some (.int .i64 (n : Int)) := by rw [hn, hlen]; exact hq.tv.len
  have hnl : n ≤ 9223372036854775807 := by rw [hn]; exact hp.len
  unfold pgV
  simp [← hm1, ← hm2, l1, l2, h1l, h2l]
  refine loop_run (c := ca4_32) rfl (Ret m _) (fun i t m' => St m m' [(m1.n, [iv cells, tv']), (m.n, [iv cells, tv])] ∧ Tm.get 2 t = .pointer (some ⟨m.n, 0, none⟩) ∧ Tm.get 3 t = .pointer (some ⟨m1.n, 0, none⟩) ∧ Tm.get 5 t = iv i) n hnl
    ⟨st2, by simp, by simp, by simp⟩ (fun i t m' k' hi hI hk' => ?_)
  obtain ⟨st, t2, t3, t5⟩ := hI
  have la : ∀ o s, load1 m' ⟨m.n, o, s⟩ = [iv cells, tv][o]? := fun o s => (st.get 1 rfl).2.2.load1 o s
  have lb : ∀ o s, load1 m' ⟨m1.n, o, s⟩ = [iv cells, tv'][o]? := fun o s => (st.get 0 rfl).2.2.load1 o s
  by_cases hil : i < n
  · have hd := dlt hil
    have hd' : (i < n) = True := eq_true hil
    obtain ⟨u, hu⟩ : ∃ r, ths'[i]? = some r := ⟨_, List.getElem?_eq_getElem (by omega)⟩
    obtain ⟨t', ht', hte⟩ := hths i u hu
    obtain ⟨loc, av, acts⟩ := t'
    obtain ⟨loc', av', acts'⟩ := u
    obtain ⟨rfl, hal, hacts⟩ := hte
    simp only at hal hacts
    have ⟨x1, x2, _⟩ := hp.tv.at ht'
    have ⟨y1, y2, _⟩ := hq.tv.at hu
    have x2' := x2 m' st.sees
    have hpt := hp.ths _ (List.mem_of_getElem? ht')
    have hqt := hq.ths _ (List.mem_of_getElem? hu)
    have ni := nextI (i := i) (by omega)
    have ok1 : okC av = true := hpt.av.okV
    have ok2 : okC av' = true := hqt.av.okV
    have s3 := st.row [.int .i64 0, .slice none 0 0]
    obtain ⟨m3, hm3⟩ : ∃ m3, m3 = Dx.newRow m' [.int .i64 0, .slice none 0 0] := ⟨_, rfl⟩
    rw [← hm3] at s3
    obtain ⟨m4, f1, f2, f3, f4⟩ := s3.fill 0 rfl (n := 2) (l' := [iv loc, av]) rfl rfl (by simp [okC]; exact ok1)
    have s4 : St m m4 [(m'.n, [iv loc, av]), (m1.n, [iv cells, tv']), (m.n, [iv cells, tv])] := f2
    have lb4 : ∀ o s, load1 m4 ⟨m1.n, o, s⟩ = [iv cells, tv'][o]? := fun o s => (s4.get 1 rfl).2.2.load1 o s
    have y2' := y2 m4 s4.sees
    have s5 := s4.row [.int .i64 0, .slice none 0 0]
    obtain ⟨m5, hm5⟩ : ∃ m5, m5 = Dx.newRow m4 [.int .i64 0, .slice none 0 0] := ⟨_, rfl⟩
    rw [← hm5] at s5
    obtain ⟨m6, g1, g2, g3, g4⟩ := s5.fill 0 rfl (n := 2) (l' := [iv loc, av']) rfl rfl (by simp [okC]; exact ok2)
    have s6 : St m m6 [(m4.n, [iv loc, av']), (m'.n, [iv loc, av]), (m1.n, [iv cells, tv']), (m.n, [iv cells, tv])] := g2
    have l61 : ∀ o s, load1 m6 ⟨m'.n, o, s⟩ = [iv loc, av][o]? := fun o s => (s6.get 1 rfl).2.2.load1 o s
    have l62 : ∀ o s, load1 m6 ⟨m4.n, o, s⟩ = [iv loc, av'][o]? := fun o s => (s6.get 0 rfl).2.2.load1 o s
    obtain ⟨na, hna⟩ : ∃ n, n = acts.length := ⟨_, rfl⟩
    have a1l : lenS av = some (.int .i64 (na : Int)) := by rw [hna]; exact hpt.av.len
    have a2l : lenS av' = some (.int .i64 (na : Int)) := by rw [hna, hal]; exact hqt.av.len
    have hnal : na ≤ 9223372036854775807 := by rw [hna]; exact hpt.len
    simp only [thRow] at x2' y2'
    simp [t2, t3, t5, la, lb, h1l, hd, hd', x1, x2', loadNS_ptr, ← hm3, f1, lb4, y1, y2', ← hm5, g1, l61, l62, a1l, a2l]
    refine loop_run (c := ca4_23) rfl (Ret m _) (fun j t m3 => St m m3 [(m4.n, [iv loc, av']), (m'.n, [iv loc, av]), (m1.n, [iv cells, tv']), (m.n, [iv cells, tv])] ∧ Tm.get 2 t = .pointer (some ⟨m.n, 0, none⟩) ∧ Tm.get 3 t = .pointer (some ⟨m1.n, 0, none⟩) ∧ Tm.get 5 t = iv i ∧ Tm.get 6 t = .pointer (some ⟨m'.n, 0, none⟩) ∧ Tm.get 7 t = .pointer (some ⟨m4.n, 0, none⟩) ∧ Tm.get 8 t = iv j) na hnal
      ⟨s6, by simp [t2], by simp [t3], by simp [t5], by simp, by simp, by simp⟩ (fun j t n0 k3 hj hJ hk3 => ?_)
    obtain ⟨u0', t2, t3, t5, t6, t7, t8⟩ := hJ
    have q1 : ∀ o s, load1 n0 ⟨m'.n, o, s⟩ = [iv loc, av][o]? := fun o s => (u0'.get 1 rfl).2.2.load1 o s
    by_cases hjl : j < na
    · have hd := dlt hjl
      have hd' : (j < na) = True := eq_true hjl
      have nj := nextI (i := j) (by omega)
      obtain ⟨b, hb⟩ : ∃ r, acts'[j]? = some r := ⟨_, List.getElem?_eq_getElem (by omega)⟩
      obtain ⟨a, ha, ix, ev, fv, rfl⟩ := hacts j b hb
      have ⟨v1, v2, _⟩ := hpt.av.at ha
      have ⟨w1, w2, _⟩ := hqt.av.at hb
      have v2' := v2 n0 u0'.sees
      have oka := hpt.acts _ (List.mem_of_getElem? ha)
      have okb := hqt.acts _ (List.mem_of_getElem? hb)
      have u1 := u0'.row Z11
      obtain ⟨n1, hn1⟩ : ∃ n1, n1 = Dx.newRow n0 Z11 := ⟨_, rfl⟩
      rw [← hn1] at u1
      obtain ⟨n2, i1, i2, i3, i4⟩ := u1.fill 0 rfl (n := 11) (l' := acRow { b with ix := ix, ev := ev, fv := fv }) rfl rfl (acRow_ok oka)
      have u2 : St m n2 [(n0.n, acRow { b with ix := ix, ev := ev, fv := fv }), (m4.n, [iv loc, av']), (m'.n, [iv loc, av]), (m1.n, [iv cells, tv']), (m.n, [iv cells, tv])] := i2
      have q2 : ∀ o s, load1 n2 ⟨m4.n, o, s⟩ = [iv loc, av'][o]? := fun o s => (u2.get 1 rfl).2.2.load1 o s
      have w2' := w2 n2 u2.sees
      have u3 := u2.row Z11
      obtain ⟨n3, hn3⟩ : ∃ n3, n3 = Dx.newRow n2 Z11 := ⟨_, rfl⟩
      rw [← hn3] at u3
      obtain ⟨n4, j1, j2, j3, j4⟩ := u3.fill 0 rfl (n := 11) (l' := acRow b) rfl rfl (acRow_ok okb)
      have u4 : St m n4 [(n2.n, acRow b), (n0.n, acRow { b with ix := ix, ev := ev, fv := fv }), (m4.n, [iv loc, av']), (m'.n, [iv loc, av]), (m1.n, [iv cells, tv']), (m.n, [iv cells, tv])] := j2
      have r1 : ∀ o s, load1 n4 ⟨n0.n, o, s⟩ = (acRow { b with ix := ix, ev := ev, fv := fv })[o]? := fun o s => (u4.get 1 rfl).2.2.load1 o s
      have r2 : ∀ o s, load1 n4 ⟨n2.n, o, s⟩ = (acRow b)[o]? := fun o s => (u4.get 0 rfl).2.2.load1 o s
      have ixl : b.ixs.length ≤ 9223372036854775807 := okb.ixl
      obtain ⟨z1, n5, c1, c2, rfl⟩ := sameNodes_eq b.ixs okb.ixl ix b.ix N n4 u4.sees.base (oka.ix.sees u4.sees) (okb.ix.sees u4.sees)
      have u5 := u4.step c2
      have r15 : ∀ o s, load1 n5 ⟨n0.n, o, s⟩ = (acRow { b with ix := ix, ev := ev, fv := fv })[o]? := fun o s => (u5.get 1 rfl).2.2.load1 o s
      have r25 : ∀ o s, load1 n5 ⟨n2.n, o, s⟩ = (acRow b)[o]? := fun o s => (u5.get 0 rfl).2.2.load1 o s
      obtain ⟨z2, n6, d1, d2, rfl⟩ := sameNodes_eq b.es okb.evl ev b.ev N n5 u5.sees.base (oka.ev.sees u5.sees) (okb.ev.sees u5.sees)
      have u6 := u5.step d2
      have r16 : ∀ o s, load1 n6 ⟨n0.n, o, s⟩ = (acRow { b with ix := ix, ev := ev, fv := fv })[o]? := fun o s => (u6.get 1 rfl).2.2.load1 o s
      have r26 : ∀ o s, load1 n6 ⟨n2.n, o, s⟩ = (acRow b)[o]? := fun o s => (u6.get 0 rfl).2.2.load1 o s
      obtain ⟨z3, n7, e1, e2, rfl⟩ := sameNodes_eq b.fs okb.fvl fv b.fv N n6 u6.sees.base (oka.fv.sees u6.sees) (okb.fv.sees u6.sees)
      have u7 := u6.step e2
      simp only [acRow] at v2' w2' r1 r2 r15 r25 r16 r26 i1 j1
      simp [t2, t3, t5, t6, t7, t8, q1, a1l, hd, hd', v1, v2', loadNS_ptr, ← hn1, i1, q2, w1, w2', ← hn3, j1, r1, r2, c1, r15, r25, d1, r16, r26, e1, nj]
      exact hk3 hjl _ _ ⟨u7.sub (fun p hp => List.mem_cons_of_mem _ (List.mem_cons_of_mem _ hp)) (by have := u7.nd; simp at this ⊢; omega), by simp [t2], by simp [t3], by simp [t5], by simp [t6], by simp [t7], by simp⟩
    · obtain rfl : j = na := by omega
      have hd : ((j : Int) < (j : Int)) = False := eq_false (by omega)
      simp [t2, t3, t5, t6, t7, t8, q1, a1l, hd, ni]
      exact hk' hil _ _ ⟨u0'.sub (fun p hp => List.mem_cons_of_mem _ (List.mem_cons_of_mem _ hp)) (by have := u0'.nd; simp at this ⊢; omega), by simp [t2], by simp [t3], by simp⟩
  · obtain rfl : i = n := by omega
    have hd : ((i : Int) < (i : Int)) = False := eq_false (by omega)
    simp [t2, t3, t5, la, h1l, hd]
    exact ret_1 st.ext (by simp)
end Go.Sx
/- The law of what Opt leaves. -/
namespace Go.Sx
open Go.Dx Go.Proofs
set_option maxRecDepth 10000
theorem LEq.theq {a b : Th} (hl : a.loc = b.loc) (h : LEq a.acts b.acts) : ThEq a b := ⟨hl, h.len, fun j x hx => by
  obtain ⟨y, hy⟩ := nth_of h.len.symm hx
  exact ⟨y, hy, h.get j y x hy hx⟩⟩
/-- where it stops, a round more changes nothing -/
theorem OpQ.again {m m' m2 : M} {p q r : Pg} {n : Nat} (hp : pgB p = true) (h : OpQ m p n q m') : Stop q 0 ∧ (PgK q 1 r → PgEq q r) := by
  have key : ∀ u ∈ q.ths, LEq (rdA u.acts) u.acts := fun u hu => by
    obtain ⟨w, hw, e1, e2⟩ := h.k.mem hu
    have hf := h.stop.fix hp w hw
    have : LEq (rdA u.acts) (rdA (rdN (n + 1) w.acts)) := rdA_leq e2
    rw [hf] at this
    exact this.trans e2.symm
  refine ⟨fun u hu => (LEq.al (LEq.refl _) (key u hu)).2 (AlL.refl _), fun k => ⟨k.cells.symm, k.len.symm, fun j x hx => ?_⟩⟩
  obtain ⟨y, hy⟩ := nth_of k.len hx
  refine ⟨y, hy, LEq.theq (k.ths j x y hx hy).1.symm ?_⟩
  have := (k.ths j x y hx hy).2
  exact (this.trans (key y (List.mem_of_getElem? hy))).symm
theorem OptLess_c (p : Pg) (N : Nat) (hN : 65600 ≤ N) (m : M) (hm : m.base ≤ m.n) (hp : PgOK m p) : CallV (Ex.step Tryz.prog (xA N)) 5 [pgV p] m (.bool true) := by
  refine step_ret da0_ok (by simp) ?_
  have hpl := hp.len
  obtain ⟨m1, hm1⟩ : ∃ m1, m1 = Dx.newRow m [iv p.cells, p.tv] := ⟨_, rfl⟩
  have n1 : m1.n = m.n + 1 := by rw [hm1, newRow_n]
  have st1 := (St.nil hm (Ext.refl m)).row [iv p.cells, p.tv]
  rw [← hm1] at st1
  have bx : boxS (pgV p) m = some (.pointer (some ⟨m.n, 0, none⟩), m1) := by rw [hm1]; rfl
  have aw := xA_aw N m1
  have l1 : loads m1 ⟨m.n, 0, none⟩ 2 = some [iv p.cells, p.tv] := (st1.get 0 rfl).2.2.loads (by simp)
  have pv : ∀ q : Pg, (.agg ⟨[iv q.cells, q.tv]⟩ : Value) = pgV q := fun q => rfl
  obtain ⟨v2, m2, c1, c2, c3⟩ := Opt_c (N - 7) (by omega) m1 st1.sees.self.base p (hp.sees st1.sees)
  rw [show N - 7 + 7 = N by omega] at c1
  have n12 := c2.n
  have st2 := st1.step c2
  obtain ⟨B, hB⟩ : ∃ B, B = m2.n := ⟨_, rfl⟩
  obtain ⟨m3, hm3⟩ : ∃ m3, m3 = Dx.newRow m2 zTh := ⟨_, rfl⟩
  have st3 := st2.row zTh
  rw [← hm3, ← hB] at st3
  have e3 : Ext m2 m3 := by rw [hm3]; exact Ext.row _ _
  have n3 : m3.n = B + 1 := by rw [hm3, newRow_n, hB]
  rcases c3 with ⟨hW, rfl⟩ | ⟨hW, n, q, rfl, c3⟩
  · obtain ⟨m4, s1, s2, s3, s4⟩ := st3.fill 0 rfl (n := 2) (l' := zTh) rfl rfl (by simp; exact ⟨rfl, rfl⟩)
    have st4 : St m m4 [(B, zTh), (m.n, [iv p.cells, p.tv])] := s2
    have s1' : storeS 2 (.pointer (some ⟨B, 0, none⟩)) (pgV nilPg) m3 = some (undef, m4) := s1
    have l4 : loads m4 ⟨m.n, 0, none⟩ 2 = some [iv p.cells, p.tv] := (st4.get 1 rfl).2.2.loads (by simp)
    obtain ⟨v5, m5, d1, d2, rfl⟩ := refWhole_c p (N - 4) m4 st4.sees.self.base (hp.sees st4.sees)
    rw [show N - 4 + 4 = N by omega, hW] at d1
    simp [bx, aw, xA_f, l1, loadNS_ptr, pv, c1, ← hm3, ← hB, s1', l4, d1]
    exact ret_1 (st4.ext.trans d2) (by simp)
  · obtain ⟨hst, heq⟩ := c3.again (m2 := m) (r := nilPg) hW
    obtain ⟨m4, s1, s2, s3, s4⟩ := st3.fill 0 rfl (n := 2) (l' := [iv q.cells, q.tv]) rfl rfl (pgV_ok c3.ok)
    have st4 : St m m4 [(B, [iv q.cells, q.tv]), (m.n, [iv p.cells, p.tv])] := s2
    have s1' : storeS 2 (.pointer (some ⟨B, 0, none⟩)) (pgV q) m3 = some (undef, m4) := s1
    have q4 : PgOK m4 q := (c3.ok.congr e3.n fun X hX => e3.obj X (c3.ok.lt hX)).congr (by omega) fun X hX => s4 X (by have := c3.ok.lt hX; omega)
    have lq4 : loads m4 ⟨B, 0, none⟩ 2 = some [iv q.cells, q.tv] := (st4.get 0 rfl).2.2.loads (by simp)
    obtain ⟨v5, m5, d1, d2, rfl⟩ := refWhole_c q (N - 4) m4 st4.sees.self.base q4
    rw [show N - 4 + 4 = N by omega, (c3.k.whole hW).1] at d1
    have st5 := st4.step d2
    have q5 : PgOK m5 q := q4.congr d2.n fun X hX => d2.obj X (q4.lt hX)
    have lp : ∀ o s, load1 m5 ⟨m.n, o, s⟩ = [iv p.cells, p.tv][o]? := fun o s => (st5.get 1 rfl).2.2.load1 o s
    have lq : ∀ o s, load1 m5 ⟨B, o, s⟩ = [iv q.cells, q.tv][o]? := fun o s => (st5.get 0 rfl).2.2.load1 o s
    have lq5 : loads m5 ⟨B, 0, none⟩ 2 = some [iv q.cells, q.tv] := (st5.get 0 rfl).2.2.loads (by simp)
    obtain ⟨k0, hk0⟩ : ∃ k, k = p.ths.length := ⟨_, rfl⟩
    have lenp : lenS p.tv = some (.int .i64 (k0 : Int)) := by rw [hk0]; exact hp.tv.len
    have lenq : lenS q.tv = some (.int .i64 (k0 : Int)) := by rw [hk0, ← c3.k.len]; exact q5.tv.len
    have hcel : q.cells = p.cells := c3.k.cells
    have lq' : ∀ o s, load1 m5 ⟨B, o, s⟩ = [iv p.cells, q.tv][o]? := fun o s => by rw [← hcel]; exact lq o s
    have hk64 : k0 ≤ 64 := by rw [hk0]; exact (pgB_iff.1 hW).2.1
    have S5 : Sees m m5 := st5.sees
    have n0 : ¬ ((n : Int) < 0) := by omega
    simp [bx, aw, xA_f, l1, loadNS_ptr, pv, c1, ← hm3, ← hB, s1', lq4, d1, lp, lq', lenp, lenq, n0]
    refine loop_run (c := ca0_18) rfl (Ret m _) (fun i t m' => m' = m5 ∧ Tm.get 1 t = .pointer (some ⟨m.n, 0, none⟩) ∧ Tm.get 3 t = .pointer (some ⟨B, 0, none⟩) ∧ Tm.get 6 t = iv i) k0 (by omega) ⟨rfl, by simp, by simp, by simp⟩ (fun i t m' k hi hI hk => ?_)
    obtain ⟨rfl, t1, t3, t6⟩ := hI
    by_cases hil : i < k0
    · have eI : ((i : Int) < (k0 : Int)) = True := eq_true (by omega)
      obtain ⟨i1, hi1⟩ : ∃ x, x = i + 1 := ⟨_, rfl⟩
      have w1 : IntKind.i64.wrap ((i : Int) + 1) = (i1 : Int) := by rw [wrap64 _ (by omega) (by omega)]; omega
      obtain ⟨w, hw⟩ : ∃ r, p.ths[i]? = some r := ⟨_, List.getElem?_eq_getElem (by omega)⟩
      obtain ⟨u, hu⟩ := nth_of c3.k.len.symm hw
      obtain ⟨e1, e2⟩ := c3.k.ths i u w hu hw
      obtain ⟨a1, _, a3⟩ := hp.tv.at hw
      obtain ⟨b1, _, b3⟩ := q5.tv.at hu
      have a30 : ∀ s, load1 m' ⟨(adr 2 p.tv i).block, (adr 2 p.tv i).off, s⟩ = some (iv w.loc) := fun s => a3 m' 0 s S5 (by simp [thRow])
      have a31 : ∀ s, load1 m' ⟨(adr 2 p.tv i).block, (adr 2 p.tv i).off + 1, s⟩ = some w.av := fun s => a3 m' 1 s S5 (by simp [thRow])
      have b30 : ∀ s, load1 m' ⟨(adr 2 q.tv i).block, (adr 2 q.tv i).off, s⟩ = some (iv w.loc) := fun s => by rw [← e1]; exact b3 m' 0 s S5.self (by simp [thRow])
      have b31 : ∀ s, load1 m' ⟨(adr 2 q.tv i).block, (adr 2 q.tv i).off + 1, s⟩ = some u.av := fun s => b3 m' 1 s S5.self (by simp [thRow])
      obtain ⟨nu, hnu⟩ : ∃ n, n = u.acts.length := ⟨_, rfl⟩
      obtain ⟨nw, hnw⟩ : ∃ n, n = w.acts.length := ⟨_, rfl⟩
      have hle : nu ≤ nw := by rw [hnu, hnw, e2.len]; exact rdN_len _ _
      have lu : lenS u.av = some (.int .i64 (nu : Int)) := by rw [hnu]; exact (q5.ths u (List.mem_of_getElem? hu)).av.len
      have lw : lenS w.av = some (.int .i64 (nw : Int)) := by rw [hnw]; exact (hp.ths w (List.mem_of_getElem? hw)).av.len
      have hgt : decide ((nw : Int) < (nu : Int)) = false := decide_eq_false (by omega)
      have hgt' : ¬ nw < nu := by omega
      rw [← hi1] at hk
      simp [t1, t3, t6, lp, lq', lenp, lenq, eI, a1, b1, a30, a31, b30, b31, lu, lw, hgt, hgt', w1]
      exact hk hil _ _ ⟨rfl, by simp [t1], by simp [t3], by simp⟩
    · obtain rfl : i = k0 := by omega
      obtain ⟨v6, m6, f1, f2, f3⟩ := Opt_c (N - 7) (by omega) m' S5.self.base q q5
      rw [show N - 7 + 7 = N by omega] at f1
      rcases f3 with ⟨hWq, _⟩ | ⟨_, n', r, rfl, f3⟩
      · rw [(c3.k.whole hW).1] at hWq; cases hWq
      · have hn' : n' = 0 := by
          by_cases h0 : n' = 0
          · exact h0
          · exact absurd hst (f3.first 0 (by omega))
        subst hn'
        have hEq := (c3.again (m2 := m) (r := r) hW).2 f3.k
        have st6 := st5.step f2
        obtain ⟨m7, hm7⟩ : ∃ m7, m7 = Dx.newRow m6 zTh := ⟨_, rfl⟩
        have st7 := st6.row zTh
        rw [← hm7] at st7
        have e7 : Ext m6 m7 := by rw [hm7]; exact Ext.row _ _
        have n7 : m7.n = m6.n + 1 := by rw [hm7, newRow_n]
        obtain ⟨m8, g1, g2, g3, g4⟩ := st7.fill 0 rfl (n := 2) (l' := [iv r.cells, r.tv]) rfl rfl (pgV_ok f3.ok)
        have st8 : St m m8 [(m6.n, [iv r.cells, r.tv]), (B, [iv q.cells, q.tv]), (m.n, [iv p.cells, p.tv])] := g2
        have g1' : storeS 2 (.pointer (some ⟨m6.n, 0, none⟩)) (pgV r) m7 = some (undef, m8) := g1
        have lq8 : loads m8 ⟨B, 0, none⟩ 2 = some [iv q.cells, q.tv] := (st8.get 1 rfl).2.2.loads (by simp)
        have lr8 : loads m8 ⟨m6.n, 0, none⟩ 2 = some [iv r.cells, r.tv] := (st8.get 0 rfl).2.2.loads (by simp)
        have n56 := f2.n
        have q8 : PgOK m8 q := q5.congr (by omega) fun X hX => by
          have := q5.lt hX
          rw [g4 X (by omega), e7.obj X (by omega), f2.obj X this]
        have r8 : PgOK m8 r := f3.ok.congr (by omega) fun X hX => by
          have := f3.ok.lt hX
          rw [g4 X (by omega), e7.obj X this]
        obtain ⟨v9, m9, j1, j2, rfl⟩ := Same_eq q r hEq (N - 2) m8 st8.sees.self.base q8 r8
        rw [show N - 2 + 2 = N by omega] at j1
        simp [t1, t3, t6, lp, lenp, lq5, xA_f, loadNS_ptr, pv, f1, ← hm7, g1', lq8, lr8, j1]
        exact ret_1 (st8.ext.trans j2) (by simp)
end Go.Sx
