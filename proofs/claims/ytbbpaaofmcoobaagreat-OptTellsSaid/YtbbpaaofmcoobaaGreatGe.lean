/- Contracts. -/
import Derived.Test.YtbbpaaofmcoobaaGreatGd
import Derived.Test.YtbbpaaofmcoobaaGreatEd
set_option linter.unusedVariables false
set_option linter.unusedSimpArgs false
set_option linter.defProp false
namespace Go.Dx
theorem Kv {m0 m : M} {Q : Value → M → Prop} {t : Tm} {p n : Nat} {a : Addr} {l : List Value} (h1 : Tm.get p t = .pointer (some a)) (h2 : loads m a n = some l) (he : Ext m0 m) (hq : Q (.agg ⟨l⟩) m) : Ret m0 Q (kD [.cell p n] t m) := by
 refine gz (l := [.agg ⟨l⟩]) ?_ he hq
 simp only [yW, fX, h1, yT, qy, h2]
end Go.Dx
namespace Go.Sx
open Go.Dx Go.Proofs
set_option maxRecDepth 10000
structure Ac where
 op : Int
 dst : Int
 base : Int
 size : Int
 ix : Value
 ev : Value
 fv : Value
 mode : Int
 to : Int
 line : Int
 col : Int
 ixs : List Nd
 es : List Nd
 fs : List Nd
def qe (a : Ac) : List Value := [iv a.op, iv a.dst, iv a.base, iv a.size, a.ix, a.ev, a.fv, iv a.mode, iv a.to, iv a.line, iv a.col]
structure AcOK (m : M) (a : Ac) : Prop where
 ix : Rd m a.ix 4 qg a.ixs
 ev : Rd m a.ev 4 qg a.es
 fv : Rd m a.fv 4 qg a.fs
 ixl : a.ixs.length ≤ 9223372036854775807
 evl : a.es.length ≤ 9223372036854775807
 fvl : a.fs.length ≤ 9223372036854775807
theorem AcOK.sees {m m' : M} {a : Ac} (h : AcOK m a) (k : Sees m m') : AcOK m' a := ⟨h.ix.sees k, h.ev.sees k, h.fv.sees k, h.ixl, h.evl, h.fvl⟩
def pD (op : Int) : Bool := decide (op = 1 ∨ op = 2 ∨ op = 4 ∨ op = 5 ∨ op = 6)
def pP (op : Int) : Bool := decide (op = 2 ∨ op = 3 ∨ op = 4 ∨ op = 5 ∨ op = 6)
def pE (op : Int) : Bool := decide (op = 1 ∨ op = 3 ∨ op = 4 ∨ op = 5 ∨ op = 6 ∨ op = 8 ∨ op = 10)
def pF (op : Int) : Bool := decide (op = 6)
def pT (op : Int) : Bool := decide (op = 9 ∨ op = 10)
def ky (op mode : Int) : Bool := if op = 2 then decide (mode = 1 ∨ mode = 2 ∨ mode = 5) else if op = 3 then decide (mode = 1 ∨ mode = 3 ∨ mode = 5)
 else if op = 4 ∨ op = 5 ∨ op = 6 then decide (1 ≤ mode ∧ mode ≤ 5) else if op = 7 then decide (2 ≤ mode ∧ mode ≤ 5) else decide (mode = 0)
theorem may_c (n : Nat) (op mode : Int) (m : M) : CallV (ex Tryz.prog (n + 1)) 105 [iv op, iv mode] m (.bool (ky op mode)) := by
 refine qp df0_ok (by simp) ?_
 have E := Ext.refl m
 by_cases h2 : op = 2
 ·subst h2
  by_cases q1 : mode = 1
  ·subst q1; simp; exact qh E (by simp [ky])
  by_cases q2 : mode = 2
  ·subst q2; simp; exact qh E (by simp [ky])
  simp [q1, q2]; exact qh E (by simp [ky, q1, q2])
 by_cases h3 : op = 3
 ·subst h3
  by_cases q1 : mode = 1
  ·subst q1; simp; exact qh E (by simp [ky])
  by_cases q2 : mode = 3
  ·subst q2; simp; exact qh E (by simp [ky])
  simp [q1, q2]; exact qh E (by simp [ky, q1, q2])
 by_cases h4 : op = 4
 ·subst h4
  by_cases q1 : 1 ≤ mode
  ·have q1' : (1 ≤ mode) = True := eq_true q1
   simp [q1']; exact qh E (by simp [ky, q1'])
  ·have q1' : (1 ≤ mode) = False := eq_false q1
   simp [q1']; exact qh E (by simp [ky, q1'])
 by_cases h5 : op = 5
 ·subst h5
  by_cases q1 : 1 ≤ mode
  ·have q1' : (1 ≤ mode) = True := eq_true q1
   simp [q1']; exact qh E (by simp [ky, q1'])
  ·have q1' : (1 ≤ mode) = False := eq_false q1
   simp [q1']; exact qh E (by simp [ky, q1'])
 by_cases h6 : op = 6
 ·subst h6
  by_cases q1 : 1 ≤ mode
  ·have q1' : (1 ≤ mode) = True := eq_true q1
   simp [q1']; exact qh E (by simp [ky, q1'])
  ·have q1' : (1 ≤ mode) = False := eq_false q1
   simp [q1']; exact qh E (by simp [ky, q1'])
 by_cases h7 : op = 7
 ·subst h7
  by_cases q1 : 2 ≤ mode
  ·have q1' : (2 ≤ mode) = True := eq_true q1
   simp [q1']; exact qh E (by simp [ky, q1'])
  ·have q1' : (2 ≤ mode) = False := eq_false q1
   simp [q1']; exact qh E (by simp [ky, q1'])
 simp [h2, h3, h4, h5, h6, h7]; exact qh E (by simp [ky, h2, h3, h4, h5, h6, h7])
def wE (op : Int) : List Value := [.bool (pD op), .bool (pP op), .bool (pE op), .bool (pF op), .bool (pT op)]
theorem pb3 : wn [.bool false, .bool false, .bool false, .bool false, .bool false] [(0, 1, .bool true), (2, 1, .bool true)] = some (.agg ⟨[.bool true, .bool false, .bool true, .bool false, .bool false]⟩) := rfl
theorem pb4 : wn [.bool false, .bool false, .bool false, .bool false, .bool false] [(0, 1, .bool true), (1, 1, .bool true)] = some (.agg ⟨[.bool true, .bool true, .bool false, .bool false, .bool false]⟩) := rfl
theorem pb5 : wn [.bool false, .bool false, .bool false, .bool false, .bool false] [(1, 1, .bool true), (2, 1, .bool true)] = some (.agg ⟨[.bool false, .bool true, .bool true, .bool false, .bool false]⟩) := rfl
theorem pb6 : wn [.bool false, .bool false, .bool false, .bool false, .bool false] [(0, 1, .bool true), (1, 1, .bool true), (2, 1, .bool true)] = some (.agg ⟨[.bool true, .bool true, .bool true, .bool false, .bool false]⟩) := rfl
theorem pb8 : wn [.bool false, .bool false, .bool false, .bool false, .bool false] [(0, 1, .bool true), (1, 1, .bool true), (2, 1, .bool true), (3, 1, .bool true)] = some (.agg ⟨[.bool true, .bool true, .bool true, .bool true, .bool false]⟩) := rfl
theorem pb9 : wn [.bool false, .bool false, .bool false, .bool false, .bool false] [] = some (.agg ⟨[.bool false, .bool false, .bool false, .bool false, .bool false]⟩) := rfl
theorem pb10 : wn [.bool false, .bool false, .bool false, .bool false, .bool false] [(2, 1, .bool true)] = some (.agg ⟨[.bool false, .bool false, .bool true, .bool false, .bool false]⟩) := rfl
theorem pb11 : wn [.bool false, .bool false, .bool false, .bool false, .bool false] [(4, 1, .bool true)] = some (.agg ⟨[.bool false, .bool false, .bool false, .bool false, .bool true]⟩) := rfl
theorem pb12 : wn [.bool false, .bool false, .bool false, .bool false, .bool false] [(2, 1, .bool true), (4, 1, .bool true)] = some (.agg ⟨[.bool false, .bool false, .bool true, .bool false, .bool true]⟩) := rfl
def kP : List Value := [.bool false, .bool false, .bool false, .bool false, .bool false, .bool true, .bool false, .bool true, .bool false, .bool false, .bool true, .bool true, .bool false, .bool false, .bool false, .bool false, .bool true, .bool true, .bool false, .bool false, .bool true, .bool true, .bool true, .bool false, .bool false, .bool true, .bool true, .bool true, .bool false, .bool false, .bool true, .bool true, .bool true, .bool true, .bool false, .bool false, .bool false, .bool false, .bool false, .bool false, .bool false, .bool false, .bool true, .bool false, .bool false, .bool false, .bool false, .bool false, .bool false, .bool true, .bool false, .bool false, .bool true, .bool false, .bool true]
theorem pb13 : wn [.bool false, .bool false, .bool false, .bool false, .bool false, .bool false, .bool false, .bool false, .bool false, .bool false, .bool false, .bool false, .bool false, .bool false, .bool false, .bool false, .bool false, .bool false, .bool false, .bool false, .bool false, .bool false, .bool false, .bool false, .bool false, .bool false, .bool false, .bool false, .bool false, .bool false, .bool false, .bool false, .bool false, .bool false, .bool false, .bool false, .bool false, .bool false, .bool false, .bool false, .bool false, .bool false, .bool false, .bool false, .bool false, .bool false, .bool false, .bool false, .bool false, .bool false, .bool false, .bool false, .bool false, .bool false, .bool false] [(5, 5, .agg ⟨[.bool true, .bool false, .bool true, .bool false, .bool false]⟩), (10, 5, .agg ⟨[.bool true, .bool true, .bool false, .bool false, .bool false]⟩), (15, 5, .agg ⟨[.bool false, .bool true, .bool true, .bool false, .bool false]⟩), (20, 5, .agg ⟨[.bool true, .bool true, .bool true, .bool false, .bool false]⟩), (25, 5, .agg ⟨[.bool true, .bool true, .bool true, .bool false, .bool false]⟩), (30, 5, .agg ⟨[.bool true, .bool true, .bool true, .bool true, .bool false]⟩), (35, 5, .agg ⟨[.bool false, .bool false, .bool false, .bool false, .bool false]⟩), (40, 5, .agg ⟨[.bool false, .bool false, .bool true, .bool false, .bool false]⟩), (45, 5, .agg ⟨[.bool false, .bool false, .bool false, .bool false, .bool true]⟩), (50, 5, .agg ⟨[.bool false, .bool false, .bool true, .bool false, .bool true]⟩)] = some (.agg ⟨kP⟩) := rfl
noncomputable def gM (len : Nat) (agg : Bool) (esz : Nat) (x i : Value) : Option Value := ob (xh i) fun n => ob (WY x) fun cs => bif Nat.blt n len then QM agg ((cs.drop (n * esz)).take esz) else none
theorem Dm (len : Nat) (agg : Bool) (esz : Nat) (x i : V) (t : Tm) : pIdx len agg esz x i t = gM len agg esz (x t) (i t) := rfl
theorem pi1 : gM 11 true 5 (.agg ⟨kP⟩) (.int .i64 1) = some (.agg ⟨wE 1⟩) := rfl
theorem pi2 : gM 11 true 5 (.agg ⟨kP⟩) (.int .i64 2) = some (.agg ⟨wE 2⟩) := rfl
theorem pi3 : gM 11 true 5 (.agg ⟨kP⟩) (.int .i64 3) = some (.agg ⟨wE 3⟩) := rfl
theorem pi4 : gM 11 true 5 (.agg ⟨kP⟩) (.int .i64 4) = some (.agg ⟨wE 4⟩) := rfl
theorem pi5 : gM 11 true 5 (.agg ⟨kP⟩) (.int .i64 5) = some (.agg ⟨wE 5⟩) := rfl
theorem pi6 : gM 11 true 5 (.agg ⟨kP⟩) (.int .i64 6) = some (.agg ⟨wE 6⟩) := rfl
theorem pi7 : gM 11 true 5 (.agg ⟨kP⟩) (.int .i64 7) = some (.agg ⟨wE 7⟩) := rfl
theorem pi8 : gM 11 true 5 (.agg ⟨kP⟩) (.int .i64 8) = some (.agg ⟨wE 8⟩) := rfl
theorem pi9 : gM 11 true 5 (.agg ⟨kP⟩) (.int .i64 9) = some (.agg ⟨wE 9⟩) := rfl
theorem pi10 : gM 11 true 5 (.agg ⟨kP⟩) (.int .i64 10) = some (.agg ⟨wE 10⟩) := rfl
theorem Dz (n : Nat) {op : Int} (h1 : 1 ≤ op) (h2 : op ≤ 10) (m : M) (hm : m.base ≤ m.n) : CallV (ex Tryz.prog (n + 1)) 106 [iv op] m (.agg ⟨wE op⟩) := by
 refine qp df1_ok (by simp) ?_
 obtain ⟨a, c1, c2, c3, c4, c5⟩ := Zh (m := m) hm (zs := [.bool false, .bool false, .bool false, .bool false, .bool false]) (l := wE op) (v := .agg ⟨wE op⟩) (n := 5) rfl rfl rfl (by simp [wE, okC])
 have fin : ∀ t, Tm.get 2 t = .pointer (some ⟨m.n, 0, none⟩) → Ret m (fun u _ => u = .agg ⟨wE op⟩) (kD [.cell 2 5] t a) := fun t ht => Kv ht (c3 none) c4 rfl
 have key : ∀ k, gM 11 true 5 (.agg ⟨kP⟩) (.int .i64 k) = some (.agg ⟨wE k⟩) → op = k → Ret m (fun u _ => u = .agg ⟨wE op⟩) (GF (ex Tryz.prog n) (kD [.cell 2 5]) noK (kD [.cell 2 5]) (jg .blank 0 [iv op]) m) := fun k hk e => by
  subst e
  simp [pb3, pb4, pb5, pb6, pb8, pb9, pb10, pb11, pb12, pb13, Dm, hk, c1]
  exact fin _ (by simp)
 rcases (by omega : op = 1 ∨ op = 2 ∨ op = 3 ∨ op = 4 ∨ op = 5 ∨ op = 6 ∨ op = 7 ∨ op = 8 ∨ op = 9 ∨ op = 10) with h | h | h | h | h | h | h | h | h | h
 ·exact key 1 pi1 h
 ·exact key 2 pi2 h
 ·exact key 3 pi3 h
 ·exact key 4 pi4 h
 ·exact key 5 pi5 h
 ·exact key 6 pi6 h
 ·exact key 7 pi7 h
 ·exact key 8 pi8 h
 ·exact key 9 pi9 h
 ·exact key 10 pi10 h
end Go.Sx
namespace Go.Dx
open Go.RowKit
theorem i_and {a b : Nat} (ha : a < 9223372036854775808) (hb : b < 9223372036854775808) : zf .and (.int .i64 a) (.int .i64 b) = some (.int .i64 ((a &&& b : Nat) : Int)) := by
 rw [kp]
 have hx : a &&& b < 2 ^ 63 := Nat.and_lt_two_pow _ (by omega)
 have h1 : (BitVec.ofInt 64 (a : Int)).toNat = a := by
  rw [BitVec.ofInt_natCast, BitVec.toNat_ofNat]; exact Nat.mod_eq_of_lt (by omega)
 have h2 : (BitVec.ofInt 64 (b : Int)).toNat = b := by
  rw [BitVec.ofInt_natCast, BitVec.toNat_ofNat]; exact Nat.mod_eq_of_lt (by omega)
 have h : bits .and .i64 (a : Int) (b : Int) = ((a &&& b : Nat) : Int) := by
  show IntKind.i64.wrap ((BitVec.ofInt 64 (a : Int) &&& BitVec.ofInt 64 (b : Int)).toNat : Int) = _
  rw [BitVec.toNat_and, h1, h2]
  exact wrap64 _ (by omega) (by omega)
 rw [← h]; rfl
theorem WS (mx : Bool) (xs : List V) (t : Tm) : pMm mx xs t = mmL mx (evs t xs) := rfl
theorem mm_max (a b : Int) : mmL true [.int .i64 a, .int .i64 b] = some (.int .i64 (max a b)) := by
 have h : mmL true [.int .i64 a, .int .i64 b] = some (.int .i64 (bif ltI a b then b else a)) := rfl
 rw [h, jv]
 by_cases hab : a < b
 ·rw [decide_eq_true hab, cond_true, Int.max_eq_right (by omega)]
 ·rw [decide_eq_false hab, cond_false, Int.max_eq_left (by omega)]
end Go.Dx
namespace Go.Sx
open Go.Dx Go.Proofs
set_option maxRecDepth 10000
def yF (cells : Int) (k : Nat) (a : Ac) : Bool :=
 decide (0 ≤ a.size ∧ a.size ≤ 1024) && decide (a.size.toNat &&& (a.size.toNat - 1) = 0) && decide (0 ≤ a.base ∧ a.base ≤ cells - max 1 a.size) && (if a.size = 0 then decide (a.ixs.length = 0) else qD k a.ixs)
theorem Kc (k : Nat) (hk : k < 1000000) (cells : Int) (tv : Value) (hc0 : 0 ≤ cells) (hc1 : cells ≤ 4096) (a : Ac) (N : Nat) (m : M) (hm : m.base ≤ m.n) (ha : AcOK m a) :
  CallV (ex Tryz.prog (N + 3)) 107 [.agg ⟨qe a⟩, .agg ⟨[iv cells, tv]⟩, iv k] m (.bool (yF cells k a)) := by
 refine qp df2_ok (by simp) ?_
 have st0 : St m m [] := St.nil hm (Ext.refl m)
 have st1 := st0.row (qe a)
 obtain ⟨m1, hm1⟩ := qb8 (Dx.newRow m (qe a))
 rw [← hm1] at st1
 have st2 := st1.row [iv cells, tv]
 obtain ⟨m2, hm2⟩ := qb8 (Dx.newRow m1 [iv cells, tv])
 rw [← hm2] at st2
 have la : ∀ o s, load1 m2 ⟨m.n, o, s⟩ = (qe a)[o]? := fun o s => (st2.get 1 rfl).2.2.load1 o s
 have lp : ∀ o s, load1 m2 ⟨m1.n, o, s⟩ = [iv cells, tv][o]? := fun o s => (st2.get 0 rfl).2.2.load1 o s
 have ha2 := ha.sees st2.sees
 obtain ⟨op, dst, base, size, ix, ev, fv, mode, to, line, col, ixs, es, fs⟩ := a
 simp only [qe] at la hm1
 have E2 := st2.ext
 have pB : yF cells k ⟨op, dst, base, size, ix, ev, fv, mode, to, line, col, ixs, es, fs⟩ = (decide (0 ≤ size ∧ size ≤ 1024) && decide (size.toNat &&& (size.toNat - 1) = 0) && decide (0 ≤ base ∧ base ≤ cells - max 1 size) && (if size = 0 then decide (ixs.length = 0) else qD k ixs)) := rfl
 rw [pB]
 by_cases h1 : size < 0
 ·have e1 : (size < 0) = True := eq_true h1
  rw [decide_eq_false (show ¬ (0 ≤ size ∧ size ≤ 1024) by omega)]
  simp [qe, ← hm1, ← hm2, la, lp, e1]
  exact qh E2 (by simp)
 have e1 : (size < 0) = False := eq_false h1
 by_cases h2 : 1024 < size
 ·have e2 : (1024 < size) = True := eq_true h2
  rw [decide_eq_false (show ¬ (0 ≤ size ∧ size ≤ 1024) by omega)]
  simp [qe, ← hm1, ← hm2, la, lp, e1, e2]
  exact qh E2 (by simp)
 have e2 : (1024 < size) = False := eq_false h2
 rw [decide_eq_true (show (0 ≤ size ∧ size ≤ 1024) by omega), Bool.true_and]
 obtain ⟨s, rfl⟩ : ∃ s : Nat, size = s := ⟨size.toNat, by omega⟩
 rw [qat]
 obtain ⟨r, hr⟩ := qb8 (s &&& (s - 1))
 have q1 : zf .sub (.int .i64 (s : Int)) (.int .i64 1) = some (.int .i64 ((s : Int) - 1)) := by rw [qz, wrap64 _ (by omega) (by omega)]
 have q2 : zf .and (.int .i64 (s : Int)) (.int .i64 ((s : Int) - 1)) = some (.int .i64 (r : Int)) := by
  by_cases hs0 : s = 0
  ·subst hs0; rw [hr]; rfl
  ·rw [show (s : Int) - 1 = ((s - 1 : Nat) : Int) by omega, i_and (by omega) (by omega), hr]
 rw [← hr]
 obtain ⟨z, hz⟩ : ∃ z : Int, z = (s : Int) := ⟨_, rfl⟩
 rw [← hz] at q1 q2 e1 e2 la hm1 ⊢
 by_cases h3 : ¬ r = 0
 ·have e3 : ((r : Int) = 0) = False := eq_false (by omega)
  have e3' : (r = 0) = False := eq_false h3
  rw [decide_eq_false h3]
  simp [-qz, qe, ← hm1, ← hm2, la, lp, e1, e2, q1, q2, e3, e3']
  exact qh E2 (by simp)
 have h3 : r = 0 := Classical.byContradiction h3
 subst h3
 rw [decide_eq_true rfl, Bool.true_and]
 by_cases h4 : base < 0
 ·have e4 : (base < 0) = True := eq_true h4
  rw [decide_eq_false (show ¬ (0 ≤ base ∧ base ≤ cells - max 1 z) by omega)]
  simp [-qz, qe, ← hm1, ← hm2, la, lp, e1, e2, q1, q2, e4]
  exact qh E2 (by simp)
 have e4 : (base < 0) = False := eq_false h4
 obtain ⟨y, hy⟩ := qb8 (cells - max 1 z)
 have q3 := mm_max 1 z
 obtain ⟨mx, hmx⟩ := qb8 (max 1 z)
 rw [← hmx] at q3 hy
 have q4 : zf .sub (.int .i64 cells) (.int .i64 mx) = some (.int .i64 y) := by
  rw [qz, wrap64 _ (by rw [hmx]; omega) (by rw [hmx]; omega), hy]
 rw [← hmx, ← hy]
 by_cases h5 : y < base
 ·have e5 : (y < base) = True := eq_true h5
  rw [decide_eq_false (show ¬ (0 ≤ base ∧ base ≤ y) by omega)]
  simp [-qz, qe, ← hm1, ← hm2, la, lp, e1, e2, q1, q2, e4, WS, q3, q4, e5]
  exact qh E2 (by simp)
 have e5 : (y < base) = False := eq_false h5
 rw [decide_eq_true (show (0 ≤ base ∧ base ≤ y) by omega), Bool.true_and]
 have hil : qL ix = some (.int .i64 (ixs.length : Int)) := ha.ix.len
 obtain ⟨n, hn⟩ := qb8 (ixs.length)
 rw [← hn] at hil ⊢
 obtain ⟨v3, m3, c1, c2, rfl⟩ := xW k hk ixs ix ha2.ixl N m2 st2.sees.base ha2.ix
 by_cases h6 : z = 0
 ·rw [if_pos h6]
  have h06 : s = 0 := by omega
  by_cases h7 : n = 0
  ·have e7 : ((n : Int) = 0) = True := eq_true (by omega)
   have hd7 : decide (n = 0) = true := decide_eq_true h7
   have d6 : decide (z = 0) = true := decide_eq_true h6
   simp [-qz, qe, ← hm1, ← hm2, la, lp, e1, e2, q1, q2, e4, WS, q3, q4, e5, hil, d6, h7]
   exact qh E2 (by simp)
  ·have e7 : ((n : Int) = 0) = False := eq_false (by omega)
   have d6 : decide (z = 0) = true := decide_eq_true h6
   have e8 : ((0 : Int) < z) = False := eq_false (by omega)
   simp [-qz, qe, ← hm1, ← hm2, la, lp, e1, e2, q1, q2, e4, WS, q3, q4, e5, hil, d6, h7, e7, e8]
   exact qh E2 (by simp)
 ·rw [if_neg h6]
  have e6 : ((0 : Int) < z) = True := eq_true (by omega)
  simp [-qz, qe, ← hm1, ← hm2, la, lp, e1, e2, q1, q2, e4, WS, q3, q4, e5, hil, h6, e6, c1]
  exact qh (E2.trans c2) (by simp)
end Go.Sx
namespace Go.Sx
open Go.Dx Go.Proofs
set_option maxRecDepth 10000
abbrev waS (A3 A4 A5 A7 : Nat) (a : Ac) (cells : Int) (tv : Value) (k : Nat) (av : Value) : List (Nat × List Value) := [(A7, wE a.op), (A5, [iv k, av]), (A4, [iv cells, tv]), (A3, qe a)]
structure WT (t : Tm) (A3 A4 A5 A7 : Nat) : Prop where
 t3 : Tm.get 3 t = .pointer (some ⟨A3, 0, none⟩)
 t4 : Tm.get 4 t = .pointer (some ⟨A4, 0, none⟩)
 t5 : Tm.get 5 t = .pointer (some ⟨A5, 0, none⟩)
 t7 : Tm.get 7 t = .pointer (some ⟨A7, 0, none⟩)
def zT (d : Bool) (k : Nat) (dst : Int) : Bool := if d then decide (0 ≤ dst ∧ dst < k) else decide (dst = 0)
def plB (p : Bool) (cells : Int) (k : Nat) (a : Ac) : Bool := if p then yF cells k a else decide (a.base = 0 ∧ a.size = 0 ∧ a.ixs.length = 0)
def esB (e f : Bool) (k : Nat) (a : Ac) : Bool := decide (e = decide (0 < a.es.length)) && decide (f = decide (0 < a.fs.length)) && (!e || qD k a.es) && (!f || qD k a.fs)
def toB (b : Bool) (n : Nat) (to : Int) : Bool := if b then decide (0 ≤ to ∧ to ≤ n) else decide (to = 0)
section
variable {m0 m : M} {A3 A4 A5 A7 : Nat} {a : Ac} {cells : Int} {tv av : Value} {k na : Nat} {t : Tm}
theorem wa1 (hst : St m0 m (waS A3 A4 A5 A7 a cells tv k av)) (hT : WT t A3 A4 A5 A7) {x : Ex} {kn kr : K} {ke : Nat → K} {Q : Option Out → Prop}
  (H : ∀ t', Tm.get 27 t' = .bool (!zT (pD a.op) k a.dst) → WT t' A3 A4 A5 A7 → Q (kn t' m)) : Q (FG x kn ke kr t m) := by
 have la : ∀ o s, load1 m ⟨A3, o, s⟩ = (qe a)[o]? := fun o s => (hst.get 3 rfl).2.2.load1 o s
 have lt : ∀ o s, load1 m ⟨A5, o, s⟩ = [iv k, av][o]? := fun o s => (hst.get 1 rfl).2.2.load1 o s
 have lh : ∀ o s, load1 m ⟨A7, o, s⟩ = (wE a.op)[o]? := fun o s => (hst.get 0 rfl).2.2.load1 o s
 obtain ⟨t3, t4, t5, t7⟩ := hT
 simp only [qe, wE] at la lh
 cases hd : pD a.op with
 | true =>
  rw [hd] at lh H
  by_cases h1 : a.dst < 0
  ·have e1 : (a.dst < 0) = True := eq_true h1
   have hb : zT true k a.dst = false := decide_eq_false (by omega)
   rw [hb] at H
   simp [la, lt, lh, t3, t5, t7, e1]
   exact H _ (by simp) ⟨by simp [t3], by simp [t4], by simp [t5], by simp [t7]⟩
  ·have e1 : (a.dst < 0) = False := eq_false h1
   by_cases h2 : (k : Int) ≤ a.dst
   ·have e2 : ((k : Int) ≤ a.dst) = True := eq_true h2
    have hb : zT true k a.dst = false := decide_eq_false (by omega)
    rw [hb] at H
    simp [la, lt, lh, t3, t5, t7, e1, e2]
    exact H _ (by simp) ⟨by simp [t3], by simp [t4], by simp [t5], by simp [t7]⟩
   ·have e2 : ((k : Int) ≤ a.dst) = False := eq_false h2
    have hb : zT true k a.dst = true := decide_eq_true (by omega)
    rw [hb] at H
    simp [la, lt, lh, t3, t5, t7, e1, e2]
    exact H _ (by simp) ⟨by simp [t3], by simp [t4], by simp [t5], by simp [t7]⟩
 | false =>
  rw [hd] at lh H
  have hb : zT false k a.dst = decide (a.dst = 0) := rfl
  rw [hb] at H
  simp [la, lt, lh, t3, t5, t7]
  exact H _ (by simp) ⟨by simp [t3], by simp [t4], by simp [t5], by simp [t7]⟩
theorem wa2 (hst : St m0 m (waS A3 A4 A5 A7 a cells tv k av)) (hT : WT t A3 A4 A5 A7) (hk : k < 1000000) (hc0 : 0 ≤ cells) (hc1 : cells ≤ 4096) (ha : AcOK m a) {N : Nat} {kn kr : K} {ke : Nat → K} {Q : Option Out → Prop}
  (H : ∀ t' m', Tm.get 50 t' = .bool (!plB (pP a.op) cells k a) → WT t' A3 A4 A5 A7 → Ext m m' → Q (kn t' m')) : Q (Gz (ex Tryz.prog (N + 3)) kn ke kr t m) := by
 have la : ∀ o s, load1 m ⟨A3, o, s⟩ = (qe a)[o]? := fun o s => (hst.get 3 rfl).2.2.load1 o s
 have lt : ∀ o s, load1 m ⟨A5, o, s⟩ = [iv k, av][o]? := fun o s => (hst.get 1 rfl).2.2.load1 o s
 have lh : ∀ o s, load1 m ⟨A7, o, s⟩ = (wE a.op)[o]? := fun o s => (hst.get 0 rfl).2.2.load1 o s
 have l11 : loads m ⟨A3, 0, none⟩ 11 = some (qe a) := (hst.get 3 rfl).2.2.loads (n := 11) (by simp [qe])
 have l2 : loads m ⟨A4, 0, none⟩ 2 = some [iv cells, tv] := (hst.get 2 rfl).2.2.loads (n := 2) (by simp)
 obtain ⟨t3, t4, t5, t7⟩ := hT
 simp only [wE] at lh
 obtain ⟨v3, m3, c1, c2, rfl⟩ := Kc k hk cells tv hc0 hc1 a N m hst.sees.self.base ha
 have hil : qL a.ix = some (.int .i64 (a.ixs.length : Int)) := ha.ix.len
 cases hd : pP a.op with
 | true =>
  rw [hd] at lh H
  have hb : plB true cells k a = yF cells k a := rfl
  rw [hb] at H
  cases hp : yF cells k a with
  | false =>
   rw [hp] at H c1
   simp [l11, l2, qf, lt, lh, t3, t4, t5, t7, c1]
   exact H _ _ (by simp) ⟨by simp [t3], by simp [t4], by simp [t5], by simp [t7]⟩ c2
  | true =>
   rw [hp] at H c1
   have st3 := hst.step c2
   have lh3 : ∀ o s, load1 m3 ⟨A7, o, s⟩ = (wE a.op)[o]? := fun o s => (st3.get 0 rfl).2.2.load1 o s
   simp only [wE] at lh3
   rw [hd] at lh3
   simp [l11, l2, qf, lt, lh, lh3, t3, t4, t5, t7, c1]
   exact H _ _ (by simp) ⟨by simp [t3], by simp [t4], by simp [t5], by simp [t7]⟩ c2
 | false =>
  rw [hd] at lh H
  simp only [qe] at la
  have hb : plB false cells k a = decide (a.base = 0 ∧ a.size = 0 ∧ a.ixs.length = 0) := rfl
  rw [hb] at H
  by_cases h1 : a.base = 0
  ·have d1 : decide (a.base = 0) = true := decide_eq_true h1
   by_cases h2 : a.size = 0
   ·have d2 : decide (a.size = 0) = true := decide_eq_true h2
    obtain ⟨n, hn⟩ := qb8 (a.ixs.length)
    rw [← hn] at hil H
    by_cases h3 : n = 0
    ·have e3 : ((0 : Int) < (n : Int)) = False := eq_false (by omega)
     have e3' : (0 < n) = False := eq_false (by omega)
     rw [decide_eq_true ⟨h1, h2, h3⟩] at H
     simp [la, lh, t3, t7, d1, d2, hil, e3, e3']
     exact H _ _ (by simp) ⟨by simp [t3], by simp [t4], by simp [t5], by simp [t7]⟩ (Ext.refl m)
    ·have e3 : ((0 : Int) < (n : Int)) = True := eq_true (by omega)
     have e3' : (0 < n) = True := eq_true (by omega)
     rw [decide_eq_false (fun h => h3 h.2.2)] at H
     simp [la, lh, t3, t7, d1, d2, hil, e3, e3']
     exact H _ _ (by simp) ⟨by simp [t3], by simp [t4], by simp [t5], by simp [t7]⟩ (Ext.refl m)
   ·have d2 : decide (a.size = 0) = false := decide_eq_false h2
    rw [decide_eq_false (fun h => h2 h.2.1)] at H
    simp [la, lh, t3, t7, d1, d2]
    exact H _ _ (by simp) ⟨by simp [t3], by simp [t4], by simp [t5], by simp [t7]⟩ (Ext.refl m)
  ·have d1 : decide (a.base = 0) = false := decide_eq_false h1
   rw [decide_eq_false (fun h => h1 h.1)] at H
   simp [la, lh, t3, t7, d1]
   exact H _ _ (by simp) ⟨by simp [t3], by simp [t4], by simp [t5], by simp [t7]⟩ (Ext.refl m)
theorem wa3 (hst : St m0 m (waS A3 A4 A5 A7 a cells tv k av)) (hT : WT t A3 A4 A5 A7) (hk : k < 1000000) (ha : AcOK m a) {N : Nat} {kn kr : K} {ke : Nat → K} {Q : Option Out → Prop}
  (H : ∀ t' m', Tm.get 80 t' = .bool (!esB (pE a.op) (pF a.op) k a) → WT t' A3 A4 A5 A7 → Ext m m' → Q (kn t' m')) : Q (Zz (ex Tryz.prog (N + 2)) kn ke kr t m) := by
 have la : ∀ o s, load1 m ⟨A3, o, s⟩ = (qe a)[o]? := fun o s => (hst.get 3 rfl).2.2.load1 o s
 have lt : ∀ o s, load1 m ⟨A5, o, s⟩ = [iv k, av][o]? := fun o s => (hst.get 1 rfl).2.2.load1 o s
 have lh : ∀ o s, load1 m ⟨A7, o, s⟩ = (wE a.op)[o]? := fun o s => (hst.get 0 rfl).2.2.load1 o s
 obtain ⟨t3, t4, t5, t7⟩ := hT
 simp only [wE] at lh
 simp only [qe] at la
 have hel : qL a.ev = some (.int .i64 (a.es.length : Int)) := ha.ev.len
 have hfl : qL a.fv = some (.int .i64 (a.fs.length : Int)) := ha.fv.len
 have dd : ∀ n : Nat, decide ((0 : Int) < (n : Int)) = decide (0 < n) := fun n => decide_eq_decide.2 (by omega)
 have hE : esB (pE a.op) (pF a.op) k a = (decide (pE a.op = decide (0 < a.es.length)) && decide (pF a.op = decide (0 < a.fs.length)) && (!(pE a.op) || qD k a.es) && (!(pF a.op) || qD k a.fs)) := rfl
 rw [hE] at H
 obtain ⟨e, he⟩ := qb8 (pE a.op)
 obtain ⟨f, hf⟩ := qb8 (pF a.op)
 obtain ⟨ne, hne⟩ := qb8 (a.es.length)
 obtain ⟨nf, hnf⟩ := qb8 (a.fs.length)
 rw [← he, ← hf] at lh H
 rw [← hne, ← hnf] at H
 rw [← hne] at hel
 rw [← hnf] at hfl
 obtain ⟨be, hbe⟩ := qb8 (decide (0 < ne))
 obtain ⟨bf, hbf⟩ := qb8 (decide (0 < nf))
 have de : decide ((0 : Int) < (ne : Int)) = be := by rw [dd, hbe]
 have df : decide ((0 : Int) < (nf : Int)) = bf := by rw [dd, hbf]
 rw [← hbe, ← hbf] at H
 have de' := hbe.symm
 have df' := hbf.symm
 by_cases h1 : ¬ e = be
 ·have hx : (e != be) = true := by cases e <;> cases be <;> simp_all
  have hy : (decide (e = be)) = false := decide_eq_false h1
  rw [hy] at H
  simp [la, lh, t3, t5, t7, hel, de, de', hx]
  exact H _ _ (by simp) ⟨by simp [t3], by simp [t4], by simp [t5], by simp [t7]⟩ (Ext.refl m)
 have h1 : e = be := Classical.byContradiction h1
 have hx : (e != be) = false := by rw [h1]; cases be <;> rfl
 rw [decide_eq_true h1, Bool.true_and] at H
 by_cases h2 : ¬ f = bf
 ·have hx2 : (f != bf) = true := by cases f <;> cases bf <;> simp_all
  rw [decide_eq_false h2] at H
  simp [la, lh, t3, t5, t7, hel, hfl, de, df, de', df', hx, hx2]
  exact H _ _ (by simp) ⟨by simp [t3], by simp [t4], by simp [t5], by simp [t7]⟩ (Ext.refl m)
 have h2 : f = bf := Classical.byContradiction h2
 have hx2 : (f != bf) = false := by rw [h2]; cases bf <;> rfl
 rw [decide_eq_true h2, Bool.true_and] at H
 have part2 : ∀ (M1 : M) (E1 : Ext m M1), (e = true → qD k a.es = true) → ∃ m', ((f = false ∧ m' = M1) ∨ (f = true ∧ (ex Tryz.prog (N + 2)).f 108 [a.fv, iv k] M1 = some (.bool (qD k a.fs), m'))) ∧ Ext m m' := fun M1 E1 _ => by
  cases hf' : f with
  | false => exact ⟨M1, .inl ⟨rfl, rfl⟩, E1⟩
  | true =>
   obtain ⟨v4, m4, d1, d2, rfl⟩ := xW k hk a.fs a.fv ha.fvl N M1 ((hst.step E1).sees.self.base) (ha.fv.sees (hst.sees.self.ext E1))
   exact ⟨m4, .inr ⟨rfl, d1⟩, E1.trans d2⟩
 cases he' : e with
 | true =>
  obtain ⟨v3, m3, c1, c2, rfl⟩ := xW k hk a.es a.ev ha.evl N m hst.sees.self.base ha.ev
  have st3 := hst.step c2
  have la3 : ∀ o s, load1 m3 ⟨A3, o, s⟩ = (qe a)[o]? := fun o s => (st3.get 3 rfl).2.2.load1 o s
  have lt3 : ∀ o s, load1 m3 ⟨A5, o, s⟩ = [iv k, av][o]? := fun o s => (st3.get 1 rfl).2.2.load1 o s
  have lh3 : ∀ o s, load1 m3 ⟨A7, o, s⟩ = (wE a.op)[o]? := fun o s => (st3.get 0 rfl).2.2.load1 o s
  simp only [wE] at lh3
  simp only [qe] at la3
  rw [← he, ← hf] at lh3
  rw [he'] at lh lh3 hx H
  cases hp : qD k a.es with
  | false =>
   rw [hp] at c1 H
   simp [la, lh, lt, la3, lh3, lt3, t3, t5, t7, hel, hfl, de, df, de', df', hx, hx2, c1]
   exact H _ _ (by simp) ⟨by simp [t3], by simp [t4], by simp [t5], by simp [t7]⟩ c2
  | true =>
   rw [hp] at c1 H
   obtain ⟨m4, hm4, E4⟩ := part2 m3 c2 (fun _ => hp)
   rcases hm4 with ⟨hf', rfl⟩ | ⟨hf', d1⟩
   ·rw [hf'] at lh lh3 hx2 H
    simp [la, lh, lt, la3, lh3, lt3, t3, t5, t7, hel, hfl, de, df, de', df', hx, hx2, c1]
    exact H _ _ (by simp) ⟨by simp [t3], by simp [t4], by simp [t5], by simp [t7]⟩ E4
   ·rw [hf'] at lh lh3 hx2 H
    cases hp2 : qD k a.fs with
    | false =>
     rw [hp2] at d1 H
     simp [la, lh, lt, la3, lh3, lt3, t3, t5, t7, hel, hfl, de, df, de', df', hx, hx2, c1, d1]
     exact H _ _ (by simp) ⟨by simp [t3], by simp [t4], by simp [t5], by simp [t7]⟩ E4
    | true =>
     rw [hp2] at d1 H
     simp [la, lh, lt, la3, lh3, lt3, t3, t5, t7, hel, hfl, de, df, de', df', hx, hx2, c1, d1]
     exact H _ _ (by simp) ⟨by simp [t3], by simp [t4], by simp [t5], by simp [t7]⟩ E4
 | false =>
  rw [he'] at lh hx H
  obtain ⟨m4, hm4, E4⟩ := part2 m (Ext.refl m) (fun h => by rw [he'] at h; cases h)
  rcases hm4 with ⟨hf', rfl⟩ | ⟨hf', d1⟩
  ·rw [hf'] at lh hx2 H
   simp [la, lh, lt, t3, t5, t7, hel, hfl, de, df, de', df', hx, hx2]
   exact H _ _ (by simp) ⟨by simp [t3], by simp [t4], by simp [t5], by simp [t7]⟩ E4
  ·rw [hf'] at lh hx2 H
   cases hp2 : qD k a.fs with
   | false =>
    rw [hp2] at d1 H
    simp [la, lh, lt, t3, t5, t7, hel, hfl, de, df, de', df', hx, hx2, d1]
    exact H _ _ (by simp) ⟨by simp [t3], by simp [t4], by simp [t5], by simp [t7]⟩ E4
   | true =>
    rw [hp2] at d1 H
    simp [la, lh, lt, t3, t5, t7, hel, hfl, de, df, de', df', hx, hx2, d1]
    exact H _ _ (by simp) ⟨by simp [t3], by simp [t4], by simp [t5], by simp [t7]⟩ E4
theorem wa4 (hst : St m0 m (waS A3 A4 A5 A7 a cells tv k av)) (hT : WT t A3 A4 A5 A7) (hav : qL av = some (.int .i64 (na : Int))) {x : Ex} {kn kr : K} {ke : Nat → K} {Q : Option Out → Prop}
  (H : ∀ t', Tm.get 115 t' = .bool (!toB (pT a.op) na a.to) → Q (kn t' m)) : Q (JE x kn ke kr t m) := by
 have la : ∀ o s, load1 m ⟨A3, o, s⟩ = (qe a)[o]? := fun o s => (hst.get 3 rfl).2.2.load1 o s
 have lt : ∀ o s, load1 m ⟨A5, o, s⟩ = [iv k, av][o]? := fun o s => (hst.get 1 rfl).2.2.load1 o s
 have lh : ∀ o s, load1 m ⟨A7, o, s⟩ = (wE a.op)[o]? := fun o s => (hst.get 0 rfl).2.2.load1 o s
 obtain ⟨t3, t4, t5, t7⟩ := hT
 simp only [qe, wE] at la lh
 cases hd : pT a.op with
 | true =>
  rw [hd] at lh H
  by_cases h1 : a.to < 0
  ·have e1 : (a.to < 0) = True := eq_true h1
   have hb : toB true na a.to = false := decide_eq_false (by omega)
   rw [hb] at H
   simp [la, lt, lh, t3, t5, t7, e1]
   exact H _ (by simp)
  ·have e1 : (a.to < 0) = False := eq_false h1
   by_cases h2 : (na : Int) < a.to
   ·have e2 : ((na : Int) < a.to) = True := eq_true h2
    have hb : toB true na a.to = false := decide_eq_false (by omega)
    rw [hb] at H
    simp [la, lt, lh, t3, t5, t7, e1, hav, e2]
    exact H _ (by simp)
   ·have e2 : ((na : Int) < a.to) = False := eq_false h2
    have hb : toB true na a.to = true := decide_eq_true (by omega)
    rw [hb] at H
    simp [la, lt, lh, t3, t5, t7, e1, hav, e2]
    exact H _ (by simp)
 | false =>
  rw [hd] at lh H
  have hb : toB false na a.to = decide (a.to = 0) := rfl
  rw [hb] at H
  simp [la, lt, lh, t3, t5, t7]
  exact H _ (by simp)
end
end Go.Sx
namespace Go.Sx
open Go.Dx Go.Proofs
set_option maxRecDepth 10000
def vl (cells : Int) (k na : Nat) (a : Ac) : Bool :=
 decide (1 ≤ a.op ∧ a.op ≤ 10) && (ky a.op a.mode && (zT (pD a.op) k a.dst && (plB (pP a.op) cells k a && (esB (pE a.op) (pF a.op) k a && toB (pT a.op) na a.to))))
theorem Ju (k : Nat) (hk : k < 1000000) (cells : Int) (tv : Value) (hc0 : 0 ≤ cells) (hc1 : cells ≤ 4096) (av : Value) (na : Nat) (hav : qL av = some (.int .i64 (na : Int))) (a : Ac) (N : Nat) (m : M) (hm : m.base ≤ m.n) (ha : AcOK m a) :
  CallV (ex Tryz.prog (N + 4)) 61 [.agg ⟨qe a⟩, .agg ⟨[iv cells, tv]⟩, .agg ⟨[iv k, av]⟩] m (.bool (vl cells k na a)) := by
 refine qp dd2_ok (by simp) ?_
 have st0 : St m m [] := St.nil hm (Ext.refl m)
 have st1 := st0.row (qe a)
 obtain ⟨m1, hm1⟩ := qb8 (Dx.newRow m (qe a))
 rw [← hm1] at st1
 have st2 := st1.row [iv cells, tv]
 obtain ⟨m2, hm2⟩ := qb8 (Dx.newRow m1 [iv cells, tv])
 rw [← hm2] at st2
 have st3 := st2.row [iv k, av]
 obtain ⟨m3, hm3⟩ := qb8 (Dx.newRow m2 [iv k, av])
 rw [← hm3] at st3
 have la : ∀ o s, load1 m3 ⟨m.n, o, s⟩ = (qe a)[o]? := fun o s => (st3.get 2 rfl).2.2.load1 o s
 simp only [qe] at la
 have hA : vl cells k na a = (decide (1 ≤ a.op ∧ a.op ≤ 10) && (ky a.op a.mode && (zT (pD a.op) k a.dst && (plB (pP a.op) cells k a && (esB (pE a.op) (pF a.op) k a && toB (pT a.op) na a.to))))) := rfl
 rw [hA]
 by_cases h1 : a.op < 1
 ·have e1 : (a.op < 1) = True := eq_true h1
  rw [decide_eq_false (show ¬ (1 ≤ a.op ∧ a.op ≤ 10) by omega)]
  simp [← hm1, ← hm2, ← hm3, la, e1]
  exact qh st3.ext (by simp)
 have e1 : (a.op < 1) = False := eq_false h1
 by_cases h2 : 10 < a.op
 ·have e2 : (10 < a.op) = True := eq_true h2
  rw [decide_eq_false (show ¬ (1 ≤ a.op ∧ a.op ≤ 10) by omega)]
  simp [← hm1, ← hm2, ← hm3, la, e1, e2]
  exact qh st3.ext (by simp)
 have e2 : (10 < a.op) = False := eq_false h2
 rw [decide_eq_true (show (1 ≤ a.op ∧ a.op ≤ 10) by omega), Bool.true_and]
 obtain ⟨v4, m4, c1, c2, rfl⟩ := may_c (N + 2) a.op a.mode m3
 have st4 := st3.step c2
 cases hmay : ky a.op a.mode with
 | false =>
  rw [hmay] at c1
  simp [← hm1, ← hm2, ← hm3, la, e1, e2, c1]
  exact qh st4.ext (by simp)
 | true =>
 rw [hmay] at c1
 rw [Bool.true_and]
 have la4 : ∀ o s, load1 m4 ⟨m.n, o, s⟩ = (qe a)[o]? := fun o s => (st4.get 2 rfl).2.2.load1 o s
 simp only [qe] at la4
 obtain ⟨v5, m5, d1, d2, rfl⟩ := Dz (N + 2) (op := a.op) (by omega) (by omega) m4 st4.sees.self.base
 have st5 := st4.step d2
 have st6 := st5.row [.bool false, .bool false, .bool false, .bool false, .bool false]
 obtain ⟨m6, hm6⟩ := qb8 (Dx.newRow m5 [.bool false, .bool false, .bool false, .bool false, .bool false])
 rw [← hm6] at st6
 obtain ⟨m7, s1, s2, s3, s4⟩ := st6.fill 0 rfl (n := 5) (l' := wE a.op) rfl rfl (by simp [wE, okC])
 have st7 : St m m7 (waS m.n m1.n m2.n m5.n a cells tv k av) := s2
 have E7 := st7.ext
 simp [← hm1, ← hm2, ← hm3, la, e1, e2, c1, la4, d1, ← hm6, s1, -Bx]
 refine wa1 (A3 := m.n) (A4 := m1.n) (A5 := m2.n) (A7 := m5.n) st7 ⟨by simp, by simp, by simp, by simp⟩ (fun t1 h27 T1 => ?_)
 cases hd : zT (pD a.op) k a.dst with
 | false =>
  rw [hd] at h27
  simp [h27]
  exact qh E7 (by simp)
 | true =>
 rw [hd] at h27
 rw [Bool.true_and]
 simp [h27, -Yz]
 refine wa2 st7 T1 hk hc0 hc1 (ha.sees st7.sees) (fun t2 m8 h50 T2 E8 => ?_)
 have st8 := st7.step E8
 cases hp : plB (pP a.op) cells k a with
 | false =>
  rw [hp] at h50
  simp [h50]
  exact qh st8.ext (by simp)
 | true =>
 rw [hp] at h50
 rw [Bool.true_and]
 simp [h50, -Ve]
 refine wa3 st8 T2 hk (ha.sees st8.sees) (fun t3 m9 h80 T3 E9 => ?_)
 have st9 := st8.step E9
 cases he : esB (pE a.op) (pF a.op) k a with
 | false =>
  rw [he] at h80
  simp [h80]
  exact qh st9.ext (by simp)
 | true =>
 rw [he] at h80
 rw [Bool.true_and]
 simp [h80, -Yi]
 refine wa4 st9 T3 hav (fun t4 h115 => ?_)
 cases ht : toB (pT a.op) na a.to with
 | false =>
  rw [ht] at h115
  simp [h115]
  exact qh st9.ext (by simp)
 | true =>
 rw [ht] at h115
 simp [h115]
 exact qh st9.ext (by simp)
structure Th where
 loc : Int
 av : Value
 acts : List Ac
def qE (t : Th) : List Value := [iv t.loc, t.av]
structure ThOK (m : M) (t : Th) : Prop where
 av : Rd m t.av 11 qe t.acts
 acts : ∀ a ∈ t.acts, AcOK m a
 len : t.acts.length ≤ 9223372036854775807
theorem ThOK.sees {m m' : M} {t : Th} (h : ThOK m t) (k : Sees m m') : ThOK m' t := ⟨h.av.sees k, fun a ha => (h.acts a ha).sees k, h.len⟩
def thB (cells : Int) (t : Th) : Bool := decide (0 ≤ t.loc ∧ t.loc ≤ 24) && (decide (t.acts.length ≤ 65536) && t.acts.all (vl cells t.loc.toNat t.acts.length))
structure Pg where
 cells : Int
 tv : Value
 ths : List Th
structure PgOK (m : M) (p : Pg) : Prop where
 tv : Rd m p.tv 2 qE p.ths
 ths : ∀ t ∈ p.ths, ThOK m t
 len : p.ths.length ≤ 9223372036854775807
theorem PgOK.sees {m m' : M} {p : Pg} (h : PgOK m p) (k : Sees m m') : PgOK m' p := ⟨h.tv.sees k, fun a ha => (h.ths a ha).sees k, h.len⟩
def pgB (p : Pg) : Bool := decide (0 ≤ p.cells ∧ p.cells ≤ 4096) && (decide (p.ths.length ≤ 64) && p.ths.all (thB p.cells))
def pgV (p : Pg) : Value := .agg ⟨[iv p.cells, p.tv]⟩
theorem xE {α : Type} {l : List α} {f : α → Bool} {i : Nat} {x : α} (h : l[i]? = some x) (hf : f x = false) : l.all f = false := by
 cases hc : l.all f with
 | false => rfl
 | true => exact absurd (List.all_eq_true.1 hc x (qaf h)) (by rw [hf]; simp)
theorem vo {α : Type} {l : List α} {f : α → Bool} (h : ∀ (i : Nat) x, i < l.length → l[i]? = some x → f x = true) : l.all f = true :=
 List.all_eq_true.2 fun x hx => let ⟨i, hi⟩ := qb1 hx; h i x (qag.1 hi).1 hi
theorem Xs (p : Pg) (N : Nat) (m : M) (hm : m.base ≤ m.n) (hp : PgOK m p) : CallV (ex Tryz.prog (N + 5)) 33 [pgV p] m (.bool (pgB p)) := by
 refine qp db7_ok (by simp) ?_
 obtain ⟨cells, tv, ths⟩ := p
 have st1 := (St.nil hm (Ext.refl m)).row [iv cells, tv]
 obtain ⟨m1, hm1⟩ := qb8 (Dx.newRow m [iv cells, tv])
 rw [← hm1] at st1
 have lp : ∀ o s, load1 m1 ⟨m.n, o, s⟩ = [iv cells, tv][o]? := fun o s => (st1.get 0 rfl).2.2.load1 o s
 obtain ⟨n, hn⟩ := qb8 (ths.length)
 have hll : qL tv = some (.int .i64 (n : Int)) := by rw [hn]; exact hp.tv.len
 have hB : pgB ⟨cells, tv, ths⟩ = (decide (0 ≤ cells ∧ cells ≤ 4096) && (decide (n ≤ 64) && ths.all (thB cells))) := by rw [hn]; rfl
 rw [hB]
 unfold pgV
 by_cases h1 : cells < 0
 ·have e1 : (cells < 0) = True := eq_true h1
  rw [decide_eq_false (show ¬ (0 ≤ cells ∧ cells ≤ 4096) by omega)]
  simp [← hm1, lp, e1]
  exact qh st1.ext (by simp)
 have e1 : (cells < 0) = False := eq_false h1
 by_cases h2 : 4096 < cells
 ·have e2 : (4096 < cells) = True := eq_true h2
  rw [decide_eq_false (show ¬ (0 ≤ cells ∧ cells ≤ 4096) by omega)]
  simp [← hm1, lp, e1, e2]
  exact qh st1.ext (by simp)
 have e2 : (4096 < cells) = False := eq_false h2
 rw [decide_eq_true (show (0 ≤ cells ∧ cells ≤ 4096) by omega), Bool.true_and]
 by_cases h3 : 64 < n
 ·have e3 : ((64 : Int) < (n : Int)) = True := eq_true (by omega)
  have e3' : (64 < n) = True := eq_true (by omega)
  rw [decide_eq_false (show ¬ (n ≤ 64) by omega)]
  simp [← hm1, lp, e1, e2, hll, e3, e3']
  exact qh st1.ext (by simp)
 have e3 : ((64 : Int) < (n : Int)) = False := eq_false (by omega)
 have e3' : (64 < n) = False := eq_false (by omega)
 rw [decide_eq_true (show (n ≤ 64) by omega), Bool.true_and]
 simp [← hm1, lp, e1, e2, hll, e3, e3']
 refine qq (c := GI) rfl (Ret m _) (fun i t m' => St m m' [(m.n, [iv cells, tv])] ∧ (∀ (j : Nat) x, j < i → ths[j]? = some x → thB cells x = true) ∧ Tm.get 1 t = .pointer (some ⟨m.n, 0, none⟩) ∧ Tm.get 22 t = tv ∧ Tm.get 23 t = iv n ∧ Tm.get 24 t = iv i) n (by omega)
  ⟨st1, fun j nd hj => absurd hj (qb7 _), by simp, by simp, by simp, by simp⟩ (fun i t m' k' hi hI hk' => ?_)
 obtain ⟨st, hok, t1, t22, t23, t24⟩ := hI
 by_cases hil : i < n
 ·have hd := dlt hil
  obtain ⟨th, hth⟩ : ∃ r, ths[i]? = some r := ⟨_, qae (by omega)⟩
  have ⟨a1, a2, _⟩ := hp.tv.at hth
  have a2' := a2 m' st.sees
  have hthok := hp.ths th (qaf hth)
  have ni := wj (i := i) (by omega)
  obtain ⟨loc, av, acts⟩ := th
  simp only [qE] at a2'
  have st1 := st.row [.int .i64 0, .slice none 0 0]
  obtain ⟨m1, hm1⟩ := qb8 (Dx.newRow m' [.int .i64 0, .slice none 0 0])
  rw [← hm1] at st1
  have okav : okC av = true := hthok.av.okV
  obtain ⟨m2, s1, s2, s3, s4⟩ := st1.fill 0 rfl (n := 2) (l' := [iv loc, av]) rfl rfl (by simp [okC]; exact okav)
  have s2' : St m m2 [(m'.n, [iv loc, av]), (m.n, [iv cells, tv])] := s2
  have l2 : ∀ o s, load1 m2 ⟨m'.n, o, s⟩ = [iv loc, av][o]? := fun o s => (s2'.get 0 rfl).2.2.load1 o s
  obtain ⟨na, hna⟩ := qb8 (acts.length)
  have hal : qL av = some (.int .i64 (na : Int)) := by rw [hna]; exact hthok.av.len
  have hnal : na ≤ 9223372036854775807 := by rw [hna]; exact hthok.len
  have hT : thB cells ⟨loc, av, acts⟩ = (decide (0 ≤ loc ∧ loc ≤ 24) && (decide (na ≤ 65536) && acts.all (vl cells loc.toNat na))) := by rw [hna]; rfl
  have bad : thB cells ⟨loc, av, acts⟩ = false → ths.all (thB cells) = false := fun h => xE hth h
  by_cases h4 : loc < 0
  ·have e4 : (loc < 0) = True := eq_true h4
   rw [bad (by rw [hT, decide_eq_false (show ¬ (0 ≤ loc ∧ loc ≤ 24) by omega)]; rfl)]
   simp [t1, t22, t23, t24, hd, a1, a2', qf, ← hm1, s1, l2, e4]
   exact qh s2'.ext (by simp)
  have e4 : (loc < 0) = False := eq_false h4
  by_cases h5 : 24 < loc
  ·have e5 : (24 < loc) = True := eq_true h5
   rw [bad (by rw [hT, decide_eq_false (show ¬ (0 ≤ loc ∧ loc ≤ 24) by omega)]; rfl)]
   simp [t1, t22, t23, t24, hd, a1, a2', qf, ← hm1, s1, l2, e4, e5]
   exact qh s2'.ext (by simp)
  have e5 : (24 < loc) = False := eq_false h5
  rw [decide_eq_true (show (0 ≤ loc ∧ loc ≤ 24) by omega), Bool.true_and] at hT
  by_cases h6 : 65536 < na
  ·have e6 : ((65536 : Int) < (na : Int)) = True := eq_true (by omega)
   have e6' : (65536 < na) = True := eq_true (by omega)
   rw [bad (by rw [hT, decide_eq_false (show ¬ (na ≤ 65536) by omega)]; rfl)]
   simp [t1, t22, t23, t24, hd, a1, a2', qf, ← hm1, s1, l2, e4, e5, hal, e6, e6']
   exact qh s2'.ext (by simp)
  have e6 : ((65536 : Int) < (na : Int)) = False := eq_false (by omega)
  have e6' : (65536 < na) = False := eq_false (by omega)
  rw [decide_eq_true (show (na ≤ 65536) by omega), Bool.true_and] at hT
  obtain ⟨q, rfl⟩ : ∃ q : Nat, loc = q := ⟨loc.toNat, by omega⟩
  rw [qat] at hT
  obtain ⟨z, hz⟩ : ∃ z : Int, z = (q : Int) := ⟨_, rfl⟩
  rw [← hz] at a2' s1 s2' l2 e4 e5
  simp [t1, t22, t23, t24, hd, a1, a2', qf, ← hm1, s1, l2, e4, e5, hal, e6, e6']
  refine qq (c := Fv) rfl (Ret m _) (fun j t m3 => St m m3 [(m'.n, [iv q, av]), (m.n, [iv cells, tv])] ∧ (∀ (j' : Nat) x, j' < j → acts[j']? = some x → vl cells q na x = true) ∧ Tm.get 1 t = .pointer (some ⟨m.n, 0, none⟩) ∧ Tm.get 4 t = .pointer (some ⟨m'.n, 0, none⟩) ∧ Tm.get 22 t = tv ∧ Tm.get 23 t = iv n ∧ Tm.get 24 t = iv i ∧ Tm.get 43 t = av ∧ Tm.get 44 t = iv na ∧ Tm.get 45 t = iv j) na (by omega)
   ⟨by rw [hz] at s2'; exact s2', fun j nd hj => absurd hj (qb7 _), by simp [t1], by simp, by simp [t22], by simp [t23], by simp [t24], by simp, by simp, by simp⟩ (fun j t m3 k3 hj hJ hk3 => ?_)
  obtain ⟨st3, hok3, t1, t4, t22, t23, t24, t43, t44, t45⟩ := hJ
  by_cases hjl : j < na
  ·have hd := dlt hjl
   obtain ⟨a, hac⟩ : ∃ r, acts[j]? = some r := ⟨_, qae (by omega)⟩
   have ⟨b1, b2, _⟩ := hthok.av.at hac
   have b2' := b2 m3 st3.sees
   have haok := hthok.acts a (qaf hac)
   have nj := wj (i := j) (by omega)
   obtain ⟨Z, hZ⟩ : ∃ Z : List Value, Z = [.int .i64 0, .int .i64 0, .int .i64 0, .int .i64 0, .slice none 0 0, .slice none 0 0, .slice none 0 0, .int .i64 0, .int .i64 0, .int .i64 0, .int .i64 0] := ⟨_, rfl⟩
   have st4 := st3.row Z
   obtain ⟨m4, hm4⟩ := qb8 (Dx.newRow m3 Z)
   rw [← hm4] at st4
   have okr : ∀ v ∈ qe a, okC v = true := by
    have o1 := haok.ix.okV
    have o2 := haok.ev.okV
    have o3 := haok.fv.okV
    intro v hv
    simp only [qe, List.mem_cons, List.not_mem_nil, or_false] at hv
    rcases hv with rfl | rfl | rfl | rfl | rfl | rfl | rfl | rfl | rfl | rfl | rfl <;> first | rfl | assumption
   obtain ⟨m5, w1, w2, w3, w4⟩ := st4.fill 0 rfl (n := 11) (l' := qe a) (by rw [hZ]; rfl) rfl okr
   have st5 : St m m5 [(m3.n, qe a), (m'.n, [iv q, av]), (m.n, [iv cells, tv])] := w2
   have l5a : loads m5 ⟨m3.n, 0, none⟩ 11 = some (qe a) := (st5.get 0 rfl).2.2.loads (n := 11) (by simp [qe])
   have l5t : loads m5 ⟨m'.n, 0, none⟩ 2 = some [iv q, av] := (st5.get 1 rfl).2.2.loads (n := 2) (by simp)
   have l5p : loads m5 ⟨m.n, 0, none⟩ 2 = some [iv cells, tv] := (st5.get 2 rfl).2.2.loads (n := 2) (by simp)
   obtain ⟨v6, m6, c1, c2, rfl⟩ := Ju q (by omega) cells tv (by omega) (by omega) av na hal a N m5 st5.sees.self.base (haok.sees st5.sees)
   have st6 := st5.step c2
   rw [hZ] at hm4
   cases hab : vl cells q na a with
   | true =>
    rw [hab] at c1
    simp [t1, t4, t43, t44, t45, hd, b1, b2', qf, ← hm4, w1, l5a, l5t, l5p, c1, nj]
    exact hk3 hjl _ _ ⟨st6.sub (by simp) (by have := st6.nd; simp at this ⊢; exact this.2), fun j' x hj' hx => by
     by_cases hjj : j' = j
     ·subst hjj; rw [hac] at hx; cases hx; exact hab
     ·exact hok3 j' x (by omega) hx, by simp [t1], by simp [t4], by simp [t22], by simp [t23], by simp [t24], by simp [t43], by simp [t44], by simp⟩
   | false =>
    rw [hab] at c1
    rw [bad (by rw [hT]; exact xE hac hab)]
    simp [t1, t4, t43, t44, t45, hd, b1, b2', qf, ← hm4, w1, l5a, l5t, l5p, c1]
    exact qh st6.ext (by simp)
  ·obtain rfl : j = na := by omega
   have hd : ((j : Int) < (j : Int)) = False := eq_false (by omega)
   have hth1 : thB cells ⟨(q : Int), av, acts⟩ = true := by rw [hT]; exact vo fun i' x hi' hx => hok3 i' x (by omega) hx
   simp [t1, t4, t22, t23, t24, t43, t44, t45, hd, ni]
   exact hk' hil _ _ ⟨st3.sub (by simp) (by have := st3.nd; simp at this ⊢), fun j' x hj' hx => by
    by_cases hjj : j' = i
    ·subst hjj; rw [hth] at hx; cases hx; exact hth1
    ·exact hok j' x (by omega) hx, by simp [t1], by simp [t22], by simp [t23], by simp⟩
 ·obtain rfl : i = n := by omega
  have hd : ((i : Int) < (i : Int)) = False := eq_false (by omega)
  rw [vo (f := thB cells) (l := ths) fun i' x hi' hx => hok i' x (by omega) hx]
  simp [t1, t22, t23, t24, hd]
  exact qh st.ext (by simp)
end Go.Sx
namespace Go.Sx
open Go.Dx Go.Proofs
set_option maxRecDepth 10000
theorem Of_c (l : List U) (e : List Nd) (ed ld : Value) (hlen : e.length ≤ 65536) (h0 : 0 < e.length) (hok : ∀ (i : Nat) n, e[i]? = some n → okN l.length i n = true) (F : Nat) (hF : 65540 ≤ F) (m : M) (hm : m.base ≤ m.n) (hed : Rd m ed 4 qg e) (hld : Rd m ld 1 kJ l) :
  CallV (ex Tryz.prog F) 10 [ed, ld] m (uv (kC l e (e.length - 1))) := by
 obtain ⟨n, hn⟩ := qb8 (e.length - 1)
 obtain ⟨N, rfl⟩ : ∃ N, F = (N + n + 2) + 1 := ⟨F - 1 - n - 2, by omega⟩
 refine qp da2_ok (by simp) ?_
 have hll : qL ed = some (.int .i64 (e.length : Int)) := hed.len
 have hs : IntKind.i64.wrap ((e.length : Int) - 1) = (n : Int) := by rw [wrap64 _ (by omega) (by omega)]; omega
 obtain ⟨v3, m3, c1, c2, rfl⟩ := at_c l e ed ld hlen hok n (by omega) N m hm hed hld
 rw [← hn]
 simp [hll, hs, c1]
 exact qh c2 (by simp)
def Wb (l : List U) (e : List Nd) : Nat × Int := if l.length ≤ 24 ∧ qD l.length e = true then (kC l e (e.length - 1), 0) else (0, 1)
theorem ku {α : Type} {m : M} {e : Nat} {f : α → List Value} : Rd m (.slice none 0 0) e f [] := ⟨rfl, fun i r hr => by simp at hr, rfl, fun B hB => by cases hB⟩
abbrev Zp (ed : Value) : List Value := [.int .i64 8, .int .i64 0, .int .i64 0, .int .i64 0, .slice none 0 0, ed, .slice none 0 0, .int .i64 0, .int .i64 0, .int .i64 0, .int .i64 0]
abbrev zAct : List Value := [.int .i64 0, .int .i64 0, .int .i64 0, .int .i64 0, .slice none 0 0, .slice none 0 0, .slice none 0 0, .int .i64 0, .int .i64 0, .int .i64 0, .int .i64 0]
theorem bAct (a : Option Addr) (n c : Nat) : wn zAct [(0, 1, .int .i64 8), (5, 1, .slice a n c)] = some (.agg ⟨Zp (.slice a n c)⟩) := rfl
theorem bActs (a : Option Addr) (n c : Nat) (m : M) : kc 11 1 (rep 1 zAct) [(0, 11, .agg ⟨Zp (.slice a n c)⟩)] m = some (Value.slice (some ⟨m.n, 0, some 23⟩) 1 1, Dx.newRow m (Zp (.slice a n c))) := rfl
theorem bTh (k : Int) (a : Option Addr) (n c : Nat) : wn [.int .i64 0, .slice none 0 0] [(0, 1, .int .i64 k), (1, 1, .slice a n c)] = some (.agg ⟨[.int .i64 k, .slice a n c]⟩) := rfl
theorem bThs (k : Int) (a : Option Addr) (n c : Nat) (m : M) : kc 2 1 (rep 1 [.int .i64 0, .slice none 0 0]) [(0, 2, .agg ⟨[.int .i64 k, .slice a n c]⟩)] m = some (Value.slice (some ⟨m.n, 0, some 5⟩) 1 1, Dx.newRow m [.int .i64 k, .slice a n c]) := rfl
theorem bPg (a : Option Addr) (n c : Nat) : wn [.int .i64 0, .slice none 0 0] [(1, 1, .slice a n c)] = some (.agg ⟨[.int .i64 0, .slice a n c]⟩) := rfl
theorem Js (l : List U) (e : List Nd) (ed ld : Value) (hel : e.length ≤ 9223372036854775807) (N : Nat) (m : M) (hm : m.base ≤ m.n) (hed : Rd m ed 4 qg e) (hld : Rd m ld 1 kJ l) :
  CallV (ex Tryz.prog (N + 6)) 100 [ed, ld] m (.tuple #[uv (Wb l e).1, iv (Wb l e).2]) := by
 refine qp de7_ok (by simp) ?_
 obtain ⟨k, hk⟩ := qb8 (l.length)
 have hll : qL ld = some (.int .i64 (k : Int)) := by rw [hk]; exact hld.len
 have hvr : Wb l e = if k ≤ 24 ∧ qD k e = true then (kC l e (e.length - 1), 0) else (0, 1) := by rw [hk]; rfl
 rw [hvr]
 by_cases h1 : 24 < k
 ·have e1 : ((24 : Int) < (k : Int)) = True := eq_true (by omega)
  have e1' : (24 < k) = True := eq_true h1
  rw [if_neg (by omega)]
  simp [hll, e1, e1']
  exact fy (Ext.refl m) (by simp)
 have e1 : ((24 : Int) < (k : Int)) = False := eq_false (by omega)
 have e1' : (24 < k) = False := eq_false h1
 obtain ⟨a, q, c, rfl⟩ : ∃ a q c, ed = .slice a q c := by
  have := hed.len
  cases ed with
  | slice a n c => exact ⟨a, n, c, rfl⟩
  | _ => cases this
 have st1 := (St.nil hm (Ext.refl m)).row (Zp (.slice a q c))
 obtain ⟨m1, hm1⟩ := qb8 (Dx.newRow m (Zp (.slice a q c)))
 rw [← hm1] at st1
 have st2 := st1.row [.int .i64 (k : Int), .slice (some ⟨m.n, 0, some 23⟩) 1 1]
 obtain ⟨m2, hm2⟩ := qb8 (Dx.newRow m1 [.int .i64 (k : Int), .slice (some ⟨m.n, 0, some 23⟩) 1 1])
 rw [← hm2] at st2
 have b2 := bActs a q c m
 rw [← hm1] at b2
 have b4 := bThs (k : Int) (some ⟨m.n, 0, some 23⟩) 1 1 m1
 rw [← hm2] at b4
 have S2 := st2.sees
 obtain ⟨ac, hac⟩ : ∃ ac : Ac, ac = ⟨8, 0, 0, 0, .slice none 0 0, .slice a q c, .slice none 0 0, 0, 0, 0, 0, [], e, []⟩ := ⟨_, rfl⟩
 obtain ⟨th, hth⟩ : ∃ th : Th, th = ⟨(k : Int), .slice (some ⟨m.n, 0, some 23⟩) 1 1, [ac]⟩ := ⟨_, rfl⟩
 obtain ⟨pg, hpg⟩ : ∃ pg : Pg, pg = ⟨0, .slice (some ⟨m1.n, 0, some 5⟩) 1 1, [th]⟩ := ⟨_, rfl⟩
 have okA : AcOK m2 ac := by rw [hac]; exact ⟨ku, hed.sees S2, ku, by simp, hel, by simp⟩
 have okT : ThOK m2 th := by
  rw [hth]
  refine ⟨?_, fun x hx => by rw [qal.1 hx]; exact okA, by simp⟩
  exact kZ (e := 11) (f := qe) (l := [ac]) (fun _ => rfl) (by rw [hac]; exact (st2.get 1 rfl).2.2) (st2.get 1 rfl).2.1
 have okP : PgOK m2 pg := by
  rw [hpg]
  refine ⟨?_, fun x hx => by rw [qal.1 hx]; exact okT, by simp⟩
  exact kZ (e := 2) (f := qE) (l := [th]) (fun _ => rfl) (by rw [hth]; exact (st2.get 0 rfl).2.2) (st2.get 0 rfl).2.1
 obtain ⟨v3, m3, c1, c2, rfl⟩ := Xs pg N m2 S2.base okP
 have st3 := st2.step c2
 have hB : pgB pg = qD k e := by
  have hA : vl 0 k 1 ac = qD k e := by
   rw [hac]
   by_cases h0 : e.length = 0
   ·rw [yD h0]
    have : decide (0 < e.length) = false := decide_eq_false (by omega)
    simp [vl, ky, zT, plB, esB, toB, pD, pP, pE, pF, pT, this]
   ·have : decide (0 < e.length) = true := decide_eq_true (by omega)
    have h0' : 0 < e.length := by omega
    simp [vl, ky, zT, plB, esB, toB, pD, pP, pE, pF, pT, this, h0']
  rw [hpg]
  show (decide ((0 : Int) ≤ 0 ∧ (0 : Int) ≤ 4096) && (decide (1 ≤ 64) && [th].all (thB 0))) = _
  rw [hth]
  show (true && (true && (((decide ((0 : Int) ≤ (k : Int) ∧ (k : Int) ≤ 24) && (decide (1 ≤ 65536) && [ac].all (vl 0 ((k : Int)).toNat 1)))) && true))) = _
  rw [decide_eq_true (show (0 : Int) ≤ (k : Int) ∧ (k : Int) ≤ 24 by omega), qat]
  show (true && (true && ((true && (true && (vl 0 k 1 ac && true))) && true))) = _
  rw [hA]; simp
 have hpv : pgV pg = .agg ⟨[.int .i64 0, .slice (some ⟨m1.n, 0, some 5⟩) 1 1]⟩ := by rw [hpg]; rfl
 rw [hB, hpv] at c1
 have b1 := bAct a q c
 have b3 := bTh (k : Int) (some ⟨m.n, 0, some 23⟩) 1 1
 have b5 := bPg (some ⟨m1.n, 0, some 5⟩) 1 1
 cases hb : qD k e with
 | false =>
  rw [hb] at c1
  rw [if_neg (by simp)]
  simp [hll, e1, e1', b1, b2, b3, b4, b5, c1]
  exact fy st3.ext (by simp)
 | true =>
  rw [hb] at c1
  obtain ⟨x1, x2, x3⟩ := wR hb
  obtain ⟨v4, m4, d1, d2, rfl⟩ := DR l e (.slice a q c) ld x2 x1 (by rw [← hk]; exact x3) (N + 2) m3 st3.sees.base (hed.sees st3.sees) (hld.sees st3.sees)
  rw [if_pos ⟨by omega, rfl⟩]
  obtain ⟨w, hw⟩ := qb8 (kC l e (e.length - 1))
  rw [← hw] at d1 ⊢
  simp [hll, e1, e1', b1, b2, b3, b4, b5, c1, d1]
  exact fy (st3.ext.trans d2) (by simp)
end Go.Sx
namespace Go.Sx
open Go.Dx Go.Proofs
def aw : Dx.Pre := ⟨11, [], .bool true, []⟩
noncomputable def xA (N : Nat) : Ex := ⟨fun g args m => bif Nat.beq g 11 then (exg Tryz.prog [aw] 1).f g args m else (ex Tryz.prog N).f g args m, (ex Tryz.prog N).y⟩
theorem xA_f (N g : Nat) (args : List Value) (m : M) (h : g ≠ 11) : (xA N).f g args m = (ex Tryz.prog N).f g args m := by
 show (bif Nat.beq g 11 then _ else _) = _
 rw [gx h]; rfl
theorem xA_aw (N : Nat) (m : M) : (xA N).f 11 [] m = some (.bool true, m) := rfl
theorem xA_ok (hP : Tryz.prog.follows .mixedOrders = true) (haw : PreOK2 Tryz.prog aw) (N : Nat) : jN Tryz.prog (xA N) := by
 refine ⟨fun g args m v m' h => ?_, (Xt hP N).y⟩
 change (bif Nat.beq g 11 then (exg Tryz.prog [aw] 1).f g args m else (ex Tryz.prog N).f g args m) = some (v, m') at h
 cases hb : Nat.beq g 11 with
 | true => rw [hb] at h; exact (JZ hP (l := [aw]) (fun p hp => by rw [qal.1 hp]; exact haw) 1).f g args m v m' h
 | false => rw [hb] at h; exact (Xt hP N).f g args m v m' h
theorem step_ret {P : Program} {x : Ex} {g : Nat} {c : SC} {nt : Nat} {res : List RV} {args : List Value} {m : M} {Q : Value → M → Prop} (hd : we P g = some ⟨c, nt, res⟩) (ha : args.length ≤ nt)
  (h : Ret m Q (c x (kD res) noK (kD res) (jg .blank 0 args) m)) : Dx.Call (Ex.step P x) g args m Q := by
 obtain ⟨v, m', e, h1, h2⟩ := h
 refine ⟨v, m', ?_, h1, h2⟩
 show ob (we P g) (fc x args m) = _
 rw [hd, qy, di _ _ _ _ _ _ ha]; exact e
end Go.Sx
