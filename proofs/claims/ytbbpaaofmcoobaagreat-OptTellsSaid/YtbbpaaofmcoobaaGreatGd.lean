/- Contracts. -/
import Derived.Test.YtbbpaaofmcoobaaGreatGc
import Derived.Test.YtbbpaaofmcoobaaGreatGb2
set_option linter.unusedVariables false
set_option linter.unusedSimpArgs false
set_option linter.defProp false
namespace Go.Sx
open Go.Dx Go.Proofs
abbrev iv (n : Int) : Value := .int .i64 n
theorem yes_c (n : Nat) (b : Bool) (m : M) : CallV (ex Tryz.prog (n + 1)) 53 [.bool b] m (uv (t01 b)) := by
 refine qp dc5_ok (by simp) ?_
 cases b
 ·simp; exact qh (Ext.refl _) (by simp [t01])
 ·simp; exact qh (Ext.refl _) (by simp [t01])
theorem Dw (n : Nat) (b : Bool) (m : M) : CallV (ex Tryz.prog (n + 1)) 270 [.bool b] m (uv (t01 b)) := by
 refine qp dh1_ok (by simp) ?_
 cases b
 ·simp; exact qh (Ext.refl _) (by simp [t01])
 ·simp; exact qh (Ext.refl _) (by simp [t01])
theorem idx_u (e : Nat) (v : Value) (i : Nat) : qZ e v (uv i) = qZ e v (.int .i64 (i : Int)) := by
 have : xh (uv i) = xh (.int .i64 (i : Int)) := rfl
 show ob (xh (uv i)) _ = ob (xh (.int .i64 (i : Int))) _
 rw [this]
theorem gS (l : List U) (e : List Nd) : ∀ i, kC l e i < 18446744073709551616 := by
 intro i
 have key : ∀ i, ∀ x ∈ evV l e i, x < 18446744073709551616 := by
  intro i
  induction i with
  | zero => intro x hx; cases hx
  | succ i ih =>
   intro x hx
   unfold evV at hx
   rcases qb6.1 hx with hx | hx
   ·exact ih x hx
   ·rw [qal.1 hx]
    have gd : ∀ j, (evV l e i).getD j 0 < 18446744073709551616 := fun j => by
     rw [List.getD_eq_getElem?_getD]
     cases h : (evV l e i)[j]? with
     | none => simp
     | some y => simpa using ih y (qaf h)
    cases h : e[i]? with
    | none => simp
    | some n =>
     show kN l (evV l e i) n < _
     unfold kN
     exact kU n.val.2 (kU (wAt_lt _ _) (kU (KH _ (gd _)) (KG _ (gd _) (gd _))))
 unfold kC
 rw [List.getD_eq_getElem?_getD]
 cases h : (evV l e (i + 1))[i]? with
 | none => simp
 | some y => simpa using key _ y (qaf h)
end Go.Sx
namespace Go.Sx
open Go.Dx Go.Proofs
set_option maxRecDepth 10000 in
theorem at_c (l : List U) (e : List Nd) (ed ld : Value) (hlen : e.length ≤ 65536) (hok : ∀ (i : Nat) n, e[i]? = some n → okN l.length i n = true) : ∀ (i : Nat), i < e.length → ∀ (N : Nat) (m : M), m.base ≤ m.n → Rd m ed 4 qg e → Rd m ld 1 kJ l →
  CallV (ex Tryz.prog (N + i + 2)) 30 [ed, iv i, ld] m (uv (kC l e i)) := by
 intro i
 induction i using Nat.strongRecOn with
 | _ i ih =>
 intro hi N m hm hed hld
 refine qp db5_ok (by simp) ?_
 obtain ⟨nd, hn⟩ : ∃ r, e[i]? = some r := ⟨_, qae hi⟩
 have hokn := hok i nd hn
 have hval := xL l e hn
 have ⟨a1, a2, _⟩ := hed.at hn
 have a2' := a2 m (Sees.refl hm)
 have st1 := (St.nil hm (Ext.refl m)).row [.int .i64 0, .int .u64 0, .int .i64 0, .int .i64 0]
 obtain ⟨m1, hm1⟩ := qb8 (Dx.newRow m [.int .i64 0, .int .u64 0, .int .i64 0, .int .i64 0])
 rw [← hm1] at st1
 obtain ⟨m2, s1, s2, s3, s4⟩ := st1.fill 0 rfl (n := 4) (l' := qg nd) rfl rfl (by simp [qg, okC])
 have s2' : St m m2 [(m.n, qg nd)] := s2
 have l2 : ∀ o s, load1 m2 ⟨m.n, o, s⟩ = (qg nd)[o]? := fun o s => (s2'.get 0 rfl).2.2.load1 o s
 obtain ⟨op, val, na, nb⟩ := nd
 simp only [qg] at a2' s1 l2
 have S2 := s2'.sees
 by_cases h1 : op = 1
 ·subst h1
  have hv : kC l e i = val.1 := by rw [hval]; unfold kN; rw [if_pos rfl]
  rw [hv]
  simp [a1, a2', qf, ← hm1, s1, l2]
  exact qh s2'.ext (by simp)
 by_cases h2 : op = 2
 ·subst h2
  have hk := of_decide_eq_true ((jU (k := l.length) (i := i) (n := ⟨2, val, na, nb⟩) rfl) ▸ hokn)
  have hv : kC l e i = wAt l val.1 := by rw [hval]; unfold kN; rw [if_neg (by simp), if_pos rfl]
  obtain ⟨w, hw⟩ : ∃ r, l[val.1]? = some r := ⟨_, qae hk.2.1⟩
  have hww : wAt l val.1 = w.1 := by unfold wAt; rw [hw]; rfl
  have ⟨b1, _, b3⟩ := (hld.sees S2).at hw
  have b1' := (idx_u 1 ld val.1).trans b1
  have b3' := b3 m2 0 none S2.self (by simp [kJ])
  rw [hv, hww]
  have hx : ∀ s, load1 m2 ⟨(adr 1 ld val.1).block, (adr 1 ld val.1).off, s⟩ = some (uv w.1) := fun s => b3 m2 0 s S2.self (by simp [kJ])
  have hx' : load1 m2 (adr 1 ld val.1) = some (uv w.1) := hx _
  simp [a1, a2', qf, ← hm1, s1, l2, b1', hx']
  exact qh s2'.ext (by simp)
 have hA' : 0 ≤ na ∧ na < i := by
  by_cases h3 : 3 ≤ op ∧ op ≤ 5
  ·have := of_decide_eq_true ((kE (k := l.length) (i := i) (n := ⟨op, val, na, nb⟩) h3.1 h3.2) ▸ hokn)
   exact ⟨this.1, this.2.1⟩
  ·have := of_decide_eq_true ((wU (k := l.length) (i := i) (n := ⟨op, val, na, nb⟩) h1 h2 h3) ▸ hokn)
   exact ⟨this.1, this.2.1⟩
 obtain ⟨A, rfl⟩ : ∃ A : Nat, na = A := ⟨na.toNat, by omega⟩
 have hA : A < i := by omega
 obtain ⟨v3, m3, c1, c2, rfl⟩ := ih A hA (by omega) (N + i - 1 - A) m2 S2.base (hed.sees S2) (hld.sees S2)
 rw [show N + i - 1 - A + A + 2 = N + i + 1 by omega] at c1
 obtain ⟨x, hx⟩ := qb8 (kC l e A)
 have hxl : x < 18446744073709551616 := by rw [hx]; exact gS l e A
 have hgA : (evV l e i).getD A 0 = x := by rw [hx]; exact kX l e hA
 rw [← hx] at c1
 have st3 := s2'.step c2
 have S3 := st3.sees
 have l3 : ∀ o s, load1 m3 ⟨m.n, o, s⟩ = [Value.int .i64 op, uv val.1, .int .i64 (A : Int), .int .i64 nb][o]? := fun o s => (st3.get 0 rfl).2.2.load1 o s
 by_cases h3 : 3 ≤ op ∧ op ≤ 5
 ·have hv : kC l e i = je op x := by
   rw [hval]; unfold kN
   rw [if_neg h1, if_neg h2, if_pos h3.2]
   show je op ((evV l e i).getD (Int.toNat (A : Int)) 0) = _
   rw [qat, hgA]
  rw [hv]
  rcases (by omega : op = 3 ∨ op = 4 ∨ op = 5) with rfl | rfl | rfl
  ·have hs : zf .sub (.int .u64 0) (uv x) = some (uv ((18446744073709551616 - x) % 18446744073709551616)) := by have := Xv (a := 0) (b := x) (by omega) hxl; rwa [Nat.zero_add] at this
   simp [-qz, -qC, a1, a2', qf, ← hm1, s1, l2, l3, c1, hs]
   exact qh st3.ext (by simp [je])
  ·have hs : zf .sub (.int .u64 18446744073709551615) (uv x) = some (uv (18446744073709551615 - x)) := by
    have := Xv (a := 18446744073709551615) (b := x) (by omega) hxl
    rwa [show (18446744073709551615 + (18446744073709551616 - x)) % 18446744073709551616 = 18446744073709551615 - x by omega] at this
   simp [-qz, -qC, a1, a2', qf, ← hm1, s1, l2, l3, c1, hs]
   exact qh st3.ext (by simp [je])
  ·obtain ⟨v4, m4, y1, y2, rfl⟩ := yes_c (N + i) (decide (x = 0)) m3
   simp [-qz, -qC, a1, a2', qf, ← hm1, s1, l2, l3, c1, y1]
   exact qh (st3.ext.trans y2) (by simp [je])
 have hk := of_decide_eq_true ((wU (k := l.length) (i := i) (n := ⟨op, val, (A : Int), nb⟩) h1 h2 h3) ▸ hokn)
 obtain ⟨-, -, hb0, hbi, h6, h19, -⟩ := hk
 simp only at hb0 hbi h6 h19
 obtain ⟨B, rfl⟩ : ∃ B : Nat, nb = B := ⟨nb.toNat, by omega⟩
 have hB : B < i := by omega
 obtain ⟨v4, m4, d1, d2, rfl⟩ := ih B hB (by omega) (N + i - 1 - B) m3 S3.base (hed.sees S3) (hld.sees S3)
 rw [show N + i - 1 - B + B + 2 = N + i + 1 by omega] at d1
 obtain ⟨y, hy⟩ := qb8 (kC l e B)
 have hyl : y < 18446744073709551616 := by rw [hy]; exact gS l e B
 have hgB : (evV l e i).getD B 0 = y := by rw [hy]; exact kX l e hB
 rw [← hy] at d1
 have st4 := st3.step d2
 have l4 : ∀ o s, load1 m4 ⟨m.n, o, s⟩ = [Value.int .i64 op, uv val.1, .int .i64 (A : Int), .int .i64 (B : Int)][o]? := fun o s => (st4.get 0 rfl).2.2.load1 o s
 have hv : kC l e i = wO op x y := by
  rw [hval]; unfold kN
  rw [if_neg h1, if_neg h2, if_neg (by show ¬ op ≤ 5; omega)]
  show wO op ((evV l e i).getD (Int.toNat (A : Int)) 0) ((evV l e i).getD (Int.toNat (B : Int)) 0) = _
  rw [qat, qat, hgA, hgB]
 rw [hv]
 have qadd := Kt x y
 have qsub := Xv hxl hyl
 have qmul := u_mul x y
 have qand := Gm hxl hyl
 have qor := u_or hxl hyl
 have qxor := u_xor hxl hyl
 have E4 := st4.ext
 have yes : ∀ b, ∃ m5, (ex Tryz.prog (N + i + 1)).f 53 [.bool b] m4 = some (uv (t01 b), m5) ∧ Ext m4 m5 := fun b => by
  obtain ⟨v5, m5, y1, y2, rfl⟩ := yes_c (N + i) b m4
  exact ⟨m5, y1, y2⟩
 rcases (by omega : op = 6 ∨ op = 7 ∨ op = 8 ∨ op = 9 ∨ op = 10 ∨ op = 11 ∨ op = 12 ∨ op = 13 ∨ op = 14 ∨ op = 15 ∨ op = 16 ∨ op = 17 ∨ op = 18 ∨ op = 19) with rfl | rfl | rfl | rfl | rfl | rfl | rfl | rfl | rfl | rfl | rfl | rfl | rfl | rfl
 ·simp [-qz, -qC, a1, a2', qf, ← hm1, s1, l2, l3, l4, c1, d1, qmul]
  exact qh E4 (by simp [wO])
 ·simp [-qz, -qC, a1, a2', qf, ← hm1, s1, l2, l3, l4, c1, d1, qadd]
  exact qh E4 (by simp [wO])
 ·simp [-qz, -qC, a1, a2', qf, ← hm1, s1, l2, l3, l4, c1, d1, qsub]
  exact qh E4 (by simp [wO])
 ·obtain ⟨sh, hsh⟩ := qb8 (y % 64)
  have hshl : sh < 64 := by rw [hsh]; exact Nat.mod_lt _ (by omega)
  have qrem : zf .rem (uv y) (.int .u64 64) = some (uv sh) := by rw [hsh]; exact u_rem (a := y) (b := 64) (by omega)
  have h2o : wO 9 x y = x * 2 ^ sh % 18446744073709551616 := by rw [hsh]; rfl
  rw [h2o]
  simp [-qz, -qC, a1, a2', qf, ← hm1, s1, l2, l3, l4, c1, d1]
  refine qq (c := FY) rfl (Ret m _) (fun j t m' => m' = m4 ∧ Tm.get 8 t = uv (x * 2 ^ j % 18446744073709551616) ∧ Tm.get 9 t = uv y ∧ Tm.get 10 t = uv j) sh (by omega)
   ⟨rfl, by simp [Nat.mod_eq_of_lt hxl], by simp, by simp⟩ (fun j t m' k hj hI hk => ?_)
  obtain ⟨rfl, t8, t9, t10⟩ := hI
  by_cases hjl : j < sh
  ·have hd := dlt hjl
   have q1 := Kt (x * 2 ^ j % 18446744073709551616) (x * 2 ^ j % 18446744073709551616)
   rw [Fa] at q1
   have q2 : zf .add (uv j) (.int .u64 1) = some (uv (j + 1)) := by have := Kt j 1; rwa [Nat.mod_eq_of_lt (by omega)] at this
   simp [-qz, -qC, t8, t9, t10, qrem, hd, q1, q2]
   exact hk hjl _ _ ⟨rfl, by simp, by simp [t9], by simp⟩
  ·obtain rfl : j = sh := by omega
   have hd : ((j : Int) < (j : Int)) = False := eq_false (by omega)
   simp [-qz, -qC, t8, t9, t10, qrem, hd]
   exact qh E4 (by simp)
 ·obtain ⟨sh, hsh⟩ := qb8 (y % 64)
  have hshl : sh < 64 := by rw [hsh]; exact Nat.mod_lt _ (by omega)
  have qrem : zf .rem (uv y) (.int .u64 64) = some (uv sh) := by rw [hsh]; exact u_rem (a := y) (b := 64) (by omega)
  have h2o : wO 10 x y = x / 2 ^ sh := by rw [hsh]; rfl
  rw [h2o]
  simp [-qz, -qC, a1, a2', qf, ← hm1, s1, l2, l3, l4, c1, d1]
  refine qq (c := BF) rfl (Ret m _) (fun j t m' => m' = m4 ∧ Tm.get 8 t = uv (x / 2 ^ j) ∧ Tm.get 9 t = uv y ∧ Tm.get 11 t = uv j) sh (by omega)
   ⟨rfl, by simp, by simp, by simp⟩ (fun j t m' k hj hI hk => ?_)
  obtain ⟨rfl, t8, t9, t10⟩ := hI
  by_cases hjl : j < sh
  ·have hd := dlt hjl
   have hxj : x / 2 ^ j ≤ x := Nat.div_le_self _ _
   have q1 : zf .quo (uv (x / 2 ^ j)) (.int .u64 2) = some (uv (x / 2 ^ (j + 1))) := by have := u_div (a := x / 2 ^ j) (b := 2) (by omega) (by omega); rwa [Yk] at this
   have q2 : zf .add (uv j) (.int .u64 1) = some (uv (j + 1)) := by have := Kt j 1; rwa [Nat.mod_eq_of_lt (by omega)] at this
   obtain ⟨xj, hxj'⟩ := qb8 (x / 2 ^ j)
   obtain ⟨xk, hxk'⟩ := qb8 (x / 2 ^ (j + 1))
   rw [← hxj', ← hxk'] at q1
   rw [← hxj'] at t8
   simp [-qz, -qC, t8, t9, t10, qrem, hd, q1, q2]
   exact hk hjl _ _ ⟨rfl, by simp [hxk'], by simp [t9], by simp⟩
  ·obtain rfl : j = sh := by omega
   have hd : ((j : Int) < (j : Int)) = False := eq_false (by omega)
   simp [-qz, -qC, t8, t9, t10, qrem, hd]
   exact qh E4 (by simp)
 ·simp [-qz, -qC, a1, a2', qf, ← hm1, s1, l2, l3, l4, c1, d1, qand]
  exact qh E4 (by simp [wO])
 ·simp [-qz, -qC, a1, a2', qf, ← hm1, s1, l2, l3, l4, c1, d1, qxor]
  exact qh E4 (by simp [wO])
 ·simp [-qz, -qC, a1, a2', qf, ← hm1, s1, l2, l3, l4, c1, d1, qor]
  exact qh E4 (by simp [wO])
 ·have hdec : decide ((x : Int) = (y : Int)) = decide (x = y) := decide_eq_decide.2 Int.ofNat_inj
  obtain ⟨m5, y1, y2⟩ := yes (decide ((x : Int) = (y : Int)))
  simp [-qz, -qC, a1, a2', qf, ← hm1, s1, l2, l3, l4, c1, d1, y1]
  exact qh (E4.trans y2) (by simp [wO, hdec])
 ·have hdec : decide ((x : Int) = (y : Int)) = decide (x = y) := decide_eq_decide.2 Int.ofNat_inj
  obtain ⟨m5, y1, y2⟩ := yes (!decide ((x : Int) = (y : Int)))
  simp [-qz, -qC, a1, a2', qf, ← hm1, s1, l2, l3, l4, c1, d1, y1]
  exact qh (E4.trans y2) (by simp [wO, hdec])
 ·obtain ⟨m5, y1, y2⟩ := yes (decide (x < y))
  simp [-qz, -qC, a1, a2', qf, ← hm1, s1, l2, l3, l4, c1, d1, y1]
  exact qh (E4.trans y2) (by simp [wO])
 ·obtain ⟨m5, y1, y2⟩ := yes (decide (x ≤ y))
  simp [-qz, -qC, a1, a2', qf, ← hm1, s1, l2, l3, l4, c1, d1, y1]
  exact qh (E4.trans y2) (by simp [wO])
 ·obtain ⟨m5, y1, y2⟩ := yes (decide (y < x))
  simp [-qz, -qC, a1, a2', qf, ← hm1, s1, l2, l3, l4, c1, d1, y1]
  exact qh (E4.trans y2) (by simp [wO])
 ·obtain ⟨m5, y1, y2⟩ := yes (decide (y ≤ x))
  simp [-qz, -qC, a1, a2', qf, ← hm1, s1, l2, l3, l4, c1, d1, y1]
  exact qh (E4.trans y2) (by simp [wO])
end Go.Sx
namespace Go.Sx
open Go.Dx Go.Proofs
set_option maxRecDepth 10000
theorem XA (n : Nat) (b : Bool) (m : M) : ∃ m5, (ex Tryz.prog (n + 1)).f 270 [.bool b] m = some (uv (t01 b), m5) ∧ Ext m m5 := by
 obtain ⟨v5, m5, y1, y2, rfl⟩ := Dw n b m
 exact ⟨m5, y1, y2⟩
theorem one_c (n : Nat) (op : Int) {a : Nat} (ha : a < 18446744073709551616) (m : M) : CallV (ex Tryz.prog (n + 2)) 220 [iv op, uv a] m (uv (je op a)) := by
 refine qp dg9_ok (by simp) ?_
 have qneg := u_neg ha
 have qnot := u_not ha
 by_cases h3 : op = 3
 ·subst h3
  simp [-qz, -qC, qneg]
  exact qh (Ext.refl _) (by simp [je])
 by_cases h4 : op = 4
 ·subst h4
  simp [-qz, -qC, qnot]
  exact qh (Ext.refl _) (by simp [je])
 obtain ⟨m5, y1, y2⟩ := XA n (decide (a = 0)) m
 simp [-qz, -qC, h3, h4, y1]
 exact qh y2 (by simp [je, h3, h4])
theorem ZZ {op : Int} (g : ∀ k : Int, 6 ≤ k → k ≤ 18 → ¬ op = k) (a b : Nat) : wO op a b = t01 (decide (b ≤ a)) := by
 unfold wO
 rw [if_neg (g 6 (by omega) (by omega)), if_neg (g 7 (by omega) (by omega)), if_neg (g 8 (by omega) (by omega)), if_neg (g 9 (by omega) (by omega)), if_neg (g 10 (by omega) (by omega)), if_neg (g 11 (by omega) (by omega)), if_neg (g 12 (by omega) (by omega)), if_neg (g 13 (by omega) (by omega)), if_neg (g 14 (by omega) (by omega)), if_neg (g 15 (by omega) (by omega)), if_neg (g 16 (by omega) (by omega)), if_neg (g 17 (by omega) (by omega)), if_neg (g 18 (by omega) (by omega))]
theorem two_c (n : Nat) (op : Int) {x y : Nat} (hxl : x < 18446744073709551616) (hyl : y < 18446744073709551616) (m : M) : CallV (ex Tryz.prog (n + 2)) 221 [iv op, uv x, uv y] m (uv (wO op x y)) := by
 refine qp dh0_ok (by simp) ?_
 have qadd := Kt x y
 have qsub := Xv hxl hyl
 have qmul := u_mul x y
 have qand := Gm hxl hyl
 have qor := u_or hxl hyl
 have qxor := u_xor hxl hyl
 have qlow := u_low hyl
 have E := Ext.refl m
 have yes := fun b => XA n b m
 obtain ⟨sh, hsh⟩ := qb8 (y % 64)
 have hshl : sh < 64 := by rw [hsh]; exact Nat.mod_lt _ (by omega)
 rw [← hsh] at qlow
 have qshl := u_shl (a := x) hshl
 have qshr := u_shr (a := x) hshl
 obtain ⟨r9, hr9⟩ := qb8 (x * 2 ^ sh % 18446744073709551616)
 obtain ⟨r10, hr10⟩ := qb8 (x / 2 ^ sh)
 rw [← hr9] at qshl
 rw [← hr10] at qshr
 have w9 : IntKind.u64.wrap ((x : Int) * 2 ^ min sh IntKind.u64.bits) = (r9 : Int) := by
  rw [show min sh IntKind.u64.bits = sh from Nat.min_eq_left (by show sh ≤ 64; omega), IntKind.wrap_u64, hr9]; exact (by rw [Int.natCast_emod, Int.natCast_mul, Int.natCast_pow]; rfl)
 have w10 : Int.fdiv (x : Int) (2 ^ min sh IntKind.u64.bits) = (r10 : Int) := by
  rw [show min sh IntKind.u64.bits = sh from Nat.min_eq_left (by show sh ≤ 64; omega), hr10, show ((2 : Int) ^ sh) = ((2 ^ sh : Nat) : Int) by push_cast; rfl, Int.ofNat_fdiv]
 have e9 : wO 9 x y = r9 := by rw [hr9, hsh]; rfl
 have e10 : wO 10 x y = r10 := by rw [hr10, hsh]; rfl
 by_cases h6 : op = 6
 ·subst h6
  simp [-qz, -qC, qmul]
  exact qh E (by simp [wO])
 by_cases h7 : op = 7
 ·subst h7
  simp [-qz, -qC, qadd]
  exact qh E (by simp [wO])
 by_cases h8 : op = 8
 ·subst h8
  simp [-qz, -qC, qsub]
  exact qh E (by simp [wO])
 by_cases h9 : op = 9
 ·subst h9
  rw [e9]
  simp [-qz, -qC, qlow]
  exact qh E (by simp [w9])
 by_cases h10 : op = 10
 ·subst h10
  rw [e10]
  simp [-qz, -qC, qlow]
  exact qh E (by simp [w10])
 by_cases h11 : op = 11
 ·subst h11
  simp [-qz, -qC, qand]
  exact qh E (by simp [wO])
 by_cases h12 : op = 12
 ·subst h12
  simp [-qz, -qC, qxor]
  exact qh E (by simp [wO])
 by_cases h13 : op = 13
 ·subst h13
  simp [-qz, -qC, qor]
  exact qh E (by simp [wO])
 by_cases h14 : op = 14
 ·subst h14
  have hdec : decide ((x : Int) = (y : Int)) = decide (x = y) := decide_eq_decide.2 Int.ofNat_inj
  obtain ⟨m5, y1, y2⟩ := yes (decide ((x : Int) = (y : Int)))
  simp [-qz, -qC, y1]
  exact qh y2 (by simp [wO, hdec])
 by_cases h15 : op = 15
 ·subst h15
  have hdec : decide ((x : Int) = (y : Int)) = decide (x = y) := decide_eq_decide.2 Int.ofNat_inj
  obtain ⟨m5, y1, y2⟩ := yes (!decide ((x : Int) = (y : Int)))
  simp [-qz, -qC, y1]
  exact qh y2 (by simp [wO, hdec])
 by_cases h16 : op = 16
 ·subst h16
  obtain ⟨m5, y1, y2⟩ := yes (decide (x < y))
  simp [-qz, -qC, y1]
  exact qh y2 (by simp [wO])
 by_cases h17 : op = 17
 ·subst h17
  obtain ⟨m5, y1, y2⟩ := yes (decide (x ≤ y))
  simp [-qz, -qC, y1]
  exact qh y2 (by simp [wO])
 by_cases h18 : op = 18
 ·subst h18
  obtain ⟨m5, y1, y2⟩ := yes (decide (y < x))
  simp [-qz, -qC, y1]
  exact qh y2 (by simp [wO])
 obtain ⟨m5, y1, y2⟩ := yes (decide (y ≤ x))
 simp [-qz, -qC, h6, h7, h8, h9, h10, h11, h12, h13, h14, h15, h16, h17, h18, y1]
 have hel := ZZ (op := op) (fun k k1 k2 => ?_) x y
 ·exact qh y2 (by simp [hel])
 rcases (by omega : k = 6 ∨ k = 7 ∨ k = 8 ∨ k = 9 ∨ k = 10 ∨ k = 11 ∨ k = 12 ∨ k = 13 ∨ k = 14 ∨ k = 15 ∨ k = 16 ∨ k = 17 ∨ k = 18) with rfl | rfl | rfl | rfl | rfl | rfl | rfl | rfl | rfl | rfl | rfl | rfl | rfl <;> assumption
end Go.Sx
namespace Go.Sx
open Go.Dx Go.Proofs
def grR (v : List Nat) (n : Nat) : List Value := v.map (fun x => uv x) ++ List.replicate (n - v.length) (uv 0)
theorem Dr {v : List Nat} {n : Nat} (h : v.length ≤ n) : (grR v n).length = n := by unfold grR; simp; omega
theorem Wa {v : List Nat} {n i : Nat} (h : i < v.length) : (grR v n)[i]? = some (uv (v.getD i 0)) := by
 unfold grR
 rw [qau (by simpa using h), qaw, qae h, List.getD_eq_getElem?_getD, qae h]
 rfl
theorem DG {v : List Nat} {n : Nat} (x : Nat) (h : v.length < n) : (grR v n).set v.length (uv x) = grR (v ++ [x]) n := by
 unfold grR
 rw [List.set_append_right _ _ (by simp), List.length_map, Nat.sub_self, show n - v.length = (n - (v ++ [x]).length) + 1 by simp; omega, List.replicate_succ, List.set_cons_zero, List.map_append, qb2]
 rfl
theorem DZ (n : Nat) : ((List.range n).flatMap fun _ => [Value.int .u64 0]) = grR [] n := by
 unfold grR
 rw [List.map_nil, List.nil_append, List.length_nil, Nat.sub_zero]
 induction n with
 | zero => rfl
 | succ n ih => rw [List.range_succ, List.flatMap_append, ih, List.replicate_succ']; rfl
set_option maxRecDepth 10000 in
theorem DR (l : List U) (e : List Nd) (ed ld : Value) (hlen : e.length ≤ 65536) (h0 : 0 < e.length) (hok : ∀ (i : Nat) n, e[i]? = some n → okN l.length i n = true) (N : Nat) (m : M) (hm : m.base ≤ m.n) (hed : Rd m ed 4 qg e) (hld : Rd m ld 1 kJ l) :
  CallV (ex Tryz.prog (N + 3)) 151 [ed, ld] m (uv (kC l e (e.length - 1))) := by
 refine qp dg1_ok (by simp) ?_
 obtain ⟨n, hn⟩ := qb8 (e.length)
 rw [← hn] at hlen h0
 have mk := zm (n := n) (e := 1) (bytes := 8) (zs := [.int .u64 0]) rfl (by omega) (by unfold qW; omega) (by omega) m
 rw [DZ] at mk
 have st1 := (St.nil hm (Ext.refl m)).row (grR [] n)
 obtain ⟨m1, hm1⟩ := qb8 (Dx.newRow m (grR [] n))
 rw [← hm1] at st1 mk
 have hll : qL ed = some (.int .i64 (n : Int)) := by rw [hn]; exact hed.len
 rw [← hn]
 simp [hll, mk]
 refine qq (c := Gp) rfl (Ret m _) (fun i t m' => St m m' [(m.n, grR (evV l e i) n)] ∧ Tm.get 5 t = .slice (some ⟨m.n, 0, some 3⟩) n n ∧ Tm.get 1 t = ld ∧ Tm.get 11 t = ed ∧ Tm.get 12 t = iv n ∧ Tm.get 13 t = iv i) n (by omega)
  ⟨st1, by simp; rfl, by simp, by simp, by simp, by simp⟩ (fun i t m' k hi hI hk => ?_)
 obtain ⟨st, t5, t1, t11, t12, t13⟩ := hI
 by_cases hil : i < n
 ·have hd := dlt hil
  obtain ⟨nd, hnd⟩ : ∃ r, e[i]? = some r := ⟨_, qae (by omega)⟩
  have hokn := hok i nd hnd
  have hval := xL l e hnd
  have hevl := vU l e i
  have hnext : evV l e (i + 1) = evV l e i ++ [kN l (evV l e i) nd] := by
   conv => lhs; unfold evV
   rw [hnd]
  have ⟨a1, a2, _⟩ := hed.at hnd
  have a2' := a2 m' st.sees
  have st1 := st.row [.int .i64 0, .int .u64 0, .int .i64 0, .int .i64 0]
  obtain ⟨m1, hm1⟩ := qb8 (Dx.newRow m' [.int .i64 0, .int .u64 0, .int .i64 0, .int .i64 0])
  rw [← hm1] at st1
  obtain ⟨m2, s1, s2, s3, s4⟩ := st1.fill 0 rfl (n := 4) (l' := qg nd) rfl rfl (by simp [qg, okC])
  have s2' : St m m2 [(m'.n, qg nd), (m.n, grR (evV l e i) n)] := s2
  have l2 : ∀ o s, load1 m2 ⟨m'.n, o, s⟩ = (qg nd)[o]? := fun o s => (s2'.get 0 rfl).2.2.load1 o s
  have g2 : ∀ o s, load1 m2 ⟨m.n, o, s⟩ = (grR (evV l e i) n)[o]? := fun o s => (s2'.get 1 rfl).2.2.load1 o s
  have ni := wj (i := i) (by omega)
  have ix : ∀ j, j < n → qZ 1 (.slice (some ⟨m.n, 0, some 3⟩) n n) (.int .i64 (j : Int)) = some (.pointer (some ⟨m.n, j, none⟩)) := fun j hj => by have := yc (e := 1) (c := 3) m.n n j hj; rwa [Nat.mul_one] at this
  have ixi := ix i hil
  have hset : ∀ x, x = kN l (evV l e i) nd → (grR (evV l e i) n).set i (uv x) = grR (evV l e (i + 1)) n := fun x hx => by
   have := DG (v := evV l e i) (n := n) x (by omega)
   rw [hevl] at this
   rw [this, hnext, hx]
  have hgl : i < (grR (evV l e i) n).length := by rw [Dr (by omega)]; exact hil
  obtain ⟨op, val, na, nb⟩ := nd
  simp only [qg] at a2' s1 l2
  have S2 := s2'.sees
  by_cases h1 : op = 1
  ·subst h1
   obtain ⟨m3, w1, w2, w3, w4⟩ := s2'.store 1 rfl (o := i) (v := uv val.1) hgl rfl
   have w2' : St m m3 [(m.n, grR (evV l e (i + 1)) n)] := by
    have := w2.sub (σ' := [(m.n, (grR (evV l e i) n).set i (uv val.1))]) (by simp) (by simp)
    rwa [hset val.1 (by unfold kN; rw [if_pos rfl])] at this
   simp [t5, t1, t11, t12, t13, hd, a1, a2', qf, ← hm1, s1, l2, ixi, w1, ni]
   exact hk hil _ _ ⟨w2', by simp [t5], by simp [t1], by simp [t11], by simp [t12], by simp⟩
  by_cases h2 : op = 2
  ·subst h2
   have hkk := of_decide_eq_true ((jU (k := l.length) (i := i) (n := ⟨2, val, na, nb⟩) rfl) ▸ hokn)
   obtain ⟨w, hw⟩ : ∃ r, l[val.1]? = some r := ⟨_, qae hkk.2.1⟩
   have hww : wAt l val.1 = w.1 := by unfold wAt; rw [hw]; rfl
   have ⟨b1, _, b3⟩ := (hld.sees S2).at hw
   have b1' := (idx_u 1 ld val.1).trans b1
   have hx : ∀ s, load1 m2 ⟨(adr 1 ld val.1).block, (adr 1 ld val.1).off, s⟩ = some (uv w.1) := fun s => b3 m2 0 s S2.self (by simp [kJ])
   have hx' : load1 m2 (adr 1 ld val.1) = some (uv w.1) := hx _
   obtain ⟨m3, w1, w2, w3, w4⟩ := s2'.store 1 rfl (o := i) (v := uv w.1) hgl rfl
   have w2' : St m m3 [(m.n, grR (evV l e (i + 1)) n)] := by
    have := w2.sub (σ' := [(m.n, (grR (evV l e i) n).set i (uv w.1))]) (by simp) (by simp)
    rwa [hset w.1 (by unfold kN; rw [if_neg (by simp), if_pos rfl]; exact hww.symm)] at this
   simp [t5, t1, t11, t12, t13, hd, a1, a2', qf, ← hm1, s1, l2, b1', hx', ixi, w1, ni]
   exact hk hil _ _ ⟨w2', by simp [t5], by simp [t1], by simp [t11], by simp [t12], by simp⟩
  have hA' : 0 ≤ na ∧ na < i := by
   by_cases h3 : 3 ≤ op ∧ op ≤ 5
   ·have := of_decide_eq_true ((kE (k := l.length) (i := i) (n := ⟨op, val, na, nb⟩) h3.1 h3.2) ▸ hokn)
    exact ⟨this.1, this.2.1⟩
   ·have := of_decide_eq_true ((wU (k := l.length) (i := i) (n := ⟨op, val, na, nb⟩) h1 h2 h3) ▸ hokn)
    exact ⟨this.1, this.2.1⟩
  obtain ⟨A, rfl⟩ : ∃ A : Nat, na = A := ⟨na.toNat, by omega⟩
  have hA : A < i := by omega
  obtain ⟨x, hx⟩ := qb8 (kC l e A)
  have hxl : x < 18446744073709551616 := by rw [hx]; exact gS l e A
  have hgA : (evV l e i).getD A 0 = x := by rw [hx]; exact kX l e hA
  have ixA := ix A (by omega)
  have gA : ∀ s, load1 m2 ⟨m.n, A, s⟩ = some (uv x) := fun s => by rw [g2, Wa (by omega), hgA]
  by_cases h3 : 3 ≤ op ∧ op ≤ 5
  ·have hv : kN l (evV l e i) ⟨op, val, (A : Int), nb⟩ = je op x := by
    unfold kN
    rw [if_neg h1, if_neg h2, if_pos h3.2]
    show je op ((evV l e i).getD (Int.toNat (A : Int)) 0) = _
    rw [qat, hgA]
   obtain ⟨v3, m3', c1, c2, c3, rfl⟩ := xJ (one_c N op hxl (qn m2))
   obtain ⟨m3, hm3⟩ := qb8 (behind m2 m3')
   rw [← hm3] at c3
   have st3 := s2'.step c3
   obtain ⟨y, hy⟩ := qb8 (je op x)
   rw [← hy] at c1 hv
   obtain ⟨m4', w1, w1', w2, w3, w4⟩ := st3.storeAny 1 rfl (o := i) (v := uv y) hgl rfl
   obtain ⟨m4, hm4⟩ := qb8 (behind m3 m4')
   rw [← hm4] at w2
   have w2' : St m m4 [(m.n, grR (evV l e (i + 1)) n)] := by
    have := w2.sub (σ' := [(m.n, (grR (evV l e i) n).set i (uv y))]) (by simp) (by simp)
    rwa [hset y hv.symm] at this
   have h5 : (op ≤ 5) = True := eq_true h3.2
   simp [t5, t1, t11, t12, t13, hd, a1, a2', qf, ← hm1, s1, l2, h1, h2, h5, ixi, ixA, gA, c1, ← hm3, w1, ← hm4, ni]
   exact hk hil _ _ ⟨w2', by simp [t5], by simp [t1], by simp [t11], by simp [t12], by simp⟩
  have hkk := of_decide_eq_true ((wU (k := l.length) (i := i) (n := ⟨op, val, (A : Int), nb⟩) h1 h2 h3) ▸ hokn)
  obtain ⟨-, -, hb0, hbi, h6, h19, -⟩ := hkk
  simp only at hb0 hbi h6 h19
  obtain ⟨B, rfl⟩ : ∃ B : Nat, nb = B := ⟨nb.toNat, by omega⟩
  have hB : B < i := by omega
  obtain ⟨y, hy⟩ := qb8 (kC l e B)
  have hyl : y < 18446744073709551616 := by rw [hy]; exact gS l e B
  have hgB : (evV l e i).getD B 0 = y := by rw [hy]; exact kX l e hB
  have ixB := ix B (by omega)
  have gB : ∀ s, load1 m2 ⟨m.n, B, s⟩ = some (uv y) := fun s => by rw [g2, Wa (by omega), hgB]
  have hv : kN l (evV l e i) ⟨op, val, (A : Int), (B : Int)⟩ = wO op x y := by
   unfold kN
   rw [if_neg h1, if_neg h2, if_neg (by show ¬ op ≤ 5; omega)]
   show wO op ((evV l e i).getD (Int.toNat (A : Int)) 0) ((evV l e i).getD (Int.toNat (B : Int)) 0) = _
   rw [qat, qat, hgA, hgB]
  obtain ⟨v3, m3', c1, c2, c3, rfl⟩ := xJ (two_c N op hxl hyl (qn m2))
  obtain ⟨m3, hm3⟩ := qb8 (behind m2 m3')
  rw [← hm3] at c3
  have st3 := s2'.step c3
  obtain ⟨z, hz⟩ := qb8 (wO op x y)
  rw [← hz] at c1 hv
  obtain ⟨m4', w1, w1', w2, w3, w4⟩ := st3.storeAny 1 rfl (o := i) (v := uv z) hgl rfl
  obtain ⟨m4, hm4⟩ := qb8 (behind m3 m4')
  rw [← hm4] at w2
  have w2' : St m m4 [(m.n, grR (evV l e (i + 1)) n)] := by
   have := w2.sub (σ' := [(m.n, (grR (evV l e i) n).set i (uv z))]) (by simp) (by simp)
   rwa [hset z hv.symm] at this
  have h5 : (op ≤ 5) = False := eq_false (by omega)
  simp [t5, t1, t11, t12, t13, hd, a1, a2', qf, ← hm1, s1, l2, h1, h2, h5, ixi, ixA, gA, ixB, gB, c1, ← hm3, w1, ← hm4, ni]
  exact hk hil _ _ ⟨w2', by simp [t5], by simp [t1], by simp [t11], by simp [t12], by simp⟩
 ·obtain rfl : i = n := by omega
  have hd : ((i : Int) < (i : Int)) = False := eq_false (by omega)
  have hs : IntKind.i64.wrap ((i : Int) - 1) = ((i - 1 : Nat) : Int) := by rw [wrap64 _ (by omega) (by omega)]; omega
  have hevl := vU l e i
  have ixi := yc (e := 1) (c := 3) m.n i (i - 1) (by omega)
  rw [Nat.mul_one] at ixi
  have gg : ∀ s, load1 m' ⟨m.n, i - 1, s⟩ = some (uv (kC l e (i - 1))) := fun s => by rw [(st.get 0 rfl).2.2.load1, Wa (by omega), kX l e (by omega)]
  simp [t5, t1, t11, t12, t13, hd, qL, hs, ixi, gg]
  exact qh st.ext (by simp)
end Go.Sx
namespace Go.Sx
open Go.Dx Go.Proofs
def rgR (n : Nat) (f : Nat → Value) : List Value := (List.range n).map f
theorem kg (n : Nat) (f : Nat → Value) : (rgR n f).length = n := by unfold rgR; simp
theorem kK {n j : Nat} (f : Nat → Value) (h : j < n) : (rgR n f)[j]? = some (f j) := by unfold rgR; rw [qaw, List.getElem?_range h]; rfl
theorem zI {n j : Nat} {f g : Nat → Value} {v : Value} (hne : ∀ k, k ≠ j → g k = f k) (hj : g j = v) : (rgR n f).set j v = rgR n g := by
 refine List.ext_getElem (by simp [rgR]) fun i h1 h2 => ?_
 rw [List.getElem_set]
 by_cases h : j = i
 ·subst h; rw [if_pos rfl]; simp [rgR, hj]
 ·rw [if_neg h]; simp [rgR, hne i (Ne.symm h)]
theorem jk (n : Nat) (v : Value) : ((List.range n).flatMap fun _ => [v]) = rgR n fun _ => v := by
 unfold rgR
 induction n with
 | zero => rfl
 | succ n ih => rw [List.range_succ, List.flatMap_append, ih, List.map_append]; rfl
theorem Di (n : Nd) (j : Nat) : kG n j ≤ 2 := by unfold kG; split <;> split <;> omega
theorem gY (e : List Nd) (j : Nat) : ∀ i, qO e i j ≤ 2 * i
 | 0 => by unfold qO; simp
 | i + 1 => by
  cases h : e[i]? with
  | some n => rw [zR h]; have := gY e j i; have := Di n j; omega
  | none =>
   have hl := List.getElem?_eq_none_iff.1 h
   have := gY e j i
   unfold qO at this ⊢
   rw [List.take_of_length_le (by omega)] at this ⊢
   omega
theorem dH {op : Int} {val : U} {A B : Nat} (h : 6 ≤ op) (j : Nat) : kG ⟨op, val, (A : Int), (B : Int)⟩ j = (if A = j then 1 else 0) + (if B = j then 1 else 0) := by
 unfold kG
 have e1 : (3 ≤ op ∧ (A : Int) = (j : Int)) = (A = j) := by apply propext; omega
 have e2 : (6 ≤ op ∧ (B : Int) = (j : Int)) = (B = j) := by apply propext; omega
 simp only [e1, e2]
theorem bM {op nb : Int} {val : U} {A : Nat} (h : 3 ≤ op) (h' : ¬ 6 ≤ op) (j : Nat) : kG ⟨op, val, (A : Int), nb⟩ j = if A = j then 1 else 0 := by
 unfold kG
 have e1 : (3 ≤ op ∧ (A : Int) = (j : Int)) = (A = j) := by apply propext; omega
 simp only [e1]
 have e2 : (6 ≤ op ∧ nb = (j : Int)) = False := eq_false fun hc => h' hc.1
 simp only [e2, if_false, Nat.add_zero]
theorem Qh {op na nb : Int} {val : U} (h : ¬ 3 ≤ op) (j : Nat) : kG ⟨op, val, na, nb⟩ j = 0 := by
 unfold kG
 have e1 : (3 ≤ op ∧ na = (j : Int)) = False := eq_false fun hc => h hc.1
 have e2 : (6 ≤ op ∧ nb = (j : Int)) = False := eq_false fun hc => h (by have := hc.1; omega)
 simp only [e1, e2, if_false, Nat.add_zero]
set_option maxRecDepth 10000 in
theorem once_c (k : Nat) (e : List Nd) (ed : Value) (hlen : e.length ≤ 65536) (h0 : 0 < e.length) (hok : ∀ (i : Nat) n, e[i]? = some n → okN k i n = true) (N : Nat) (m : M) (hm : m.base ≤ m.n) (hed : Rd m ed 4 qg e) :
  CallV (ex Tryz.prog (N + 1)) 163 [ed] m (.bool (qD k e)) := by
 refine qp dg2_ok (by simp) ?_
 obtain ⟨n, hn⟩ := qb8 (e.length)
 rw [← hn] at hlen h0
 obtain ⟨n1, hn1⟩ : ∃ n1, n = n1 + 1 := ⟨n - 1, by omega⟩
 have mk := zm (n := n) (e := 1) (bytes := 8) (zs := [.int .i64 0]) rfl (by omega) (by unfold qW; omega) (by omega) m
 rw [jk] at mk
 have hz : rgR n (fun _ => Value.int .i64 0) = rgR n fun j => iv (qO e 0 j) := rfl
 rw [hz] at mk
 have st1 := (St.nil hm (Ext.refl m)).row (rgR n fun j => iv (qO e 0 j))
 obtain ⟨m1, hm1⟩ := qb8 (Dx.newRow m (rgR n fun j => iv (qO e 0 j)))
 rw [← hm1] at st1 mk
 have hll : qL ed = some (.int .i64 (n : Int)) := by rw [hn]; exact hed.len
 have ix : ∀ j, j < n → qZ 1 (.slice (some ⟨m.n, 0, some 3⟩) n n) (.int .i64 (j : Int)) = some (.pointer (some ⟨m.n, j, none⟩)) := fun j hj => by have := yc (e := 1) (c := 3) m.n n j hj; rwa [Nat.mul_one] at this
 simp [hll, mk]
 refine qq (c := BA) rfl (Ret m _) (fun i t m' => St m m' [(m.n, rgR n fun j => iv (qO e i j))] ∧ Tm.get 3 t = .slice (some ⟨m.n, 0, some 3⟩) n n ∧ Tm.get 0 t = ed ∧ Tm.get 11 t = ed ∧ Tm.get 12 t = iv n ∧ Tm.get 13 t = iv i) n (by omega)
  ⟨st1, by simp; rfl, by simp, by simp, by simp, by simp⟩ (fun i t m' k' hi hI hk => ?_)
 obtain ⟨st, t3, t0, t11, t12, t13⟩ := hI
 by_cases hil : i < n
 ·have hd := dlt hil
  obtain ⟨nd, hnd⟩ : ∃ r, e[i]? = some r := ⟨_, qae (by omega)⟩
  have hokn := hok i nd hnd
  have hsucc := zR hnd
  have ⟨a1, a2, _⟩ := hed.at hnd
  have a2' := a2 m' st.sees
  have st1 := st.row [.int .i64 0, .int .u64 0, .int .i64 0, .int .i64 0]
  obtain ⟨m1, hm1⟩ := qb8 (Dx.newRow m' [.int .i64 0, .int .u64 0, .int .i64 0, .int .i64 0])
  rw [← hm1] at st1
  obtain ⟨m2, s1, s2, s3, s4⟩ := st1.fill 0 rfl (n := 4) (l' := qg nd) rfl rfl (by simp [qg, okC])
  have s2' : St m m2 [(m'.n, qg nd), (m.n, rgR n fun j => iv (qO e i j))] := s2
  have l2 : ∀ o s, load1 m2 ⟨m'.n, o, s⟩ = (qg nd)[o]? := fun o s => (s2'.get 0 rfl).2.2.load1 o s
  have g2 : ∀ o s, load1 m2 ⟨m.n, o, s⟩ = (rgR n fun j => iv (qO e i j))[o]? := fun o s => (s2'.get 1 rfl).2.2.load1 o s
  have ni := wj (i := i) (by omega)
  obtain ⟨op, val, na, nb⟩ := nd
  simp only [qg] at a2' s1 l2
  have S2 := s2'.sees
  by_cases h3 : 3 ≤ op
  ·have hA' : 0 ≤ na ∧ na < i := by
    by_cases h3 : 3 ≤ op ∧ op ≤ 5
    ·have := of_decide_eq_true ((kE (k := k) (i := i) (n := ⟨op, val, na, nb⟩) h3.1 h3.2) ▸ hokn)
     exact ⟨this.1, this.2.1⟩
    ·have := of_decide_eq_true ((wU (k := k) (i := i) (n := ⟨op, val, na, nb⟩) (show ¬ op = 1 by omega) (show ¬ op = 2 by omega) h3) ▸ hokn)
     exact ⟨this.1, this.2.1⟩
   obtain ⟨A, rfl⟩ : ∃ A : Nat, na = A := ⟨na.toNat, by omega⟩
   have hA : A < i := by omega
   have ixA := ix A (by omega)
   have gA : ∀ s, load1 m2 ⟨m.n, A, s⟩ = some (iv (qO e i A)) := fun s => by rw [g2, kK _ (by omega)]
   have nA := wj (i := qO e i A) (by have := gY e A i; omega)
   obtain ⟨cA, hcA⟩ := qb8 (qO e i A)
   rw [← hcA] at gA nA
   obtain ⟨cA1, hcA1⟩ := qb8 (cA + 1)
   rw [← hcA1] at nA
   obtain ⟨m3, w1, w2, w3, w4⟩ := s2'.store 1 rfl (o := A) (v := iv (cA1 : Int)) (by rw [kg]; omega) rfl
   rw [zI (g := fun j => iv (qO e i j + (if A = j then 1 else 0) : Nat)) (fun q hq => by simp [Ne.symm hq]) (by simp [hcA1, hcA])] at w2
   have w2' : St m m3 [(m'.n, qg ⟨op, val, (A : Int), nb⟩), (m.n, rgR n fun j => iv (qO e i j + (if A = j then 1 else 0) : Nat))] := w2
   have l3 : ∀ o s, load1 m3 ⟨m'.n, o, s⟩ = (qg ⟨op, val, (A : Int), nb⟩)[o]? := fun o s => (w2'.get 0 rfl).2.2.load1 o s
   simp only [qg] at l3
   by_cases h6 : 6 ≤ op
   ·have hkk := of_decide_eq_true ((wU (k := k) (i := i) (n := ⟨op, val, (A : Int), nb⟩) (show ¬ op = 1 by omega) (show ¬ op = 2 by omega) (show ¬ (3 ≤ op ∧ op ≤ 5) by omega)) ▸ hokn)
    obtain ⟨-, -, hb0, hbi, -, h19, -⟩ := hkk
    simp only at hb0 hbi h19
    obtain ⟨B, rfl⟩ : ∃ B : Nat, nb = B := ⟨nb.toNat, by omega⟩
    have hB : B < i := by omega
    have ixB := ix B (by omega)
    obtain ⟨cB, hcB⟩ := qb8 (qO e i B + (if A = B then 1 else 0))
    have gB : ∀ s, load1 m3 ⟨m.n, B, s⟩ = some (iv cB) := fun s => by rw [hcB, (w2'.get 1 rfl).2.2.load1, kK _ (by omega)]
    have nB := wj (i := cB) (by rw [hcB]; have := gY e B i; split <;> omega)
    obtain ⟨cB1, hcB1⟩ := qb8 (cB + 1)
    rw [← hcB1] at nB
    obtain ⟨m4, x1, x2, x3, x4⟩ := w2'.store 1 rfl (o := B) (v := iv (cB1 : Int)) (by rw [kg]; omega) rfl
    rw [zI (g := fun j => iv (qO e (i + 1) j)) (fun q hq => by rw [hsucc, dH h6, if_neg (Ne.symm hq), Nat.add_zero]) (by rw [hsucc, dH h6, if_pos rfl, hcB1, hcB, Nat.add_assoc])] at x2
    have x2' : St m m4 [(m.n, rgR n fun j => iv (qO e (i + 1) j))] := x2.sub (by simp) (by simp)
    have e3 : (3 ≤ op) = True := eq_true h3
    have e6 : (6 ≤ op) = True := eq_true h6
    simp [t3, t0, t11, t12, t13, hd, a1, a2', qf, ← hm1, s1, l2, e3, ixA, gA, nA, w1, l3, e6, ixB, gB, nB, x1, ni]
    exact hk hil _ _ ⟨x2', by simp [t3], by simp [t0], by simp [t11], by simp [t12], by simp⟩
   ·have e3 : (3 ≤ op) = True := eq_true h3
    have e6 : (6 ≤ op) = False := eq_false h6
    have hfe : (fun j => iv (qO e i j + (if A = j then 1 else 0) : Nat)) = fun j => iv (qO e (i + 1) j) := funext fun j => by rw [hsucc, bM h3 h6]
    rw [hfe] at w2'
    have x2' : St m m3 [(m.n, rgR n fun j => iv (qO e (i + 1) j))] := w2'.sub (by simp) (by simp)
    simp [t3, t0, t11, t12, t13, hd, a1, a2', qf, ← hm1, s1, l2, e3, ixA, gA, nA, w1, l3, e6, ni]
    exact hk hil _ _ ⟨x2', by simp [t3], by simp [t0], by simp [t11], by simp [t12], by simp⟩
  ·have e3 : (3 ≤ op) = False := eq_false h3
   have e6 : (6 ≤ op) = False := eq_false (by omega)
   have hfe : (fun j => iv (qO e i j)) = fun j => iv (qO e (i + 1) j) := funext fun j => by rw [hsucc, Qh h3, Nat.add_zero]
   rw [hfe] at s2'
   have x2' : St m m2 [(m.n, rgR n fun j => iv (qO e (i + 1) j))] := s2'.sub (by simp) (by simp)
   simp [t3, t0, t11, t12, t13, hd, a1, a2', qf, ← hm1, s1, l2, e3, e6, ni]
   exact hk hil _ _ ⟨x2', by simp [t3], by simp [t0], by simp [t11], by simp [t12], by simp⟩
 ·obtain rfl : i = n := by omega
  have hd : ((i : Int) < (i : Int)) = False := eq_false (by omega)
  simp [t3, t0, t11, t12, t13, hd, qL]
  obtain ⟨c, hc⟩ := qb8 (fun j => qO e i j)
  have hcj : ∀ j, qO e i j = c j := fun j => by rw [hc]
  have gg : ∀ j s, j < i → load1 m' ⟨m.n, j, s⟩ = some (iv (c j)) := fun j s hj => by rw [(st.get 0 rfl).2.2.load1, kK _ hj, hcj]
  refine qq (c := FF) rfl (Ret m _) (fun j t m2 => m2 = m' ∧ (∀ q, q < j → c q = if q < i - 1 then 1 else 0) ∧ Tm.get 0 t = ed ∧ Tm.get 38 t = .slice (some ⟨m.n, 0, some 3⟩) i i ∧ Tm.get 39 t = iv i ∧ Tm.get 40 t = iv j) i (by omega)
   ⟨rfl, fun q hq => absurd hq (qb7 _), by simp [t0], by simp [t3], by simp, by simp⟩ (fun j t m2 k2 hj hJ hk2 => ?_)
  obtain ⟨rfl, hq, t0, t38, t39, t40⟩ := hJ
  by_cases hji : j < i
  ·have hd := dlt hji
   have ixj := ix j hji
   have gj := fun s => gg j s hji
   have nj := wj (i := j) (by omega)
   have hs : IntKind.i64.wrap ((i : Int) - 1) = (n1 : Int) := by rw [wrap64 _ (by omega) (by omega)]; omega
   have hfin : c j ≠ (if j < i - 1 then 1 else 0) → qD k e = false := fun h => vP (j := j) (by omega) (by rw [← hn, hcj]; exact h)
   obtain ⟨cj, hcjj⟩ := qb8 (c j)
   rw [← hcjj] at gj hfin
   by_cases hj1 : j < n1
   ·have hd1 := dlt hj1
    rw [if_pos (by omega)] at hfin
    by_cases h1 : cj = 1
    ·subst h1
     simp [t0, t38, t39, t40, hd, ixj, gj, hll, hs, hd1, hj1, nj]
     exact hk2 hji _ _ ⟨rfl, fun q hq' => by
      by_cases hqj : q = j
      ·subst hqj; rw [if_pos (by omega), ← hcjj]
      ·exact hq q (by omega), by simp [t0], by simp [t38], by simp [t39], by simp⟩
    ·have h1' : ((cj : Int) = 1) = False := eq_false (by omega)
     rw [hfin h1]
     simp [t0, t38, t39, t40, hd, ixj, gj, hll, hs, hd1, hj1, h1, h1', nj]
     exact qh st.ext (by simp)
   ·have hd1 : ((j : Int) < (n1 : Int)) = False := eq_false (by omega)
    rw [if_neg (by omega)] at hfin
    by_cases h1 : cj = 0
    ·subst h1
     simp [t0, t38, t39, t40, hd, ixj, gj, hll, hs, hd1, hj1, nj]
     exact hk2 hji _ _ ⟨rfl, fun q hq' => by
      by_cases hqj : q = j
      ·subst hqj; rw [if_neg (by omega), ← hcjj]
      ·exact hq q (by omega), by simp [t0], by simp [t38], by simp [t39], by simp⟩
    ·rw [hfin h1]
     by_cases h2 : cj = 1
     ·subst h2
      simp [t0, t38, t39, t40, hd, ixj, gj, hll, hs, hd1, hj1, nj]
      exact qh st.ext (by simp)
     ·have h2' : ((cj : Int) = 1) = False := eq_false (by omega)
      have h2'' : ((1 : Int) < (cj : Int)) = True := eq_true (by omega)
      have h2''' : (1 < cj) = True := eq_true (by omega)
      simp [t0, t38, t39, t40, hd, ixj, gj, hll, hs, hd1, hj1, h2, h2', h2'', h2''', nj]
      exact qh st.ext (by simp)
  ·obtain rfl : j = i := by omega
   have hd : ((j : Int) < (j : Int)) = False := eq_false (by omega)
   have hT : qD k e = true := by
    refine jz (by omega) (by omega) hok (fun q hq' => ?_) (fun q => ?_)
    ·rw [← hn, hcj, hq q (by omega), if_pos (by omega)]; omega
    ·rw [← hn, hcj]
     by_cases hqj : q < j
     ·rw [hq q hqj]; split <;> omega
     ·have : ∀ i', i' ≤ e.length → qO e i' q = 0 := by
       intro i'
       induction i' with
       | zero => intro _; rfl
       | succ i' ih =>
        intro hi'
        have hg : e[i']? = some e[i'] := qae (by omega)
        rw [zR hg, ih (by omega), Xr (hok i' _ hg) (by omega)]
      rw [← hcj, hn, this _ (qah _)]; omega
   rw [hT]
   simp [t0, t38, t39, t40, hd]
   exact qh st.ext (by simp)
end Go.Sx
namespace Go.Sx
open Go.Dx Go.Proofs
set_option maxRecDepth 10000
theorem GB {x : Ex} {kn kr : K} {ke : Nat → K} {t : Tm} {m : M} {nd : Nd} {i X : Nat} (l2 : ∀ o s, load1 m ⟨X, o, s⟩ = (qg nd)[o]?) (t6 : Tm.get 6 t = .pointer (some ⟨X, 0, none⟩)) (t5 : Tm.get 5 t = iv i) {Q : Option Out → Prop}
  (H : ∀ t', Tm.get 7 t' = .bool (decide (0 ≤ nd.a) && decide (nd.a < i)) → Tm.get 8 t' = .bool (decide (0 ≤ nd.b) && decide (nd.b < i)) → Tm.get 6 t' = Tm.get 6 t → Tm.get 0 t' = Tm.get 0 t → Tm.get 1 t' = Tm.get 1 t → Tm.get 9 t' = Tm.get 9 t → Tm.get 10 t' = Tm.get 10 t → Tm.get 11 t' = Tm.get 11 t → Q (kn t' m)) :
  Q (xS Bb x kn ke kr t m) := by
 obtain ⟨op, val, na, nb⟩ := nd
 simp only [qg] at l2
 simp only at H
 by_cases h1 : 0 ≤ na
 ·have e1 : (0 ≤ na) = True := eq_true h1
  by_cases h2 : 0 ≤ nb
  ·have e2 : (0 ≤ nb) = True := eq_true h2
   simp [l2, t6, t5, e1, e2]
   exact H _ (by simp [e1]) (by simp [e2]) (by simp) (by simp) (by simp) (by simp) (by simp) (by simp)
  ·have e2 : (0 ≤ nb) = False := eq_false h2
   simp [l2, t6, t5, e1, e2]
   exact H _ (by simp [e1]) (by simp [e2]) (by simp) (by simp) (by simp) (by simp) (by simp) (by simp)
 ·have e1 : (0 ≤ na) = False := eq_false h1
  by_cases h2 : 0 ≤ nb
  ·have e2 : (0 ≤ nb) = True := eq_true h2
   simp [l2, t6, t5, e1, e2]
   exact H _ (by simp [e1]) (by simp [e2]) (by simp) (by simp) (by simp) (by simp) (by simp) (by simp)
  ·have e2 : (0 ≤ nb) = False := eq_false h2
   simp [l2, t6, t5, e1, e2]
   exact H _ (by simp [e1]) (by simp [e2]) (by simp) (by simp) (by simp) (by simp) (by simp) (by simp)
theorem Yp {x : Ex} {kn kr : K} {ke : Nat → K} {t : Tm} {m : M} {nd : Nd} {k i X : Nat} (hk : k < 1000000) (l2 : ∀ o s, load1 m ⟨X, o, s⟩ = (qg nd)[o]?) (t6 : Tm.get 6 t = .pointer (some ⟨X, 0, none⟩)) (t1 : Tm.get 1 t = iv k)
  (t7 : Tm.get 7 t = .bool (decide (0 ≤ nd.a) && decide (nd.a < i))) (t8 : Tm.get 8 t = .bool (decide (0 ≤ nd.b) && decide (nd.b < i))) {Q : Option Out → Prop}
  (H : ∀ t' a b, Tm.get 7 t' = .bool a → Tm.get 8 t' = .bool b → (a && b) = okN k i nd → Tm.get 0 t' = Tm.get 0 t → Tm.get 1 t' = Tm.get 1 t → Tm.get 9 t' = Tm.get 9 t → Tm.get 10 t' = Tm.get 10 t → Tm.get 11 t' = Tm.get 11 t → Q (kn t' m)) :
  Q (BG x kn ke kr t m) := by
 obtain ⟨op, val, na, nb⟩ := nd
 simp only [qg] at l2
 simp only at t7 t8
 obtain ⟨a, ha⟩ := qb8 ((decide (0 ≤ na) && decide (na < i)))
 obtain ⟨b, hb⟩ := qb8 ((decide (0 ≤ nb) && decide (nb < i)))
 rw [← ha] at t7
 rw [← hb] at t8
 have cv := vZ k hk
 by_cases h1 : op = 1
 ·subst h1
  simp [l2, t6]
  exact H _ _ _ (by simp; rfl) (by simp; rfl) (by rw [WG rfl]; simp) (by simp) (by simp) (by simp) (by simp) (by simp)
 by_cases h2 : op = 2
 ·subst h2
  by_cases h3 : na = 0
  ·subst h3
   simp [l2, t6, t1, cv]
   exact H _ _ _ (by simp; rfl) (by simp; rfl) (by rw [jU rfl]; simp) (by simp) (by simp) (by simp) (by simp) (by simp)
  ·simp [l2, t6, t1, h3, cv]
   exact H _ _ _ (by simp; rfl) (by simp; rfl) (by rw [jU rfl]; simp [h3]) (by simp) (by simp) (by simp) (by simp) (by simp)
 by_cases h3 : 3 ≤ op
 ·have e3 : (3 ≤ op) = True := eq_true h3
  by_cases h5 : op ≤ 5
  ·have e5 : (op ≤ 5) = True := eq_true h5
   by_cases h4 : nb = 0
   ·subst h4
    simp [l2, t6, h1, h2, e3, e5]
    exact H _ a (decide (val.1 = 0)) (by simp [t7]) (by simp) (by
     rw [kE h3 h5, ha, ← Bool.decide_and, ← Bool.decide_and]; exact decide_eq_decide.2 (by simp [and_assoc])) (by simp) (by simp) (by simp) (by simp) (by simp)
   ·simp [l2, t6, h1, h2, e3, e5, h4]
    exact H _ a false (by simp [t7]) (by simp) (by rw [kE h3 h5]; simp [h4]) (by simp) (by simp) (by simp) (by simp) (by simp)
  ·have e5 : (op ≤ 5) = False := eq_false h5
   have hno := wU (k := k) (i := i) (n := ⟨op, val, na, nb⟩) h1 h2 (show ¬ (3 ≤ op ∧ op ≤ 5) by omega)
   simp only at hno
   have e6 : (6 ≤ op) = True := eq_true (by omega)
   cases b with
   | false =>
    simp [l2, t6, t8, h1, h2, e3, e5]
    exact H _ a false (by simp [t7]) (by simp) (by
     rw [hno, Bool.and_false]
     refine (decide_eq_false fun hc => ?_).symm
     rw [decide_eq_true hc.2.2.1, decide_eq_true hc.2.2.2.1] at hb
     cases hb) (by simp) (by simp) (by simp) (by simp) (by simp)
   | true =>
    have hb' : 0 ≤ nb ∧ nb < i := by
     have := hb.symm
     rw [qak] at this
     exact ⟨of_decide_eq_true this.1, of_decide_eq_true this.2⟩
    by_cases h19 : op ≤ 19
    ·have e19 : (op ≤ 19) = True := eq_true h19
     simp [l2, t6, t8, h1, h2, e3, e5, e6, e19]
     exact H _ a (decide (val.1 = 0)) (by simp [t7]) (by simp) (by
      rw [hno, ha, ← Bool.decide_and, ← Bool.decide_and]; exact decide_eq_decide.2 ⟨fun h => ⟨h.1.1, h.1.2, hb'.1, hb'.2, by omega, h19, h.2⟩, fun h => ⟨⟨h.1, h.2.1⟩, h.2.2.2.2.2.2⟩⟩) (by simp) (by simp) (by simp) (by simp) (by simp)
    ·have e19 : (op ≤ 19) = False := eq_false h19
     simp [l2, t6, t8, h1, h2, e3, e5, e6, e19]
     exact H _ a false (by simp [t7]) (by simp) (by rw [hno, Bool.and_false]; exact (decide_eq_false fun hc => h19 hc.2.2.2.2.2.1).symm) (by simp) (by simp) (by simp) (by simp) (by simp)
 ·have e3 : (3 ≤ op) = False := eq_false h3
  have e6 : (6 ≤ op) = False := eq_false (by omega)
  have hno := wU (k := k) (i := i) (n := ⟨op, val, na, nb⟩) h1 h2 (show ¬ (3 ≤ op ∧ op ≤ 5) by omega)
  simp only at hno
  have hF : okN k i ⟨op, val, na, nb⟩ = false := by rw [hno]; exact decide_eq_false fun hc => by have := hc.2.2.2.2.1; omega
  cases b with
  | false =>
   simp [l2, t6, t8, h1, h2, e3]
   exact H _ a false (by simp [t7]) (by simp) (by rw [hF, Bool.and_false]) (by simp) (by simp) (by simp) (by simp) (by simp)
  | true =>
   simp [l2, t6, t8, h1, h2, e3, e6]
   exact H _ a false (by simp [t7]) (by simp) (by rw [hF, Bool.and_false]) (by simp) (by simp) (by simp) (by simp) (by simp)
theorem xW (k : Nat) (hk : k < 1000000) (e : List Nd) (ed : Value) (hle : e.length ≤ 9223372036854775807) (N : Nat) (m : M) (hm : m.base ≤ m.n) (hed : Rd m ed 4 qg e) :
  CallV (ex Tryz.prog (N + 2)) 108 [ed, iv k] m (.bool (qD k e)) := by
 refine qp df3_ok (by simp) ?_
 obtain ⟨n, hn⟩ := qb8 (e.length)
 have hll : qL ed = some (.int .i64 (n : Int)) := by rw [hn]; exact hed.len
 simp [hll]
 refine qq (c := Gw) rfl (Ret m _) (fun i t m' => St m m' [] ∧ (∀ (j : Nat) nd, j < i → e[j]? = some nd → okN k j nd = true) ∧ Tm.get 0 t = ed ∧ Tm.get 1 t = iv k ∧ Tm.get 9 t = ed ∧ Tm.get 10 t = iv n ∧ Tm.get 11 t = iv i) n (by omega)
  ⟨St.nil hm (Ext.refl m), fun j nd hj => absurd hj (qb7 _), by simp, by simp, by simp, by simp, by simp⟩ (fun i t m' k' hi hI hk' => ?_)
 obtain ⟨st, hok, t0, t1, t9, t10, t11⟩ := hI
 by_cases hil : i < n
 ·have hd := dlt hil
  obtain ⟨nd, hnd⟩ : ∃ r, e[i]? = some r := ⟨_, qae (by omega)⟩
  have ⟨a1, a2, _⟩ := hed.at hnd
  have a2' := a2 m' st.sees
  have st1 := st.row [.int .i64 0, .int .u64 0, .int .i64 0, .int .i64 0]
  obtain ⟨m1, hm1⟩ := qb8 (Dx.newRow m' [.int .i64 0, .int .u64 0, .int .i64 0, .int .i64 0])
  rw [← hm1] at st1
  obtain ⟨m2, s1, s2, s3, s4⟩ := st1.fill 0 rfl (n := 4) (l' := qg nd) rfl rfl (by simp [qg, okC])
  have s2' : St m m2 [(m'.n, qg nd)] := s2
  have l2 : ∀ o s, load1 m2 ⟨m'.n, o, s⟩ = (qg nd)[o]? := fun o s => (s2'.get 0 rfl).2.2.load1 o s
  have s2'' : St m m2 [] := s2'.sub (by simp) (by simp)
  have ni := wj (i := i) (by omega)
  simp [t0, t1, t9, t10, t11, hd, a1, a2', qf, ← hm1, s1, -Dp, -Ya]
  refine GB (i := i) l2 (by simp) (by simp [t11]) (fun t' u7 u8 u6 u0 u1 u9 u10 u11 => ?_)
  simp [-Gl]
  refine Yp (i := i) (k := k) (X := m'.n) hk l2 (by simp [u6]) (by simp [u1, t1]) u7 u8 (fun t'' a b w7 w8 hab w0 w1 w9 w10 w11 => ?_)
  simp [t0, t1, t9, t10, t11] at u0 u1 u9 u10 u11
  rw [u0] at w0; rw [u1] at w1; rw [u9] at w9; rw [u10] at w10; rw [u11] at w11
  cases hokn : okN k i nd with
  | true =>
   rw [hokn] at hab
   rw [qak] at hab
   obtain ⟨rfl, rfl⟩ := hab
   simp [w7, w8, w0, w1, w9, w10, w11, ni]
   exact hk' hil _ _ ⟨s2'', fun j nd' hj hnd' => by
    by_cases hji : j = i
    ·subst hji; rw [hnd] at hnd'; cases hnd'; exact hokn
    ·exact hok j nd' (by omega) hnd', by simp [w0], by simp [w1], by simp [w9], by simp [w10], by simp⟩
  | false =>
   rw [hokn] at hab
   rw [Kk hnd hokn]
   cases a with
   | false =>
    simp [w7, w8, w0, w1, w9, w10, w11, ni]
    exact qh s2''.ext (by simp)
   | true =>
    rw [Bool.true_and] at hab
    subst hab
    simp [w7, w8, w0, w1, w9, w10, w11, ni]
    exact qh s2''.ext (by simp)
 ·obtain rfl : i = n := by omega
  have hd : ((i : Int) < (i : Int)) = False := eq_false (by omega)
  by_cases hi0 : i = 0
  ·subst hi0
   rw [yD hn.symm]
   simp [t0, t1, t9, t10, t11, hd, hll]
   exact qh st.ext (by simp)
  ·have hd0 : ((0 : Int) < (i : Int)) = True := eq_true (by omega)
   have hd0' : (0 < i) = True := eq_true (by omega)
   by_cases hil' : i ≤ 65536
   ·have e1 : ((i : Int) ≤ 65536) = True := eq_true (by omega)
    obtain ⟨v3, m3, c1, c2, rfl⟩ := once_c k e ed (by omega) (by omega) (fun j nd hnd => hok j nd (by have := (qag.1 hnd).1; omega) hnd) N m' st.sees.base (hed.sees st.sees)
    simp [t0, t1, t9, t10, t11, hd, hll, hd0, hd0', e1, c1]
    exact qh (st.ext.trans c2) (by simp)
   ·have e1 : ((i : Int) ≤ 65536) = False := eq_false (by omega)
    rw [bG (by omega)]
    simp [t0, t1, t9, t10, t11, hd, hll, hd0, hd0', e1]
    exact qh st.ext (by simp)
end Go.Sx
namespace Go.Sx
open Go.Dx Go.Proofs
set_option maxRecDepth 10000
def usB (c : Nat → Nat) : Nat → Value := fun j => .bool (decide (0 < c j))
theorem QP {c d : Nat → Nat} {q : Nat} (h : c q = d q) : usB c q = usB d q := by unfold usB; rw [h]
theorem KQ {c : Nat → Nat} {q : Nat} (h : 0 < c q) : usB c q = .bool true := by unfold usB; rw [decide_eq_true h]
theorem xP (k : Nat) (hk : k < 1000000) (e : List Nd) (ed : Value) (hle : e.length ≤ 9223372036854775807) (N : Nat) (m : M) (hm : m.base ≤ m.n) (hed : Rd m ed 4 qg e) :
  CallV (ex Tryz.prog (N + 1)) 51 [ed, iv k] m (.bool (qD k e)) := by
 refine qp dc3_ok (by simp) ?_
 obtain ⟨n, hn⟩ := qb8 (e.length)
 have hll : qL ed = some (.int .i64 (n : Int)) := by rw [hn]; exact hed.len
 by_cases hn0 : n = 0
 ·rw [yD (by omega)]
  subst hn0
  simp [hll]
  exact qh (Ext.refl _) (by simp)
 have e0 : ((n : Int) = 0) = False := eq_false (by omega)
 by_cases hnl : 65536 < n
 ·have e1 : ((65536 : Int) < (n : Int)) = True := eq_true (by omega)
  rw [bG (by omega)]
  simp [hll, hn0, e0, e1]
  exact qh (Ext.refl _) (by simp)
 have e1 : ((65536 : Int) < (n : Int)) = False := eq_false (by omega)
 obtain ⟨n1, hn1⟩ : ∃ n1, n = n1 + 1 := ⟨n - 1, by omega⟩
 have mk := zm (n := n) (e := 1) (bytes := 1) (zs := [.bool false]) rfl (by omega) (by unfold qW; omega) (by omega) m
 rw [jk] at mk
 have hz : rgR n (fun _ => Value.bool false) = rgR n (usB (qO e 0)) := rfl
 rw [hz] at mk
 have st1 := (St.nil hm (Ext.refl m)).row (rgR n (usB (qO e 0)))
 obtain ⟨m1, hm1⟩ := qb8 (Dx.newRow m (rgR n (usB (qO e 0))))
 rw [← hm1] at st1 mk
 have ix : ∀ j, j < n → qZ 1 (.slice (some ⟨m.n, 0, some 3⟩) n n) (.int .i64 (j : Int)) = some (.pointer (some ⟨m.n, j, none⟩)) := fun j hj => by have := yc (e := 1) (c := 3) m.n n j hj; rwa [Nat.mul_one] at this
 have hs : IntKind.i64.wrap ((n : Int) - 1) = (n1 : Int) := by rw [wrap64 _ (by omega) (by omega)]; omega
 have cv := vZ k hk
 simp [hll, hn0, e0, e1, mk]
 refine qq (c := FR) rfl (Ret m _) (fun i t m' => St m m' [(m.n, rgR n (usB (qO e i)))] ∧ (∀ (j : Nat) nd, j < i → e[j]? = some nd → okN k j nd = true) ∧ (∀ j, qO e i j ≤ 1) ∧ Tm.get 0 t = ed ∧ Tm.get 1 t = iv k ∧ Tm.get 5 t = .slice (some ⟨m.n, 0, some 3⟩) n n ∧ Tm.get 6 t = iv i) n (by omega)
  ⟨st1, fun j nd hj => absurd hj (qb7 _), fun j => by unfold qO; simp, by simp, by simp, by simp; rfl, by simp⟩ (fun i t m' k' hi hI hk' => ?_)
 obtain ⟨st, hok, hone, t0, t1, t5, t6⟩ := hI
 by_cases hil : i < n
 ·have hd := dlt hil
  obtain ⟨nd, hnd⟩ : ∃ r, e[i]? = some r := ⟨_, qae (by omega)⟩
  have hsucc := zR hnd
  have ⟨a1, a2, _⟩ := hed.at hnd
  have a2' := a2 m' st.sees
  have st1 := st.row [.int .i64 0, .int .u64 0, .int .i64 0, .int .i64 0]
  obtain ⟨m1, hm1⟩ := qb8 (Dx.newRow m' [.int .i64 0, .int .u64 0, .int .i64 0, .int .i64 0])
  rw [← hm1] at st1
  obtain ⟨m2, s1, s2, s3, s4⟩ := st1.fill 0 rfl (n := 4) (l' := qg nd) rfl rfl (by simp [qg, okC])
  have s2' : St m m2 [(m'.n, qg nd), (m.n, rgR n (usB (qO e i)))] := s2
  have l2 : ∀ o s, load1 m2 ⟨m'.n, o, s⟩ = (qg nd)[o]? := fun o s => (s2'.get 0 rfl).2.2.load1 o s
  have ni := wj (i := i) (by omega)
  have bad : okN k i nd = false → qD k e = false := Kk hnd
  have more : okN k i nd = true → ∀ (j : Nat) nd', j < i + 1 → e[j]? = some nd' → okN k j nd' = true := fun h j nd' hj hnd' => by
   by_cases hji : j = i
   ·subst hji; rw [hnd] at hnd'; cases hnd'; exact h
   ·exact hok j nd' (by omega) hnd'
  obtain ⟨op, val, na, nb⟩ := nd
  simp only [qg] at a2' s1 l2
  by_cases h12 : op = 1 ∨ op = 2
  ·have h3 : ¬ 3 ≤ op := by omega
   have hfe : qO e (i + 1) = qO e i := funext fun j => by rw [hsucc, Qh h3, Nat.add_zero]
   have s3' : St m m2 [(m.n, rgR n (usB (qO e (i + 1))))] := by rw [hfe]; exact s2'.sub (by simp) (by simp)
   have hone' : ∀ j, qO e (i + 1) j ≤ 1 := by rw [hfe]; exact hone
   have okq : okN k i ⟨op, val, na, nb⟩ = decide (na = 0 ∧ nb = 0 ∧ (op = 2 → val.1 < k)) := by
    rcases h12 with rfl | rfl
    ·rw [WG rfl]; exact decide_eq_decide.2 (by simp)
    ·rw [jU rfl]; exact decide_eq_decide.2 ⟨fun h => ⟨h.1, h.2.2, fun _ => h.2.1⟩, fun h => ⟨h.1, h.2.2 rfl, h.2.1⟩⟩
   by_cases ha : na = 0
   ·subst ha
    by_cases hb : nb = 0
    ·subst hb
     rcases h12 with rfl | rfl
     ·simp [hll, t0, t1, t5, t6, hd, a1, a2', qf, ← hm1, s1, l2, ni]
      exact hk' hil _ _ ⟨s3', more (by rw [okq]; simp), hone', by simp [t0], by simp [t1], by simp [t5], by simp⟩
     ·by_cases hv : val.1 < k
      ·have ev : ((k : Int) ≤ (val.1 : Int)) = False := eq_false (by omega)
       have ev' : (k ≤ val.1) = False := eq_false (by omega)
       simp [hll, t0, t1, t5, t6, hd, a1, a2', qf, ← hm1, s1, l2, ni, cv, ev, ev']
       exact hk' hil _ _ ⟨s3', more (by rw [okq]; simp [hv]), hone', by simp [t0], by simp [t1], by simp [t5], by simp⟩
      ·have ev : ((k : Int) ≤ (val.1 : Int)) = True := eq_true (by omega)
       have ev' : (k ≤ val.1) = True := eq_true (by omega)
       rw [bad (by rw [okq]; simp; omega)]
       simp [hll, t0, t1, t5, t6, hd, a1, a2', qf, ← hm1, s1, l2, ni, cv, ev, ev']
       exact qh s3'.ext (by simp)
    ·rw [bad (by rw [okq]; simp [hb])]
     rcases h12 with rfl | rfl
     ·simp [hll, t0, t1, t5, t6, hd, a1, a2', qf, ← hm1, s1, l2, hb]
      exact qh s3'.ext (by simp)
     ·simp [hll, t0, t1, t5, t6, hd, a1, a2', qf, ← hm1, s1, l2, hb]
      exact qh s3'.ext (by simp)
   ·rw [bad (by rw [okq]; simp [ha])]
    rcases h12 with rfl | rfl
    ·simp [hll, t0, t1, t5, t6, hd, a1, a2', qf, ← hm1, s1, l2, ha]
     exact qh s3'.ext (by simp)
    ·simp [hll, t0, t1, t5, t6, hd, a1, a2', qf, ← hm1, s1, l2, ha]
     exact qh s3'.ext (by simp)
  have h1 : ¬ op = 1 := fun h => h12 (.inl h)
  have h2 : ¬ op = 2 := fun h => h12 (.inr h)
  have s2x : Ext m m2 := s2'.ext
  by_cases hl1 : op < 1
  ·have el : (op < 1) = True := eq_true hl1
   rw [bad (by rw [wU h1 h2 (show ¬ (3 ≤ op ∧ op ≤ 5) by omega)]; exact decide_eq_false fun hc => by have := hc.2.2.2.2.1; simp only at this; omega)]
   simp [hll, t0, t1, t5, t6, hd, a1, a2', qf, ← hm1, s1, l2, h1, h2, el]
   exact qh s2x (by simp)
  have el : (op < 1) = False := eq_false hl1
  have h3 : 3 ≤ op := by omega
  by_cases hg : 19 < op
  ·have eg : (19 < op) = True := eq_true hg
   rw [bad (by rw [wU h1 h2 (show ¬ (3 ≤ op ∧ op ≤ 5) by omega)]; exact decide_eq_false fun hc => by have := hc.2.2.2.2.2.1; simp only at this; omega)]
   simp [hll, t0, t1, t5, t6, hd, a1, a2', qf, ← hm1, s1, l2, h1, h2, el, eg]
   exact qh s2x (by simp)
  have eg : (19 < op) = False := eq_false hg
  have okall : okN k i ⟨op, val, na, nb⟩ = true → 0 ≤ na ∧ na < i ∧ val.1 = 0 := fun h => by
   by_cases h35 : 3 ≤ op ∧ op ≤ 5
   ·have := of_decide_eq_true ((kE (k := k) (i := i) (n := ⟨op, val, na, nb⟩) h35.1 h35.2) ▸ h)
    exact ⟨this.1, this.2.1, this.2.2.2⟩
   ·have := of_decide_eq_true ((wU (k := k) (i := i) (n := ⟨op, val, na, nb⟩) h1 h2 h35) ▸ h)
    exact ⟨this.1, this.2.1, this.2.2.2.2.2.2⟩
  have bad' : (okN k i ⟨op, val, na, nb⟩ = true → False) → qD k e = false := fun h => bad (by cases hc : okN k i ⟨op, val, na, nb⟩ with | false => rfl | true => exact absurd hc h)
  by_cases hv : ¬ val.1 = 0
  ·have ev : ((val.1 : Int) = 0) = False := eq_false (by omega)
   rw [bad' fun h => hv (okall h).2.2]
   simp [hll, t0, t1, t5, t6, hd, a1, a2', qf, ← hm1, s1, l2, h1, h2, el, eg, hv, ev]
   exact qh s2x (by simp)
  have hv : val.1 = 0 := Classical.byContradiction hv
  have ev : decide ((val.1 : Int) = 0) = true := decide_eq_true (by omega)
  have ev' : decide (val.1 = 0) = true := decide_eq_true hv
  by_cases ha0 : na < 0
  ·have ea : (na < 0) = True := eq_true ha0
   rw [bad' fun h => by have := (okall h).1; omega]
   simp [hll, t0, t1, t5, t6, hd, a1, a2', qf, ← hm1, s1, l2, h1, h2, el, eg, ev, ev', ea]
   exact qh s2x (by simp)
  have ea : (na < 0) = False := eq_false ha0
  by_cases hai : (i : Int) ≤ na
  ·have eai : ((i : Int) ≤ na) = True := eq_true hai
   rw [bad' fun h => by have := (okall h).2.1; omega]
   simp [hll, t0, t1, t5, t6, hd, a1, a2', qf, ← hm1, s1, l2, h1, h2, el, eg, ev, ev', ea, eai]
   exact qh s2x (by simp)
  obtain ⟨A, rfl⟩ : ∃ A : Nat, na = A := ⟨na.toNat, by omega⟩
  have hA : A < i := by omega
  have eai : ((i : Int) ≤ (A : Int)) = False := eq_false hai
  have eai' : (i ≤ A) = False := eq_false (by omega)
  have eA0 : ((A : Int) < 0) = False := ea
  have ixA := ix A (by omega)
  have gA : ∀ s, load1 m2 ⟨m.n, A, s⟩ = some (.bool (decide (0 < qO e i A))) := fun s => by rw [(s2'.get 1 rfl).2.2.load1, kK _ (by omega)]; rfl
  by_cases huA : 0 < qO e i A
  ·have hb2 : qD k e = false := gE (i := i + 1) (j := A) (by omega) (by omega) (by
    rw [hsucc]
    by_cases h6 : 6 ≤ op
    ·have : 1 ≤ kG ⟨op, val, (A : Int), nb⟩ A := by unfold kG; rw [if_pos ⟨h3, rfl⟩]; omega
     omega
    ·rw [bM h3 h6, if_pos rfl]; omega)
   rw [decide_eq_true huA] at gA
   rw [hb2]
   simp [hll, t0, t1, t5, t6, hd, a1, a2', qf, ← hm1, s1, l2, h1, h2, el, eg, ev, ev', eA0, eai, eai', ixA, gA]
   exact qh s2x (by simp)
  rw [decide_eq_false huA] at gA
  have hcA : qO e i A = 0 := by omega
  obtain ⟨m3, w1, w2, w3, w4⟩ := s2'.store 1 rfl (o := A) (v := .bool true) (by rw [kg]; omega) rfl
  rw [zI (g := usB fun j => qO e i j + (if A = j then 1 else 0)) (fun q hq => QP (by show qO e i q + (if A = q then 1 else 0) = _; rw [if_neg (Ne.symm hq), Nat.add_zero])) (KQ (by show 0 < qO e i A + (if A = A then 1 else 0); rw [if_pos rfl]; omega))] at w2
  have w2' : St m m3 [(m'.n, qg ⟨op, val, (A : Int), nb⟩), (m.n, rgR n (usB fun j => qO e i j + (if A = j then 1 else 0)))] := w2
  have l3 : ∀ o s, load1 m3 ⟨m'.n, o, s⟩ = (qg ⟨op, val, (A : Int), nb⟩)[o]? := fun o s => (w2'.get 0 rfl).2.2.load1 o s
  simp only [qg] at l3
  by_cases h5 : op ≤ 5
  ·have e5 : (op ≤ 5) = True := eq_true h5
   have h6 : ¬ 6 ≤ op := by omega
   have hfe : qO e (i + 1) = fun j => qO e i j + (if A = j then 1 else 0) := funext fun j => by rw [hsucc, bM h3 h6]
   by_cases hb : nb = 0
   ·subst hb
    have hone' : ∀ j, qO e (i + 1) j ≤ 1 := fun j => by
     rw [hfe]
     show qO e i j + (if A = j then 1 else 0) ≤ 1
     by_cases hj : A = j
     ·subst hj; rw [if_pos rfl, hcA]; omega
     ·rw [if_neg hj]; exact hone j
    rw [← hfe] at w2'
    have s3' : St m m3 [(m.n, rgR n (usB (qO e (i + 1))))] := w2'.sub (by simp) (by simp)
    simp [hll, t0, t1, t5, t6, hd, a1, a2', qf, ← hm1, s1, l2, h1, h2, el, eg, ev, ev', eA0, eai, eai', ixA, gA, w1, l3, e5, ni]
    exact hk' hil _ _ ⟨s3', more (by rw [kE h3 h5]; simp [hv]; omega), hone', by simp [t0], by simp [t1], by simp [t5], by simp⟩
   ·rw [bad (by rw [kE h3 h5]; simp [hb])]
    simp [hll, t0, t1, t5, t6, hd, a1, a2', qf, ← hm1, s1, l2, h1, h2, el, eg, ev, ev', eA0, eai, eai', ixA, gA, w1, l3, e5, hb]
    exact qh w2'.ext (by simp)
  have e5 : (op ≤ 5) = False := eq_false h5
  have hno := wU (k := k) (i := i) (n := ⟨op, val, (A : Int), nb⟩) h1 h2 (show ¬ (3 ≤ op ∧ op ≤ 5) by omega)
  simp only at hno
  by_cases hb0 : nb < 0
  ·have eb : (nb < 0) = True := eq_true hb0
   rw [bad (by rw [hno]; exact decide_eq_false fun hc => by have := hc.2.2.1; omega)]
   simp [hll, t0, t1, t5, t6, hd, a1, a2', qf, ← hm1, s1, l2, h1, h2, el, eg, ev, ev', eA0, eai, eai', ixA, gA, w1, l3, e5, eb]
   exact qh w2'.ext (by simp)
  have eb : (nb < 0) = False := eq_false hb0
  by_cases hbi : (i : Int) ≤ nb
  ·have ebi : ((i : Int) ≤ nb) = True := eq_true hbi
   rw [bad (by rw [hno]; exact decide_eq_false fun hc => by have := hc.2.2.2.1; omega)]
   simp [hll, t0, t1, t5, t6, hd, a1, a2', qf, ← hm1, s1, l2, h1, h2, el, eg, ev, ev', eA0, eai, eai', ixA, gA, w1, l3, e5, eb, ebi]
   exact qh w2'.ext (by simp)
  obtain ⟨B, rfl⟩ : ∃ B : Nat, nb = B := ⟨nb.toNat, by omega⟩
  have hB : B < i := by omega
  have ebi : ((i : Int) ≤ (B : Int)) = False := eq_false hbi
  have ebi' : (i ≤ B) = False := eq_false (by omega)
  have eB0 : ((B : Int) < 0) = False := eb
  have ixB := ix B (by omega)
  have hfe : qO e (i + 1) = fun j => qO e i j + ((if A = j then 1 else 0) + (if B = j then 1 else 0)) := funext fun j => by rw [hsucc, dH (by omega)]
  have gB : ∀ s, load1 m3 ⟨m.n, B, s⟩ = some (.bool (decide (0 < qO e i B + (if A = B then 1 else 0)))) := fun s => by rw [(w2'.get 1 rfl).2.2.load1, kK _ (by omega)]; rfl
  obtain ⟨cB, hcB⟩ := qb8 (qO e i B + (if A = B then 1 else 0))
  rw [← hcB] at gB
  by_cases huB : 0 < cB
  ·have hb2 : qD k e = false := gE (i := i + 1) (j := B) (by omega) (by omega) (by
    rw [hfe]
    show 2 ≤ qO e i B + ((if A = B then 1 else 0) + (if B = B then 1 else 0))
    rw [if_pos (rfl : B = B)]; omega)
   rw [decide_eq_true huB] at gB
   rw [hb2]
   simp [hll, t0, t1, t5, t6, hd, a1, a2', qf, ← hm1, s1, l2, h1, h2, el, eg, ev, ev', eA0, eai, eai', ixA, gA, w1, l3, e5, eB0, ebi, ebi', ixB, gB]
   exact qh w2'.ext (by simp)
  rw [decide_eq_false huB] at gB
  have hcB0 : cB = 0 := by omega
  obtain ⟨m4, x1, x2, x3, x4⟩ := w2'.store 1 rfl (o := B) (v := .bool true) (by rw [kg]; omega) rfl
  rw [zI (g := usB (qO e (i + 1))) (fun q hq => QP (by rw [hfe]; show qO e i q + ((if A = q then 1 else 0) + (if B = q then 1 else 0)) = _; rw [if_neg (Ne.symm hq : ¬ B = q), Nat.add_zero])) (KQ (by rw [hfe]; show 0 < qO e i B + ((if A = B then 1 else 0) + (if B = B then 1 else 0)); rw [if_pos (rfl : B = B)]; omega))] at x2
  have s3' : St m m4 [(m.n, rgR n (usB (qO e (i + 1))))] := x2.sub (by simp) (by simp)
  have hone' : ∀ j, qO e (i + 1) j ≤ 1 := fun j => by
   rw [hfe]
   show qO e i j + ((if A = j then 1 else 0) + (if B = j then 1 else 0)) ≤ 1
   have := hone j
   by_cases hj : A = j
   ·subst hj
    by_cases hBA : B = A
    ·subst hBA; rw [if_pos rfl] at hcB; omega
    ·rw [if_pos rfl, if_neg hBA]; omega
   ·by_cases hj' : B = j
    ·subst hj'; rw [if_neg hj, if_pos rfl]; rw [if_neg hj] at hcB; omega
    ·rw [if_neg hj, if_neg hj']; omega
  simp [hll, t0, t1, t5, t6, hd, a1, a2', qf, ← hm1, s1, l2, h1, h2, el, eg, ev, ev', eA0, eai, eai', ixA, gA, w1, l3, e5, eB0, ebi, ebi', ixB, gB, x1, ni]
  exact hk' hil _ _ ⟨s3', more (by rw [hno]; exact decide_eq_true ⟨by omega, by omega, by omega, by omega, by omega, by omega, hv⟩), hone', by simp [t0], by simp [t1], by simp [t5], by simp⟩
 ·obtain rfl : i = n := by omega
  have hd : ((i : Int) < (i : Int)) = False := eq_false (by omega)
  simp [hll, t0, t1, t5, t6, hd]
  obtain ⟨c, hc⟩ := qb8 (qO e i)
  have gg : ∀ j s, j < i → load1 m' ⟨m.n, j, s⟩ = some (.bool (decide (0 < c j))) := fun j s hj => by rw [(st.get 0 rfl).2.2.load1, kK _ hj, hc]; rfl
  refine qq (c := FH) rfl (Ret m _) (fun j t m2 => m2 = m' ∧ (∀ q, q < j → 0 < c q) ∧ Tm.get 0 t = ed ∧ Tm.get 5 t = .slice (some ⟨m.n, 0, some 3⟩) i i ∧ Tm.get 8 t = iv j) n1 (by omega)
   ⟨rfl, fun q hq => absurd hq (qb7 _), by simp [t0], by simp [t5], by simp⟩ (fun j t m2 k2 hj hJ hk2 => ?_)
  obtain ⟨rfl, hq, t0, t5, t8⟩ := hJ
  by_cases hji : j < n1
  ·have hd := dlt hji
   have ixj := ix j (by omega)
   have gj := fun s => gg j s (by omega)
   have nj := wj (i := j) (by omega)
   by_cases hcj : 0 < c j
   ·rw [decide_eq_true hcj] at gj
    simp [hll, t0, t5, t8, hs, hd, ixj, gj, nj]
    exact hk2 hji _ _ ⟨rfl, fun q hq' => by
     by_cases hqj : q = j
     ·subst hqj; exact hcj
     ·exact hq q (by omega), by simp [t0], by simp [t5], by simp⟩
   ·rw [decide_eq_false hcj] at gj
    have hb2 : qD k e = false := vP (j := j) (by omega) (by rw [← hn, ← hc, if_pos (by omega)]; omega)
    rw [hb2]
    simp [hll, t0, t5, t8, hs, hd, ixj, gj, nj]
    exact qh st.ext (by simp)
  ·obtain rfl : j = n1 := by omega
   have hd : ((j : Int) < (j : Int)) = False := eq_false (by omega)
   have hT : qD k e = true := jz (by omega) (by omega) (fun j nd hnd => hok j nd (by have := (qag.1 hnd).1; omega) hnd) (fun q hq' => by rw [← hn, ← hc]; exact hq q (by omega)) (fun q => by rw [← hn]; exact hone q)
   rw [hT]
   simp [hll, t0, t5, t8, hs, hd]
   exact qh st.ext (by simp)
end Go.Sx
